/- Seal and Open, of package crc: contracts. -/
import Derived.Test.YtcdgaeenfhpnkaaCrc
set_option linter.unusedVariables false
set_option linter.unusedSimpArgs false
set_option maxRecDepth 100000
namespace Go.Proofs.Ytcdgaeenfhpnkaa
open Go Go.RowKit CrcMath

theorem lo_byte (s : Nat) : IntKind.u8.wrap (s : Int) = ((s % 256 : Nat) : Int) := by simp [IntKind.wrap, IntKind.bits, IntKind.signed]
theorem hi_byte (s : Nat) (h : s < 65536) : IntKind.u8.wrap ((s : Int) / 256) = ((s / 256 : Nat) : Int) := by simp [IntKind.wrap, IntKind.bits, IntKind.signed]; omega

set_option maxHeartbeats 1000000 in
theorem seal_any (A : Option Addr) (n c B : Nat) (l : List Nat) (w : World) (hr : Rd w B 1 A n (l.map bv)) (hB : B ≤ w.heap.size) (hb : ∀ c ∈ l, c < 256) (hn : n ≤ 1000000000) :
    Calls Try.prog 86 #[.slice A n c] w fun e w' => ∃ A' c', e = .returned (.slice A' (n + 2) c') ∧ w'.ownsRow w.heap.size 5 1 (.slice A' (n + 2) c') (n + 2) ((seal_ l).map bv) ∧ Below w.heap.size w w' := by
  have hl : l.length = n := by have := hr.1; simpa using this
  obtain ⟨i0, hi, hz0, hz1, hz2⟩ := info_parts info_u8
  have hs := sum_lt l hb
  go_enter Try.func86, Try.ntmps86
  go_wp2_with (first
    | (with_reducible refine wpList_mk _ rfl (.tmp 6) (.tmp 9) 27 rfl w.heap.size 5 i0 (.int .u8 0) Try.underlying27 hi hz0 hz1 rfl .i64 .i64 _ _ n (n + 2) rfl rfl rfl ?e1 ?e2 ?e3 ?e4 (Nat.le_refl _) ?_)
    | fail)
  case e1 => omega
  case e2 => omega
  case e3 => rw [hz2]; omega
  case e4 => unfold maxLen; omega
  intro w1 hown1 hg1
  have hb1 : Below w.heap.size w w1 := (Below.refl _ _).grown hg1 (Nat.le_refl _) (by simp)
  have hr1 := (hr.more hB).below hb1
  have hsz1 := hb1.size
  go_wp2_with (first
    | (with_reducible refine wpList_cpy _ rfl (.tmp 11) (.tmp 12) 27 27 rfl 5 Try.underlying27 ?f1 w.heap.size w.heap.size n (n + 2) _ rfl hown1 w.heap.size A n c (l.map bv) rfl hr1 (bv_one l) ?_)
    | fail)
  case f1 => rw [hi]; simp [hz1]
  intro w2 hown2 hg2
  have hb2 : Below w.heap.size w w2 := hb1.grown hg2 hb1.size (fun k hk => by injection hk; omega)
  have hr2 := (hr.more hB).below hb2
  have hsz2 := hb2.size
  go_wp2_with (first
    | (go_at_call 97; refine (sum_any A n c _ l _ hr2 hsz2 hb (by omega)).mono ?_; rintro e w3 ⟨rfl, hb3⟩
       have hown3 := own_below hown2 hb3
       have hsz3 := hb3.size)
    | (at_builtin
       refine wpList_app _ rfl (.tmp 16) (.tmp 22) 27 rfl w.heap.size 5 i0 (.int .u8 0) 1 1 Try.underlying27 hi hz0 hz1 hz2 rfl (by omega) _ n _ rfl (hown3.alloc _) (w3.heap.size + 1) _ 2 2 [.int .u8 (↑(sum l) % 256), .int .u8 (↑(sum l) / 256)] rfl (rd_new w3 _ _ 2 2 rfl) ?g1 ?g2 ?g3 ?g4 ?_))
  case g1 => intro u hu; simp at hu; rcases hu with rfl | rfl <;> rfl
  case g2 => unfold maxLen; omega
  case g3 => omega
  case g4 => simp; omega
  intro v4 w4 hown4 hg4 hat4
  go_wp2_with fail
  obtain ⟨A', c', rfl⟩ := own_shape hown4
  go_ret
  refine ⟨A', c', rfl, ?_, ?_⟩
  · have e : List.take n (l.map bv) ++ List.drop n (List.replicate n (Value.int IntKind.u8 0)) ++ [.int .u8 (↑(sum l) % 256), .int .u8 (↑(sum l) / 256)] = (seal_ l).map bv := by
      rw [List.take_of_length_le (by simp; omega)]
      simp [seal_, bv]
    rw [← e]; simpa using hown4
  · refine (((hb2.trans (hb3.mono hsz2)).alloc (by omega) _)).grown hg4 (by simp; omega) ?_
    intro k hk
    simp [Value.ownBlock] at hk; omega
end Go.Proofs.Ytcdgaeenfhpnkaa
