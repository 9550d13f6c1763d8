/- Seal and Open of the reference of layer 1: contracts. -/
import Derived.Test.YtkajhobgelaigaaCrcD
set_option linter.unusedVariables false
set_option linter.unusedSimpArgs false
set_option maxRecDepth 100000
namespace Go.Proofs.Ytkajhobgelaigaa
open Go Go.RowKit CrcMath

set_option maxHeartbeats 1000000 in
theorem rseal_any (A : Option Addr) (n c B : Nat) (l : List Nat) (w : World) (hr : Rd w B 1 A n (l.map bv)) (hB : B ≤ w.heap.size) (hb : ∀ c ∈ l, c < 256) (hn : n ≤ 1000000000) :
    Calls Try.prog 26 #[.slice A n c] w fun e w' => ∃ A' c', e = .returned (.slice A' (n + 2) c') ∧ w'.ownsRow w.heap.size 5 1 (.slice A' (n + 2) c') (n + 2) ((seal_ l).map bv) ∧ Below w.heap.size w w' := by
  have hl : l.length = n := by have := hr.1; simpa using this
  obtain ⟨i0, hi, hz0, hz1, hz2⟩ := info_parts info_u8
  have hs := sum_lt l hb
  go_enter Try.func26, Try.ntmps26
  go_wp2_with (first
    | (go_at_call 27; (with_reducible refine (rsum_any A n c _ l _ hr hB hb (by omega)).mono ?_); rintro e w1 ⟨rfl, hb1⟩
       have hsz1 := hb1.size
       have hr1 : Rd (w1.alloc (.cells #[] 5)) w.heap.size 1 A n (l.map bv) := ((hr.more hB).below hb1).alloc hsz1 _
       have hown1 : (w1.alloc (.cells #[] 5)).ownsRow w.heap.size 5 1 (.slice (some ⟨w1.heap.size, 0, none⟩) 0 0) 0 [] := World.ownsRow_made w1 #[] 0 hsz1 (by unfold maxLen; omega) rfl)
    | (at_builtin
       refine wpList_app _ rfl (.tmp 6) (.tmp 7) 22 rfl w.heap.size 5 i0 (.int .u8 0) 1 1 Try.underlying22 hi hz0 hz1 hz2 rfl (by omega) _ 0 _ rfl hown1 w.heap.size A n c (l.map bv) rfl hr1 (bv_one l) ?g1 ?g2 ?g3 ?_))
  case g1 => unfold maxLen; omega
  case g2 => omega
  case g3 => simp; omega
  intro v2 w2 hown2 hg2 hat2
  have hg1 : Below w.heap.size w (w1.alloc (.cells #[] 5)) := hb1.alloc hsz1 _
  have hb2 : Below w.heap.size w w2 := hg1.grown hg2 hg1.size (fun k hk => by simp [Value.ownBlock] at hk; omega)
  have hsz2 := hb2.size
  have hown2 : w2.ownsRow w.heap.size 5 1 v2 n (l.map bv) := by simpa using hown2
  go_wp2_with (first
    | (at_builtin
       refine wpList_app _ rfl (.tmp 8) (.tmp 14) 22 rfl w.heap.size 5 i0 (.int .u8 0) 1 1 Try.underlying22 hi hz0 hz1 hz2 rfl (by omega) _ n _ rfl (hown2.alloc _) (w2.heap.size + 1) _ 2 2 [.int .u8 (↑(sum l) % 256), .int .u8 (↑(sum l) / 256)] rfl (rd_new w2 _ _ 2 2 rfl) ?k1 ?k2 ?k3 ?k4 ?_))
  case k1 => intro u hu; simp at hu; rcases hu with rfl | rfl <;> rfl
  case k2 => unfold maxLen; omega
  case k3 => omega
  case k4 => simp; omega
  intro v4 w4 hown4 hg4 hat4
  go_wp2_with fail
  obtain ⟨A', c', rfl⟩ := own_shape hown4
  obtain ⟨A2, c2, rfl⟩ := own_shape hown2
  go_ret
  refine ⟨A', c', rfl, ?_, ?_⟩
  · have e : l.map bv ++ [.int .u8 (↑(sum l) % 256), .int .u8 (↑(sum l) / 256)] = (seal_ l).map bv := by
      simp [seal_, bv]
    rw [← e]; simpa using hown4
  · refine (hb2.alloc (by omega) _).grown hg4 (by simp; omega) ?_
    intro k hk
    exact (hown2.lt k hk).1
end Go.Proofs.Ytkajhobgelaigaa
