/- What the reference of layer 1 computes: contracts, walked once each. -/
import Derived.Test.YtcdgaeenfhpnkaaPk04
set_option linter.unusedVariables false
set_option linter.unusedSimpArgs false
set_option maxRecDepth 100000
namespace Go.Proofs.Ytcdgaeenfhpnkaa
open Go Go.RowKit CrcMath

theorem iter_eight (y : Nat) : iter 8 y = bit4 (bit4 y) := rfl
theorem mod2 (x : Nat) (h : x % 2 = 1) : ((x : Int) % 2 == 1) = true := by simp; omega
theorem mod2' (x : Nat) (h : ¬ x % 2 = 1) : ((x : Int) % 2 == 1) = false := by simp; omega

theorem rsum_any (A : Option Addr) (n c B : Nat) (l : List Nat) (w : World) (hr : Rd w B 1 A n (l.map bv)) (hB : B ≤ w.heap.size) (hb : ∀ c ∈ l, c < 256) (hn : n ≤ 9223372036854775807) :
    Calls Try.prog 80 #[.slice A n c] w fun e w' => e = .returned (.int .u16 (sum l : Nat)) ∧ Below w.heap.size w w' := by
  have hl : l.length = n := by have := hr.1; simpa using this
  have ha1 := hr.2
  go_enter Try.func80, Try.ntmps80
  go_wp2_with fail
  go_loopg [3, 4] n (fun k s i wr => ∃ j : Nat, k + j = n ∧ i = .int .i64 j ∧ s = .int .u16 (crc 65535 (l.take j) : Nat) ∧ wr = w)
  case atStart => exact ⟨0, by omega, rfl, rfl, rfl⟩
  case round =>
    obtain ⟨j, hj, rfl, rfl, rfl⟩ := hrel
    by_cases hlt : j < n
    · obtain ⟨b, o, rfl, _, hc⟩ := ha1 (by omega)
      have hjl : j < l.length := by omega
      obtain ⟨x, hx⟩ : ∃ x, x = crc 65535 (l.take j) := ⟨_, rfl⟩
      obtain ⟨d, hd⟩ : ∃ d, d = l[j] := ⟨_, rfl⟩
      have hcell := hc j (bv d) (by rw [hd, List.getElem?_map, List.getElem?_eq_getElem hjl]; rfl)
      have hstep : crc 65535 (l.take (j + 1)) = bit4 (bit4 (x ^^^ d)) := by
        rw [List.take_succ_eq_append_getElem hjl, crc_snoc, ← hx, ← hd]; rfl
      have hxl : x < 65536 := by rw [hx]; exact crc_lt _ _ (by decide) (fun e he => hb e (List.mem_of_mem_take he))
      have hdl : d < 256 := by rw [hd]; exact hb _ (List.getElem_mem hjl)
      rw [← hx]
      unfold bv at hcell
      obtain ⟨y, hy⟩ : ∃ y, y = x ^^^ d := ⟨_, rfl⟩
      have hyl : y < 65536 := by rw [hy]; exact xor_lt _ _ hxl (by omega)
      have f1 : bits .xor .u16 (x : Int) (d : Int) = (y : Int) := by rw [hy]; exact u16_xor_nat x d hxl (by omega)
      rw [← hy] at hstep
      have H := Lib.hid hstep
      clear hstep hx hd hy hc ha1
      go_wp2_with fail
      go_loop [3, 5] (fun v c => ∃ m : Nat, m ≤ 8 ∧ c = .int .i64 m ∧ v = .int .u16 (iter m y : Nat)) (fun _ c => 8 - (intOf c).toNat)
      case atStart => exact ⟨0, by omega, rfl, rfl⟩
      case round =>
        obtain ⟨m, hm, rfl, rfl⟩ := hrel
        have hil := iter_lt m y hyl
        by_cases hmlt : m < 8
        · by_cases hod : iter m y % 2 = 1
          · have h1 := mod2 _ hod
            go_wp2_with fail
            go_round
            case rel => exact ⟨m + 1, by omega, by go_num, by rw [bit_odd _ hil hod]; rfl⟩
            case measure => simp [intOf]; omega
          · have h1 := mod2' _ hod
            go_wp2_with fail
            go_round
            case rel => exact ⟨m + 1, by omega, by go_num, by rw [← bit_evn _ hod]; rfl⟩
            case measure => simp [intOf]; omega
        · obtain rfl : m = 8 := by omega
          go_wp2_with fail
          go_roundg (n - (j + 1))
          case measure => omega
          case rel => exact ⟨j + 1, by omega, by go_num, by rw [H.out, ← iter_eight], rfl⟩
    · obtain rfl : j = n := by omega
      rw [List.take_of_length_le (by omega)]
      go_wp2_with fail
      go_ret
      exact ⟨rfl, Below.refl _ _⟩
end Go.Proofs.Ytcdgaeenfhpnkaa
/- Seal and Open of the reference of layer 1: contracts. -/
set_option linter.unusedVariables false
set_option linter.unusedSimpArgs false
set_option maxRecDepth 100000
namespace Go.Proofs.Ytcdgaeenfhpnkaa
open Go Go.RowKit CrcMath

set_option maxHeartbeats 1000000 in
theorem rseal_any (A : Option Addr) (n c B : Nat) (l : List Nat) (w : World) (hr : Rd w B 1 A n (l.map bv)) (hB : B ≤ w.heap.size) (hb : ∀ c ∈ l, c < 256) (hn : n ≤ 1000000000) :
    Calls Try.prog 104 #[.slice A n c] w fun e w' => ∃ A' c', e = .returned (.slice A' (n + 2) c') ∧ w'.ownsRow w.heap.size 5 1 (.slice A' (n + 2) c') (n + 2) ((seal_ l).map bv) ∧ Below w.heap.size w w' := by
  have hl : l.length = n := by have := hr.1; simpa using this
  obtain ⟨i0, hi, hz0, hz1, hz2⟩ := info_parts info_u8
  have hs := sum_lt l hb
  go_enter Try.func104, Try.ntmps104
  go_wp2_with (first
    | (go_at_call 80; (with_reducible refine (rsum_any A n c _ l _ hr hB hb (by omega)).mono ?_); rintro e w1 ⟨rfl, hb1⟩
       have hsz1 := hb1.size
       have hr1 : Rd (w1.alloc (.cells #[] 5)) w.heap.size 1 A n (l.map bv) := ((hr.more hB).below hb1).alloc hsz1 _
       have hown1 : (w1.alloc (.cells #[] 5)).ownsRow w.heap.size 5 1 (.slice (some ⟨w1.heap.size, 0, none⟩) 0 0) 0 [] := World.ownsRow_made w1 #[] 0 hsz1 (by unfold maxLen; omega) rfl)
    | (at_builtin
       refine wpList_app _ rfl (.tmp 6) (.tmp 7) 27 rfl w.heap.size 5 i0 (.int .u8 0) 1 1 Try.underlying27 hi hz0 hz1 hz2 rfl (by omega) _ 0 _ rfl hown1 w.heap.size A n c (l.map bv) rfl hr1 (bv_one l) ?g1 ?g2 ?g3 ?_))
  case g1 => unfold maxLen; omega
  case g2 => omega
  case g3 => simp; omega
  intro v2 w2 hown2 hg2 hat2
  have hg1 : Below w.heap.size w (w1.alloc (.cells #[] 5)) := hb1.alloc hsz1 _
  have hb2 : Below w.heap.size w w2 := hg1.grown hg2 hg1.size (fun k hk => by simp [Value.ownBlock] at hk; omega)
  have hsz2 := hb2.size
  have hown2 : w2.ownsRow w.heap.size 5 1 v2 n (l.map bv) := by simpa using hown2
  go_wp2_with (first
    | (at_builtin
       refine wpList_app _ rfl (.tmp 8) (.tmp 14) 27 rfl w.heap.size 5 i0 (.int .u8 0) 1 1 Try.underlying27 hi hz0 hz1 hz2 rfl (by omega) _ n _ rfl (hown2.alloc _) (w2.heap.size + 1) _ 2 2 [.int .u8 (↑(sum l) % 256), .int .u8 (↑(sum l) / 256)] rfl (rd_new w2 _ _ 2 2 rfl) ?k1 ?k2 ?k3 ?k4 ?_))
  case k1 => intro u hu; simp at hu; rcases hu with rfl | rfl <;> rfl
  case k2 => unfold maxLen; omega
  case k3 => omega
  case k4 => simp; omega
  intro v4 w4 hown4 hg4 hat4
  go_wp2_with fail
  obtain ⟨A', c', rfl⟩ := own_shape hown4
  obtain ⟨A2, c2, rfl⟩ := own_shape hown2
  go_ret
  refine ⟨A', c', rfl, ?_, ?_⟩
  · have e : l.map bv ++ [.int .u8 (↑(sum l) % 256), .int .u8 (↑(sum l) / 256)] = (seal_ l).map bv := by
      simp [seal_, bv]
    rw [← e]; simpa using hown4
  · refine (hb2.alloc (by omega) _).grown hg4 (by simp; omega) ?_
    intro k hk
    exact (hown2.lt k hk).1
end Go.Proofs.Ytcdgaeenfhpnkaa
/- Open, of the reference of layer 1: contract. -/
set_option linter.unusedVariables false
set_option linter.unusedSimpArgs false
set_option maxRecDepth 100000
namespace Go.Proofs.Ytcdgaeenfhpnkaa
open Go Go.RowKit CrcMath

set_option maxHeartbeats 1000000 in
theorem ropen_short (A : Option Addr) (n c : Nat) (w : World) (hn : n < 2) :
    Calls Try.prog 60 #[.slice A n c] w fun e w' => e = .returned (.tuple #[.slice none 0 0, .bool false]) ∧ w' = w := by
  have h0 : (n : Int) < 2 := by omega
  go_enter Try.func60, Try.ntmps60
  go_wp2_with fail
  go_ret2
  exact ⟨rfl, rfl⟩

set_option maxHeartbeats 1000000 in
theorem ropen_long (A : Option Addr) (m c B : Nat) (l : List Nat) (w : World) (hr : Rd w B 1 A (m + 2) (l.map bv)) (hB : B ≤ w.heap.size) (hb : ∀ c ∈ l, c < 256) (hn : m ≤ 1000000000) (hc : m + 2 ≤ c) :
    Calls Try.prog 60 #[.slice A (m + 2) c] w (OpenPost w l) := by
  have hl : l.length = m + 2 := by have := hr.1; simpa using this
  obtain ⟨b, o, rfl, hbB, hcell⟩ := hr.2 (by omega)
  obtain ⟨i0, hi, hz0, hz1, hz2⟩ := info_parts info_u8
  have hr0 := hr.take_ (k := m) (by omega)
  rw [Nat.mul_one, ← List.map_take] at hr0
  have hlt : ∀ c ∈ l.take m, c < 256 := fun c hc => hb c (List.mem_of_mem_take hc)
  have hs := sum_lt (l.take m) hlt
  go_enter Try.func60, Try.ntmps60
  obtain ⟨b0, hb0⟩ : ∃ b0, l[m]? = some b0 := ⟨_, List.getElem?_eq_getElem (by omega)⟩
  obtain ⟨b1, hb1⟩ : ∃ b1, l[m + 1]? = some b1 := ⟨_, List.getElem?_eq_getElem (by omega)⟩
  have hop := opens_two l m b0 b1 hl hb0 hb1
  have hc0 := hcell m (bv b0) (by rw [List.getElem?_map, hb0]; rfl)
  have hc1 := hcell (m + 1) (bv b1) (by rw [List.getElem?_map, hb1]; rfl)
  unfold bv at hc0 hc1
  obtain ⟨s, hse⟩ : ∃ s, s = sum (l.take m) := ⟨_, rfl⟩
  rw [← hse] at hop hs
  have Hop := Lib.hid hop
  clear hop hcell hb0 hb1
  by_cases e0 : b0 = s % 256
  · have t0 : ((b0 : Int) != (s : Int) % 256) = false := by rw [bne_eq_false_iff_eq]; omega
    by_cases e1 : b1 = s / 256
    · have t1 : ((b1 : Int) != (s : Int) / 256) = false := by rw [bne_eq_false_iff_eq]; omega
      have ho : opens l = true := Hop.out.2 ⟨e0, e1⟩
      have Ho := Lib.hid ho
      clear e0 e1 ho
      go_wp2_with (first
        | (go_at_call 80; (with_reducible refine (rsum_any _ m c _ (l.take m) _ hr0 hB hlt (by omega)).mono ?_); rintro e w1 ⟨rfl, hb1⟩
           rw [← hse]
           have hc0' := (hb1.cell (p := ⟨b, o + m, none⟩) (by simp; omega)).trans hc0
           have hc1' := (hb1.cell (p := ⟨b, o + (m + 1), none⟩) (by simp; omega)).trans hc1
           have hr1 := (hr.more hB).below hb1
           have hsz1 := hb1.size
           have hr1' : Rd (w1.alloc (.cells #[] 5)) w.heap.size 1 (some ⟨b, o, none⟩) m ((l.take m).map bv) := ((hr0.more hB).below hb1).alloc hsz1 _
           have hown1 : (w1.alloc (.cells #[] 5)).ownsRow w.heap.size 5 1 (.slice (some ⟨w1.heap.size, 0, none⟩) 0 0) 0 [] := World.ownsRow_made w1 #[] 0 hsz1 (by unfold maxLen; omega) rfl
           clear hc0 hc1 hr0 hr hse)
        | (at_builtin
           refine wpList_app _ rfl (.tmp 34) (.tmp 37) 27 rfl w.heap.size 5 i0 (.int .u8 0) 1 1 Try.underlying27 hi hz0 hz1 hz2 rfl (by omega) _ 0 _ rfl hown1 w.heap.size (some ⟨b, o, none⟩) m c ((l.take m).map bv) rfl hr1' (bv_one _) ?g1 ?g2 ?g3 ?_))
      case g1 => unfold maxLen; omega
      case g2 => omega
      case g3 => simp; omega
      intro v2 w2 hown2 hg2 hat2
      have hg1 : Below w.heap.size w (w1.alloc (.cells #[] 5)) := hb1.alloc hsz1 _
      have hb2 : Below w.heap.size w w2 := hg1.grown hg2 hg1.size (fun k hk => by simp [Value.ownBlock] at hk; omega)
      have hown2 : w2.ownsRow w.heap.size 5 1 v2 m ((l.take m).map bv) := by simpa using hown2
      go_wp2_with fail
      obtain ⟨A2, c2, rfl⟩ := own_shape hown2
      go_ret2
      unfold OpenPost
      rw [Ho.out, if_pos rfl]
      refine ⟨A2, m, c2, rfl, ?_, hb2⟩
      rw [hl]
      simpa using hown2
    · have t1 : ((b1 : Int) != (s : Int) / 256) = true := by rw [bne_iff_ne]; omega
      have ho : opens l = false := by
        rcases hh : opens l with _ | _
        · rfl
        · exact absurd (Hop.out.1 hh).2 e1
      have Ho := Lib.hid ho
      clear e0 e1 ho
      go_wp2_with (first
        | (go_at_call 80; (with_reducible refine (rsum_any _ m c _ (l.take m) _ hr0 hB hlt (by omega)).mono ?_); rintro e w1 ⟨rfl, hb1⟩
           rw [← hse]
           have hc0' := (hb1.cell (p := ⟨b, o + m, none⟩) (by simp; omega)).trans hc0
           have hc1' := (hb1.cell (p := ⟨b, o + (m + 1), none⟩) (by simp; omega)).trans hc1
           have hr1 := (hr.more hB).below hb1
           have hsz1 := hb1.size
           clear hc0 hc1 hr0 hr hse)
        | fail)
      go_ret2
      unfold OpenPost
      rw [Ho.out]
      exact ⟨none, 0, 0, rfl, World.ownsRow_nil _ _ _ _, hb1⟩
  · have t0 : ((b0 : Int) != (s : Int) % 256) = true := by rw [bne_iff_ne]; omega
    have ho : opens l = false := by
      rcases hh : opens l with _ | _
      · rfl
      · exact absurd (Hop.out.1 hh).1 e0
    have Ho := Lib.hid ho
    clear e0 ho
    go_wp2_with (first
      | (go_at_call 80; (with_reducible refine (rsum_any _ m c _ (l.take m) _ hr0 hB hlt (by omega)).mono ?_); rintro e w1 ⟨rfl, hb1⟩
         rw [← hse]
         have hc0' := (hb1.cell (p := ⟨b, o + m, none⟩) (by simp; omega)).trans hc0
         have hc1' := (hb1.cell (p := ⟨b, o + (m + 1), none⟩) (by simp; omega)).trans hc1
         have hr1 := (hr.more hB).below hb1
         have hsz1 := hb1.size
         clear hc0 hc1 hr0 hr hse)
      | fail)
    go_ret2
    unfold OpenPost
    rw [Ho.out]
    exact ⟨none, 0, 0, rfl, World.ownsRow_nil _ _ _ _, hb1⟩

/-- Open, of any bytes -/
theorem ropen_any (A : Option Addr) (n c B : Nat) (l : List Nat) (w : World) (hr : Rd w B 1 A n (l.map bv)) (hB : B ≤ w.heap.size) (hb : ∀ c ∈ l, c < 256) (hn : n ≤ 1000000000) (hc : n ≤ c) :
    Calls Try.prog 60 #[.slice A n c] w (OpenPost w l) := by
  have hl : l.length = n := by have := hr.1; simpa using this
  by_cases h2 : n < 2
  · refine (ropen_short A n c w h2).mono ?_
    rintro e w' ⟨rfl, rfl⟩
    have ho : opens l = false := by unfold opens; rw [decide_eq_false (by omega)]; rfl
    unfold OpenPost
    rw [ho]
    exact ⟨none, 0, 0, rfl, World.ownsRow_nil _ _ _ _, Below.refl _ _⟩
  · obtain ⟨m, rfl⟩ : ∃ m, n = m + 2 := ⟨n - 2, by omega⟩
    exact ropen_long A m c B l w hr hB hb (by omega) hc
end Go.Proofs.Ytcdgaeenfhpnkaa
