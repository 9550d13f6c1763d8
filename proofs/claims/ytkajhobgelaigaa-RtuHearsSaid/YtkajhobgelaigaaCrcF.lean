/- Open, of the reference of layer 1: contract. -/
import Derived.Test.YtkajhobgelaigaaCrcE
set_option linter.unusedVariables false
set_option linter.unusedSimpArgs false
set_option maxRecDepth 100000
namespace Go.Proofs.Ytkajhobgelaigaa
open Go Go.RowKit CrcMath

set_option maxHeartbeats 1000000 in
theorem ropen_short (A : Option Addr) (n c : Nat) (w : World) (hn : n < 2) :
    Calls Try.prog 23 #[.slice A n c] w fun e w' => e = .returned (.tuple #[.slice none 0 0, .bool false]) ∧ w' = w := by
  have h0 : (n : Int) < 2 := by omega
  go_enter Try.func23, Try.ntmps23
  go_wp2_with fail
  go_ret2
  exact ⟨rfl, rfl⟩

set_option maxHeartbeats 1000000 in
theorem ropen_long (A : Option Addr) (m c B : Nat) (l : List Nat) (w : World) (hr : Rd w B 1 A (m + 2) (l.map bv)) (hB : B ≤ w.heap.size) (hb : ∀ c ∈ l, c < 256) (hn : m ≤ 1000000000) (hc : m + 2 ≤ c) :
    Calls Try.prog 23 #[.slice A (m + 2) c] w (OpenPost w l) := by
  have hl : l.length = m + 2 := by have := hr.1; simpa using this
  obtain ⟨b, o, rfl, hbB, hcell⟩ := hr.2 (by omega)
  obtain ⟨i0, hi, hz0, hz1, hz2⟩ := info_parts info_u8
  have hr0 := hr.take_ (k := m) (by omega)
  rw [Nat.mul_one, ← List.map_take] at hr0
  have hlt : ∀ c ∈ l.take m, c < 256 := fun c hc => hb c (List.mem_of_mem_take hc)
  have hs := sum_lt (l.take m) hlt
  go_enter Try.func23, Try.ntmps23
  obtain ⟨b0, hb0⟩ : ∃ b0, l[m]? = some b0 := ⟨_, List.getElem?_eq_getElem (by omega)⟩
  obtain ⟨b1, hb1⟩ : ∃ b1, l[m + 1]? = some b1 := ⟨_, List.getElem?_eq_getElem (by omega)⟩
  have hop := opens_two l m b0 b1 hl hb0 hb1
  have hc0 := hcell m (bv b0) (by rw [List.getElem?_map, hb0]; rfl)
  have hc1 := hcell (m + 1) (bv b1) (by rw [List.getElem?_map, hb1]; rfl)
  unfold bv at hc0 hc1
  obtain ⟨s, hse⟩ : ∃ s, s = sum (l.take m) := ⟨_, rfl⟩
  rw [← hse] at hop hs
  have Hop := Lib.hid hop
  clear hop hcell hb0 hb1
  by_cases e0 : b0 = s % 256
  · have t0 : ((b0 : Int) != (s : Int) % 256) = false := by rw [bne_eq_false_iff_eq]; omega
    by_cases e1 : b1 = s / 256
    · have t1 : ((b1 : Int) != (s : Int) / 256) = false := by rw [bne_eq_false_iff_eq]; omega
      have ho : opens l = true := Hop.out.2 ⟨e0, e1⟩
      have Ho := Lib.hid ho
      clear e0 e1 ho
      go_wp2_with (first
        | (go_at_call 27; (with_reducible refine (rsum_any _ m c _ (l.take m) _ hr0 hB hlt (by omega)).mono ?_); rintro e w1 ⟨rfl, hb1⟩
           rw [← hse]
           have hc0' := (hb1.cell (p := ⟨b, o + m, none⟩) (by simp; omega)).trans hc0
           have hc1' := (hb1.cell (p := ⟨b, o + (m + 1), none⟩) (by simp; omega)).trans hc1
           have hr1 := (hr.more hB).below hb1
           have hsz1 := hb1.size
           have hr1' : Rd (w1.alloc (.cells #[] 5)) w.heap.size 1 (some ⟨b, o, none⟩) m ((l.take m).map bv) := ((hr0.more hB).below hb1).alloc hsz1 _
           have hown1 : (w1.alloc (.cells #[] 5)).ownsRow w.heap.size 5 1 (.slice (some ⟨w1.heap.size, 0, none⟩) 0 0) 0 [] := World.ownsRow_made w1 #[] 0 hsz1 (by unfold maxLen; omega) rfl
           clear hc0 hc1 hr0 hr hse)
        | (at_builtin
           refine wpList_app _ rfl (.tmp 34) (.tmp 37) 22 rfl w.heap.size 5 i0 (.int .u8 0) 1 1 Try.underlying22 hi hz0 hz1 hz2 rfl (by omega) _ 0 _ rfl hown1 w.heap.size (some ⟨b, o, none⟩) m c ((l.take m).map bv) rfl hr1' (bv_one _) ?g1 ?g2 ?g3 ?_))
      case g1 => unfold maxLen; omega
      case g2 => omega
      case g3 => simp; omega
      intro v2 w2 hown2 hg2 hat2
      have hg1 : Below w.heap.size w (w1.alloc (.cells #[] 5)) := hb1.alloc hsz1 _
      have hb2 : Below w.heap.size w w2 := hg1.grown hg2 hg1.size (fun k hk => by simp [Value.ownBlock] at hk; omega)
      have hown2 : w2.ownsRow w.heap.size 5 1 v2 m ((l.take m).map bv) := by simpa using hown2
      go_wp2_with fail
      obtain ⟨A2, c2, rfl⟩ := own_shape hown2
      go_ret2
      unfold OpenPost
      rw [Ho.out, if_pos rfl]
      refine ⟨A2, m, c2, rfl, ?_, hb2⟩
      rw [hl]
      simpa using hown2
    · have t1 : ((b1 : Int) != (s : Int) / 256) = true := by rw [bne_iff_ne]; omega
      have ho : opens l = false := by
        rcases hh : opens l with _ | _
        · rfl
        · exact absurd (Hop.out.1 hh).2 e1
      have Ho := Lib.hid ho
      clear e0 e1 ho
      go_wp2_with (first
        | (go_at_call 27; (with_reducible refine (rsum_any _ m c _ (l.take m) _ hr0 hB hlt (by omega)).mono ?_); rintro e w1 ⟨rfl, hb1⟩
           rw [← hse]
           have hc0' := (hb1.cell (p := ⟨b, o + m, none⟩) (by simp; omega)).trans hc0
           have hc1' := (hb1.cell (p := ⟨b, o + (m + 1), none⟩) (by simp; omega)).trans hc1
           have hr1 := (hr.more hB).below hb1
           have hsz1 := hb1.size
           clear hc0 hc1 hr0 hr hse)
        | fail)
      go_ret2
      unfold OpenPost
      rw [Ho.out]
      exact ⟨none, 0, 0, rfl, World.ownsRow_nil _ _ _ _, hb1⟩
  · have t0 : ((b0 : Int) != (s : Int) % 256) = true := by rw [bne_iff_ne]; omega
    have ho : opens l = false := by
      rcases hh : opens l with _ | _
      · rfl
      · exact absurd (Hop.out.1 hh).1 e0
    have Ho := Lib.hid ho
    clear e0 ho
    go_wp2_with (first
      | (go_at_call 27; (with_reducible refine (rsum_any _ m c _ (l.take m) _ hr0 hB hlt (by omega)).mono ?_); rintro e w1 ⟨rfl, hb1⟩
         rw [← hse]
         have hc0' := (hb1.cell (p := ⟨b, o + m, none⟩) (by simp; omega)).trans hc0
         have hc1' := (hb1.cell (p := ⟨b, o + (m + 1), none⟩) (by simp; omega)).trans hc1
         have hr1 := (hr.more hB).below hb1
         have hsz1 := hb1.size
         clear hc0 hc1 hr0 hr hse)
      | fail)
    go_ret2
    unfold OpenPost
    rw [Ho.out]
    exact ⟨none, 0, 0, rfl, World.ownsRow_nil _ _ _ _, hb1⟩

/-- Open, of any bytes -/
theorem ropen_any (A : Option Addr) (n c B : Nat) (l : List Nat) (w : World) (hr : Rd w B 1 A n (l.map bv)) (hB : B ≤ w.heap.size) (hb : ∀ c ∈ l, c < 256) (hn : n ≤ 1000000000) (hc : n ≤ c) :
    Calls Try.prog 23 #[.slice A n c] w (OpenPost w l) := by
  have hl : l.length = n := by have := hr.1; simpa using this
  by_cases h2 : n < 2
  · refine (ropen_short A n c w h2).mono ?_
    rintro e w' ⟨rfl, rfl⟩
    have ho : opens l = false := by unfold opens; rw [decide_eq_false (by omega)]; rfl
    unfold OpenPost
    rw [ho]
    exact ⟨none, 0, 0, rfl, World.ownsRow_nil _ _ _ _, Below.refl _ _⟩
  · obtain ⟨m, rfl⟩ : ∃ m, n = m + 2 := ⟨n - 2, by omega⟩
    exact ropen_long A m c B l w hr hB hb (by omega) hc
end Go.Proofs.Ytkajhobgelaigaa
