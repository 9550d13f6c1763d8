/- Open, of package crc: contract. -/
import Derived.Test.YtcdgaeenfhpnkaaCrcB
set_option linter.unusedVariables false
set_option linter.unusedSimpArgs false
set_option maxRecDepth 100000
namespace Go.Proofs.Ytcdgaeenfhpnkaa
open Go Go.RowKit CrcMath

set_option maxHeartbeats 1000000 in
theorem open_short (A : Option Addr) (n c : Nat) (w : World) (hn : n < 2) :
    Calls Try.prog 101 #[.slice A n c] w fun e w' => e = .returned (.tuple #[.slice none 0 0, .bool false]) ∧ w' = w := by
  have h0 : (n : Int) < 2 := by omega
  go_enter Try.func101, Try.ntmps101
  go_wp2_with fail
  go_ret2
  exact ⟨rfl, rfl⟩

/-- what Open hands back: what was sealed, in new memory, and whether anything was -/
def OpenPost (w : World) (l : List Nat) (e : Ending) (w' : World) : Prop :=
  ∃ A' n' c', e = .returned (.tuple #[.slice A' n' c', .bool (opens l)]) ∧
    w'.ownsRow w.heap.size 5 1 (.slice A' n' c') n' ((if opens l then l.take (l.length - 2) else []).map bv) ∧ Below w.heap.size w w'

theorem opens_two (l : List Nat) (m b0 b1 : Nat) (hl : l.length = m + 2) (h0 : l[m]? = some b0) (h1 : l[m + 1]? = some b1) :
    (opens l = true ↔ b0 = sum (l.take m) % 256 ∧ b1 = sum (l.take m) / 256) := by
  have hd : l.drop m = [b0, b1] := by
    apply List.ext_getElem?
    intro j
    rw [List.getElem?_drop]
    match j with
    | 0 => simpa using h0
    | 1 => simpa using h1
    | j + 2 => rw [List.getElem?_eq_none (by omega)]; simp
  unfold opens
  rw [hl, show m + 2 - 2 = m by omega, hd]
  simp

set_option maxHeartbeats 1000000 in
theorem open_long (A : Option Addr) (m c B : Nat) (l : List Nat) (w : World) (hr : Rd w B 1 A (m + 2) (l.map bv)) (hB : B ≤ w.heap.size) (hb : ∀ c ∈ l, c < 256) (hn : m ≤ 1000000000) (hc : m + 2 ≤ c) :
    Calls Try.prog 101 #[.slice A (m + 2) c] w (OpenPost w l) := by
  have hl : l.length = m + 2 := by have := hr.1; simpa using this
  obtain ⟨b, o, rfl, hbB, hcell⟩ := hr.2 (by omega)
  obtain ⟨i0, hi, hz0, hz1, hz2⟩ := info_parts info_u8
  have hr0 := hr.take_ (k := m) (by omega)
  rw [Nat.mul_one, ← List.map_take] at hr0
  have hlt : ∀ c ∈ l.take m, c < 256 := fun c hc => hb c (List.mem_of_mem_take hc)
  have hs := sum_lt (l.take m) hlt
  go_enter Try.func101, Try.ntmps101
  obtain ⟨b0, hb0⟩ : ∃ b0, l[m]? = some b0 := ⟨_, List.getElem?_eq_getElem (by omega)⟩
  obtain ⟨b1, hb1⟩ : ∃ b1, l[m + 1]? = some b1 := ⟨_, List.getElem?_eq_getElem (by omega)⟩
  have hop := opens_two l m b0 b1 hl hb0 hb1
  have hc0 := hcell m (bv b0) (by rw [List.getElem?_map, hb0]; rfl)
  have hc1 := hcell (m + 1) (bv b1) (by rw [List.getElem?_map, hb1]; rfl)
  unfold bv at hc0 hc1
  obtain ⟨s, hse⟩ : ∃ s, s = sum (l.take m) := ⟨_, rfl⟩
  rw [← hse] at hop hs
  have Hop := Lib.hid hop
  clear hop hcell hb0 hb1
  by_cases e0 : b0 = s % 256
  · have t0 : ((b0 : Int) != (s : Int) % 256) = false := by rw [bne_eq_false_iff_eq]; omega
    by_cases e1 : b1 = s / 256
    · have t1 : ((b1 : Int) != (s : Int) / 256) = false := by rw [bne_eq_false_iff_eq]; omega
      have ho : opens l = true := Hop.out.2 ⟨e0, e1⟩
      have Ho := Lib.hid ho
      clear e0 e1 ho
      go_wp2_with (first
        | (go_at_call 97; refine (sum_any _ m c _ (l.take m) _ hr0 hB hlt (by omega)).mono ?_; rintro e w1 ⟨rfl, hb1⟩
           rw [← hse]
           have hc0' := (hb1.cell (p := ⟨b, o + m, none⟩) (by simp; omega)).trans hc0
           have hc1' := (hb1.cell (p := ⟨b, o + (m + 1), none⟩) (by simp; omega)).trans hc1
           have hr1 := (hr.more hB).below hb1
           have hsz1 := hb1.size
           clear hc0 hc1 hr0 hr hse)
        | (with_reducible refine wpList_mk _ rfl (.tmp 34) (.tmp 34) 27 rfl w.heap.size 5 i0 (.int .u8 0) Try.underlying27 hi hz0 hz1 rfl .i64 .i64 _ _ m m rfl rfl rfl rfl ?e2 ?e3 ?e4 hsz1 ?_))
      case e2 => exact Nat.le_refl _
      case e3 => rw [hz2]; omega
      case e4 => unfold maxLen; omega
      intro w2 hown2 hg2
      have hb2 : Below w.heap.size w w2 := hb1.grown hg2 hsz1 (by simp)
      have hr2 := hr1.grown hg2 hsz1 (by simp)
      go_wp2_with (first
        | (with_reducible refine wpList_cpy _ rfl (.tmp 36) (.tmp 37) 27 27 rfl 5 Try.underlying27 ?f1 w.heap.size w1.heap.size m m _ rfl hown2 w.heap.size (some ⟨b, o, none⟩) (m + 2) c (l.map bv) rfl hr2 (bv_one l) ?_)
        | fail)
      case f1 => rw [hi]; simp [hz1]
      intro w3 hown3 hg3
      have hb3 : Below w.heap.size w w3 := hb2.grown hg3 hb2.size (fun k hk => by injection hk; omega)
      go_wp2_with fail
      go_ret2
      unfold OpenPost
      rw [Ho.out, if_pos rfl]
      refine ⟨some ⟨w1.heap.size, 0, none⟩, m, m, rfl, ?_, hb3⟩
      rw [hl]
      simpa using hown3
    · have t1 : ((b1 : Int) != (s : Int) / 256) = true := by rw [bne_iff_ne]; omega
      have ho : opens l = false := by
        rcases hh : opens l with _ | _
        · rfl
        · exact absurd (Hop.out.1 hh).2 e1
      have Ho := Lib.hid ho
      clear e0 e1 ho
      go_wp2_with (first
        | (go_at_call 97; refine (sum_any _ m c _ (l.take m) _ hr0 hB hlt (by omega)).mono ?_; rintro e w1 ⟨rfl, hb1⟩
           rw [← hse]
           have hc0' := (hb1.cell (p := ⟨b, o + m, none⟩) (by simp; omega)).trans hc0
           have hc1' := (hb1.cell (p := ⟨b, o + (m + 1), none⟩) (by simp; omega)).trans hc1
           have hr1 := (hr.more hB).below hb1
           have hsz1 := hb1.size
           clear hc0 hc1 hr0 hr hse)
        | fail)
      go_ret2
      unfold OpenPost
      rw [Ho.out]
      exact ⟨none, 0, 0, rfl, World.ownsRow_nil _ _ _ _, hb1⟩
  · have t0 : ((b0 : Int) != (s : Int) % 256) = true := by rw [bne_iff_ne]; omega
    have ho : opens l = false := by
      rcases hh : opens l with _ | _
      · rfl
      · exact absurd (Hop.out.1 hh).1 e0
    have Ho := Lib.hid ho
    clear e0 ho
    go_wp2_with (first
      | (go_at_call 97; refine (sum_any _ m c _ (l.take m) _ hr0 hB hlt (by omega)).mono ?_; rintro e w1 ⟨rfl, hb1⟩
         rw [← hse]
         have hc0' := (hb1.cell (p := ⟨b, o + m, none⟩) (by simp; omega)).trans hc0
         have hc1' := (hb1.cell (p := ⟨b, o + (m + 1), none⟩) (by simp; omega)).trans hc1
         have hr1 := (hr.more hB).below hb1
         have hsz1 := hb1.size
         clear hc0 hc1 hr0 hr hse)
      | fail)
    go_ret2
    unfold OpenPost
    rw [Ho.out]
    exact ⟨none, 0, 0, rfl, World.ownsRow_nil _ _ _ _, hb1⟩

/-- Open, of any bytes -/
theorem open_any (A : Option Addr) (n c B : Nat) (l : List Nat) (w : World) (hr : Rd w B 1 A n (l.map bv)) (hB : B ≤ w.heap.size) (hb : ∀ c ∈ l, c < 256) (hn : n ≤ 1000000000) (hc : n ≤ c) :
    Calls Try.prog 101 #[.slice A n c] w (OpenPost w l) := by
  have hl : l.length = n := by have := hr.1; simpa using this
  by_cases h2 : n < 2
  · refine (open_short A n c w h2).mono ?_
    rintro e w' ⟨rfl, rfl⟩
    have ho : opens l = false := by unfold opens; rw [decide_eq_false (by omega)]; rfl
    unfold OpenPost
    rw [ho]
    exact ⟨none, 0, 0, rfl, World.ownsRow_nil _ _ _ _, Below.refl _ _⟩
  · obtain ⟨m, rfl⟩ : ∃ m, n = m + 2 := ⟨n - 2, by omega⟩
    exact open_long A m c B l w hr hB hb (by omega) hc
end Go.Proofs.Ytcdgaeenfhpnkaa
