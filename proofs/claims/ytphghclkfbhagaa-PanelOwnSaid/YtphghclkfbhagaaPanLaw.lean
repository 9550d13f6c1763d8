/- Plain laws on panels. -/
import Derived.Test.YtphghclkfbhagaaPanelHd
import Derived.Test.YtphghclkfbhagaaPanGreat
set_option linter.unusedVariables false
set_option linter.unusedSimpArgs false
set_option maxRecDepth 100000
namespace Go.Proofs.Ytphghclkfbhagaa
open Go Go.RowKit

theorem getD_set_self (l : List Int) (n : Nat) (v : Int) : (l.set n v).getD n 0 = if n < l.length then v else 0 := by
  rw [List.getD_eq_getElem?_getD]
  by_cases h : n < l.length
  · simp [h]
  · rw [List.getElem?_eq_none (by simp; omega)]; simp [h]
theorem getD_set_other (l : List Int) (n j : Nat) (v : Int) (h : n ≠ j) : (l.set n v).getD j 0 = l.getD j 0 := by
  rw [List.getD_eq_getElem?_getD, List.getElem?_set_ne h, ← List.getD_eq_getElem?_getD]
theorem allS_get (K : List Int) (hap : Nat → Int) (S : List Int) : ∀ (n j : Nat), n ≤ S.length → (allS K hap S n).1.getD j 0 = if j < n then nextI (K.getD j 0) (S.getD j 0) (hap j) else S.getD j 0
  | 0, j, _ => by simp [allS]
  | n + 1, j, hn => by
    have ih := fun j => allS_get K hap S n j (by omega)
    show ((allS K hap S n).1.set n (nextI (K.getD n 0) ((allS K hap S n).1.getD n 0) (hap n))).getD j 0 = _
    by_cases h : n = j
    · subst h
      rw [getD_set_self, allS_len, if_pos (by omega), if_pos (by omega), ih, if_neg (by omega)]
    · rw [getD_set_other _ _ _ _ h, ih]
      by_cases h1 : j < n
      · rw [if_pos h1, if_pos (by omega)]
      · rw [if_neg h1, if_neg (by omega)]
theorem list_getD_ext {a b : List Int} (hl : a.length = b.length) (h : ∀ j, j < a.length → a.getD j 0 = b.getD j 0) : a = b := by
  apply List.ext_getElem hl
  intro j h1 h2
  have := h j h1
  rwa [List.getD_eq_getElem?_getD, List.getElem?_eq_getElem h1, List.getD_eq_getElem?_getD, List.getElem?_eq_getElem h2] at this
theorem nextI_twice (k s h : Int) (hk : 1 ≤ k ∧ k ≤ 6) (hs : 0 ≤ s ∧ s < 9) (hh : 1 ≤ h ∧ h ≤ 5) : nextI k (nextI k s h) h = nextI k s h := by
  obtain ⟨k1, k2⟩ := hk
  obtain ⟨s1, s2⟩ := hs
  obtain ⟨h1, h2⟩ := hh
  rcases six k1 k2 with rfl | rfl | rfl | rfl | rfl | rfl <;> rcases five h1 h2 with rfl | rfl | rfl | rfl | rfl <;> rcases nine s1 s2 with rfl | rfl | rfl | rfl | rfl | rfl | rfl | rfl | rfl <;> decide
structure PD.okay (d : PD) : Prop where
  len : d.S.length = d.K.length
  kk : ∀ k ∈ d.K, 1 ≤ k ∧ k ≤ 6
  ss : ∀ s ∈ d.S, 0 ≤ s ∧ s < 9
theorem HP.okay {w : World} {p q : Nat} {d : PD} (h : HP w p q d) : d.okay := by obtain ⟨A, c, h⟩ := h; exact ⟨h.len, h.kk, h.ss⟩
theorem each_twice (d : PD) (hap : Nat → Int) (h : d.okay) (hh : ∀ j, 1 ≤ hap j ∧ hap j ≤ 5) : ((d.each hap).each hap).S = (d.each hap).S := by
  have hl : (d.each hap).S.length = d.K.length := by show (allS _ _ _ _).1.length = _; rw [allS_len, h.len]
  refine list_getD_ext ?_ fun j hj => ?_
  · show (allS d.K hap (d.each hap).S d.K.length).1.length = _
    rw [allS_len]
  · have hj' : j < d.K.length := by
      have : ((d.each hap).each hap).S.length = (d.each hap).S.length := by show (allS d.K hap (d.each hap).S d.K.length).1.length = _; rw [allS_len]
      omega
    show (allS d.K hap (d.each hap).S d.K.length).1.getD j 0 = _
    rw [allS_get _ _ _ _ _ (by omega), if_pos hj']
    have e1 : (d.each hap).S.getD j 0 = nextI (d.K.getD j 0) (d.S.getD j 0) (hap j) := by
      show (allS d.K hap d.S d.K.length).1.getD j 0 = _
      rw [allS_get _ _ _ _ _ (by rw [h.len]; exact Nat.le_refl _), if_pos hj']
    rw [e1]
    exact nextI_twice _ _ _ (h.kk _ (getD_mem hj')) (h.ss _ (getD_mem (by rw [h.len]; exact hj'))) (hh j)
theorem see_twice (d : PD) (bs fs : List Bool) (h : d.okay) : ((d.see bs fs).2.see bs fs).2.S = (d.see bs fs).2.S := by
  by_cases hl : bs.length = d.K.length ∧ fs.length = d.K.length
  · have e : d.see bs fs = (true, { d.each (PD.seeH bs fs) with silent := if (allS d.K (PD.seeH bs fs) d.S d.K.length).2 then false else d.silent }) := by rw [PD.see, if_pos hl]
    rw [e]
    show (PD.see _ bs fs).2.S = _
    rw [PD.see, if_pos (by exact hl)]
    exact each_twice d _ h (fun j => hapI_ok _ _)
  · have e : d.see bs fs = (false, d) := by rw [PD.see, if_neg hl]
    rw [e]
    show (d.see bs fs).2.S = _
    rw [e]
theorem ack_twice (d : PD) (h : d.okay) : d.ack.ack.S = d.ack.S := each_twice d _ h (fun _ => by omega)
theorem reset_twice (d : PD) (h : d.okay) : d.reset.reset.S = d.reset.S := each_twice d _ h (fun _ => by omega)
theorem see_K (d : PD) (bs fs : List Bool) : (d.see bs fs).2.K = d.K := by
  unfold PD.see
  split <;> rfl
end Go.Proofs.Ytphghclkfbhagaa
