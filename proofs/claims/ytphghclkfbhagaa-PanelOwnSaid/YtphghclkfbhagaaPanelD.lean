/- Panels: See, Silence, Test. -/
import Derived.Test.YtphghclkfbhagaaPanelC
set_option linter.unusedVariables false
set_option linter.unusedSimpArgs false
set_option maxRecDepth 100000
namespace Go.Proofs.Ytphghclkfbhagaa
open Go Go.RowKit

set_option maxHeartbeats 1000000 in
theorem seec_any (U : Nat → Prop) (bs fs : List Bool) (j x y nb cb nf cf : Nat) (Ab Af : Option Addr) (w : World) (cx : w.cell? ⟨x, 0, none⟩ = some (.slice Ab nb cb)) (cy : w.cell? ⟨y, 0, none⟩ = some (.slice Af nf cf))
    (rb : RdU U w Ab nb (bs.map bo)) (rf : RdU U w Af nf (fs.map bo)) (hb : j < nb) (hf : j < nf) (hn : nb ≤ 64) (hm : nf ≤ 64) :
    Calls Try.prog 25 #[.int .i64 j, .pointer (some ⟨x, 0, none⟩), .pointer (some ⟨y, 0, none⟩)] w fun e w' => e = .returned (.int .i64 (PD.seeH bs fs j)) ∧ w' = w := by
  obtain ⟨b1, o1, rfl, _, hc1⟩ := rb.2 (by omega)
  obtain ⟨b2, o2, rfl, _, hc2⟩ := rf.2 (by omega)
  have hbl : bs.length = nb := by have := rb.1; simpa using this
  have hfl : fs.length = nf := by have := rf.1; simpa using this
  obtain ⟨u, hu⟩ : ∃ u, u = bs.getD j false := ⟨_, rfl⟩
  obtain ⟨v, hv⟩ : ∃ u, u = fs.getD j false := ⟨_, rfl⟩
  have c1 : w.cell? ⟨b1, o1 + j, none⟩ = some (.bool u) := hc1 j _ (by rw [hu, List.getElem?_map, List.getD_eq_getElem?_getD, List.getElem?_eq_getElem (by omega)]; rfl)
  have c2 : w.cell? ⟨b2, o2 + j, none⟩ = some (.bool v) := hc2 j _ (by rw [hv, List.getElem?_map, List.getD_eq_getElem?_getD, List.getElem?_eq_getElem (by omega)]; rfl)
  have e : PD.seeH bs fs j = hapI u v := by rw [hu, hv]; rfl
  rw [e]
  have hi0 : (0 : Int) ≤ (j : Int) := by omega
  have hi1 : (j : Int) < (nb : Int) := by omega
  have hi2 : (j : Int) < (nf : Int) := by omega
  clear hc1 hc2 hbl hfl hu hv e rb rf
  cases u <;> cases v
  all_goals
    go_enter Try.func25, Try.ntmps25
    go_wp2_with fail
    go_ret
    exact ⟨rfl, rfl⟩

theorem silence_any (p q : Nat) (d : PD) (w : World) (h : HP w p q d) :
    Calls Try.prog 11 #[.pointer (some ⟨p, 0, none⟩)] w (VoidPost p q w { d with silent := true }) := by
  obtain ⟨A, c, h⟩ := h
  have c2 := cell_of_row w p 2 _ _ _ h.hp
  simp at c2
  have f2 := frozen_of_row w p 2 _ _ h.hp
  have H := Lib.hid h
  clear h
  go_enter Try.func11, Try.ntmps11
  go_wp2_with fail
  go_end0
  have h := H.out
  refine ⟨rfl, ⟨A, c, h.n64, h.len, h.kk, h.ss, h.pq, ?_, h.hk.keep (fun k hk _ _ => Below.heap_setCell _ _ _ _ hk) (by simp [World.setCell]), heap_set_other _ h.hq h.pq.symm⟩, (Kept.refl _ w).setCell (p := ⟨p, 2, none⟩) (fun h => h.2.1 rfl) _⟩
  have := heap_set_same (j := 2) (.bool true) h.hp
  simpa using this
theorem test_any (p q : Nat) (d : PD) (w : World) (b : Bool) (h : HP w p q d) :
    Calls Try.prog 12 #[.pointer (some ⟨p, 0, none⟩), .bool b] w (VoidPost p q w { d with tested := b }) := by
  obtain ⟨A, c, h⟩ := h
  have c2 := cell_of_row w p 3 _ _ _ h.hp
  simp at c2
  have f2 := frozen_of_row w p 3 _ _ h.hp
  have H := Lib.hid h
  clear h
  go_enter Try.func12, Try.ntmps12
  go_wp2_with fail
  go_end0
  have h := H.out
  refine ⟨rfl, ⟨A, c, h.n64, h.len, h.kk, h.ss, h.pq, ?_, h.hk.keep (fun k hk _ _ => Below.heap_setCell _ _ _ _ hk) (by simp [World.setCell]), heap_set_other _ h.hq h.pq.symm⟩, (Kept.refl _ w).setCell (p := ⟨p, 3, none⟩) (fun h => h.2.1 rfl) _⟩
  have := heap_set_same (j := 3) (.bool b) h.hp
  simpa using this

theorem all_see (p q : Nat) (d : PD) (w0 w : World) (h : HP w p q d) (x y : Nat) (Ab Af : Option Addr) (n cb cf : Nat) (bs fs : List Bool) (hx : w.heap[x]? = some (.cells #[.slice Ab n cb] 28)) (hy : w.heap[y]? = some (.cells #[.slice Af n cf] 28))
    (hxp : x ≠ p ∧ x ≠ q) (hyp : y ≠ p ∧ y ≠ q) (rb : RdU (Off p q w) w Ab n (bs.map bo)) (rf : RdU (Off p q w) w Af n (fs.map bo)) (hn : d.K.length = n) (h64 : n ≤ 64) :
    Calls Try.prog 22 #[.pointer (some ⟨p, 0, none⟩), .func (.func 25) #[] #[.pointer (some ⟨x, 0, none⟩), .pointer (some ⟨y, 0, none⟩)]] w fun e w' =>
      e = .returned (.bool (allS d.K (PD.seeH bs fs) d.S d.K.length).2) ∧ HP w' p q (d.each (PD.seeH bs fs)) ∧ Kept (Off p q w) w w' := by
  refine all_any 25 _ Try.func25 (by kernel_rfl) (by kernel_rfl) #[.pointer (some ⟨x, 0, none⟩), .pointer (some ⟨y, 0, none⟩)] (PD.seeH bs fs) p q d w h (fun j _ => hapI_ok _ _) (fun j hj w1 hk => ?_)
  have lx := (Array.getElem?_eq_some_iff.1 hx).1
  have ly := (Array.getElem?_eq_some_iff.1 hy).1
  have cx := cell_of_row w1 x 0 _ _ _ ((hk.block x ⟨lx, hxp⟩).trans hx)
  have cy := cell_of_row w1 y 0 _ _ _ ((hk.block y ⟨ly, hyp⟩).trans hy)
  exact seec_any (Off p q w) bs fs j x y n cb n cf Ab Af w1 (by simpa using cx) (by simpa using cy) (rb.kept hk) (rf.kept hk) (by omega) (by omega) h64 h64
theorem see_no (p q : Nat) (d : PD) (w : World) (h : HP w p q d) (Ab Af : Option Addr) (nb cb nf cf : Nat) (bs fs : List Bool) (hbl : bs.length = nb) (hfl : fs.length = nf) (hne : ¬ (nb = d.K.length ∧ nf = d.K.length)) :
    Calls Try.prog 13 #[.pointer (some ⟨p, 0, none⟩), .slice Ab nb cb, .slice Af nf cf] w (PanPost p q w (d.see bs fs)) := by
  have e : d.see bs fs = (false, d) := by rw [PD.see, if_neg (by rw [hbl, hfl]; exact hne)]
  rw [e]
  obtain ⟨A, c, h⟩ := h
  have h0 := cell_of_row w p 0 _ _ _ h.hp
  have lp := h.lp
  obtain ⟨n, hn⟩ : ∃ n, n = d.K.length := ⟨_, rfl⟩
  simp [← hn] at h0
  rw [← hn] at hne
  have H := Lib.hid h
  have Hne := Lib.hid hne
  clear hn h e hbl hfl
  have c0 : ((w.alloc (.cells #[.slice Ab nb cb] 28)).alloc (.cells #[.slice Af nf cf] 28)).cell? ⟨p, 0, none⟩ = some (.slice A n c) := by
    rw [World.cell?_alloc_lt _ _ _ (by rw [World.size_alloc]; show p < _; omega), World.cell?_alloc_lt _ _ _ lp]; exact h0
  have hB : Kept (Off p q w) w ((w.alloc (.cells #[.slice Ab nb cb] 28)).alloc (.cells #[.slice Af nf cf] 28)) := Off.of (((Below.refl _ _).alloc (Nat.le_refl _) _).alloc (by rw [World.size_alloc]; omega) _)
  have HH : Hid (HP ((w.alloc (.cells #[.slice Ab nb cb] 28)).alloc (.cells #[.slice Af nf cf] 28)) p q d) := HP.below ⟨A, c, H.out⟩ (((Below.refl _ _).alloc (Nat.le_refl _) _).alloc (by rw [World.size_alloc]; omega) _)
  have HB := Lib.hid hB
  clear hB hne
  by_cases h1 : nb = n
  · subst h1
    have t1 : ((nb : Int) != (nb : Int)) = false := by simp
    have h2 : ¬ nf = nb := fun e => Hne.out ⟨rfl, e⟩
    have t2 : ((nf : Int) != (nb : Int)) = true := by simp [bne]; omega
    clear h2
    go_enter Try.func13, Try.ntmps13
    go_wp2_with fail
    go_quiet (fail)
    go_wp2_with fail
    go_ret
    exact ⟨rfl, HH.out.below ⟨rfl, rfl, rfl, Nat.le_refl _, fun _ _ => rfl⟩, HB.out.trans ⟨rfl, rfl, rfl, Nat.le_refl _, fun _ _ => rfl⟩⟩
  · have t1 : ((nb : Int) != (n : Int)) = true := by simp [bne]; omega
    go_enter Try.func13, Try.ntmps13
    go_wp2_with fail
    go_quiet (fail)
    go_wp2_with fail
    go_ret
    exact ⟨rfl, HH.out.below ⟨rfl, rfl, rfl, Nat.le_refl _, fun _ _ => rfl⟩, HB.out.trans ⟨rfl, rfl, rfl, Nat.le_refl _, fun _ _ => rfl⟩⟩
end Go.Proofs.Ytphghclkfbhagaa
