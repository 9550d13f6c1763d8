/- Panels: See, of as many as there are lamps. -/
import Derived.Test.YtphghclkfbhagaaPanelD
set_option linter.unusedVariables false
set_option linter.unusedSimpArgs false
set_option maxRecDepth 100000
namespace Go.Proofs.Ytphghclkfbhagaa
open Go Go.RowKit

set_option maxHeartbeats 1000000 in
theorem see_yes (p q : Nat) (d : PD) (w : World) (h : HP w p q d) (Ab Af : Option Addr) (n cb cf : Nat) (bs fs : List Bool) (rb : RdU (Off p q w) w Ab n (bs.map bo)) (rf : RdU (Off p q w) w Af n (fs.map bo)) (hn : d.K.length = n) :
    Calls Try.prog 13 #[.pointer (some ⟨p, 0, none⟩), .slice Ab n cb, .slice Af n cf] w (PanPost p q w (d.see bs fs)) := by
  have hbl : bs.length = n := by have := rb.1; simpa using this
  have hfl : fs.length = n := by have := rf.1; simpa using this
  obtain ⟨a, ha⟩ : ∃ a, (allS d.K (PD.seeH bs fs) d.S d.K.length).2 = a := ⟨_, rfl⟩
  have e : d.see bs fs = (true, { d.each (PD.seeH bs fs) with silent := if a then false else d.silent }) := by rw [PD.see, if_pos (by rw [hbl, hfl]; exact ⟨hn.symm, hn.symm⟩), ha]
  have E := Lib.hid e
  obtain ⟨r, hr⟩ : ∃ r, r = d.see bs fs := ⟨_, rfl⟩
  have HR := Lib.hid hr
  rw [← hr]
  obtain ⟨A, c, h⟩ := h
  have h0 := cell_of_row w p 0 _ _ _ h.hp
  have lp := h.lp
  have lq := h.lq
  simp [hn] at h0
  have h64 : n ≤ 64 := by rw [← hn]; exact h.n64
  obtain ⟨wb, hwb⟩ : ∃ wb, wb = (w.alloc (.cells #[.slice Ab n cb] 28)).alloc (.cells #[.slice Af n cf] 28) := ⟨_, rfl⟩
  have hBb : Below w.heap.size w wb := by rw [hwb]; exact ((Below.refl _ _).alloc (Nat.le_refl _) _).alloc (by rw [World.size_alloc]; omega) _
  have hx : wb.heap[w.heap.size]? = some (.cells #[.slice Ab n cb] 28) := by rw [hwb]; exact heap_alloc_keep _ (heap_alloc_new w _)
  have hy : wb.heap[w.heap.size + 1]? = some (.cells #[.slice Af n cf] 28) := by
    rw [hwb]
    have := heap_alloc_new (w.alloc (.cells #[.slice Ab n cb] 28)) (.cells #[.slice Af n cf] 28)
    rwa [World.size_alloc] at this
  have c0 : ((w.alloc (.cells #[.slice Ab n cb] 28)).alloc (.cells #[.slice Af n cf] 28)).cell? ⟨p, 0, none⟩ = some (.slice A n c) := by
    rw [← hwb]
    exact (hBb.cell (p := ⟨p, 0, none⟩) lp).trans h0
  have t1 : ((n : Int) != (n : Int)) = false := by simp
  have H : Hid (HP wb p q d) := HP.below ⟨A, c, h⟩ hBb
  have HBb := Lib.hid hBb
  have HX : Hid (∀ wd, Below wb.heap.size wb wd → wd.heap[w.heap.size]? = some (.cells #[.slice Ab n cb] 28)) := fun wd hb => (hb.block _ (Array.getElem?_eq_some_iff.1 hx).1).trans hx
  have HY : Hid (∀ wd, Below wb.heap.size wb wd → wd.heap[w.heap.size + 1]? = some (.cells #[.slice Af n cf] 28)) := fun wd hb => (hb.block _ (Array.getElem?_eq_some_iff.1 hy).1).trans hy
  have Hn := Lib.hid hn
  have Ha := Lib.hid ha
  have RB := Lib.hid rb
  have RF := Lib.hid rf
  have Hwb := Lib.hid hwb
  clear e hr hbl hfl h hx hy hn ha hBb rb rf hwb h0
  go_enter Try.func13, Try.ntmps13
  go_wp2_with fail
  go_quiet (fail)
  rw [← Hwb.out]
  obtain ⟨wd, hwd⟩ : ∃ W, W = wb.drewN nq := ⟨_, rfl⟩
  have hbd : Below wb.heap.size wb wd := by rw [hwd]; exact ⟨rfl, rfl, rfl, Nat.le_refl _, fun _ _ => rfl⟩
  rw [← hwd]
  have hkd : Kept (Off p q w) w wd := Off.trans (Off.of HBb.out) (Off.of hbd)
  have hHd := H.out.below hbd
  have HXd := HX.out wd hbd
  have HYd := HY.out wd hbd
  have hsz : w.heap.size ≤ wd.heap.size := hkd.size
  have hrb := (RB.out.kept hkd).mono (U' := Off p q wd) (fun k hk => ⟨Nat.lt_of_lt_of_le hk.1 hsz, hk.2⟩)
  have hrf := (RF.out.kept hkd).mono (U' := Off p q wd) (fun k hk => ⟨Nat.lt_of_lt_of_le hk.1 hsz, hk.2⟩)
  have hall := all_see p q d w wd hHd w.heap.size (w.heap.size + 1) Ab Af n cb cf bs fs HXd HYd (by omega) (by omega) hrb hrf Hn.out h64
  rw [Ha.out] at hall
  have Hall := Lib.hid hall
  have Hkd := Lib.hid hkd
  clear hwd hbd hHd HXd HYd hrb hrf hall hkd c0
  cases a
  · go_wp2_with (first
      | (go_at_call 22
         (with_reducible refine Hall.out.mono ?_)
         rintro e w1 ⟨rfl, h1, hk1⟩
         have H1 := Lib.hid h1
         have K1 := Lib.hid hk1
         clear h1 hk1)
      | fail)
    go_ret
    rw [HR.out, E.out]
    exact ⟨rfl, H1.out, Off.trans Hkd.out K1.out⟩
  · go_wp2_with (first
      | (go_at_call 22
         (with_reducible refine Hall.out.mono ?_)
         rintro e w1 ⟨rfl, h1, hk1⟩
         obtain ⟨A1, c1, h1⟩ := h1
         have c2 := cell_of_row w1 p 2 _ _ _ h1.hp
         simp at c2
         have f2 := frozen_of_row w1 p 2 _ _ h1.hp
         have H1 := Lib.hid h1
         have K1 := Lib.hid hk1
         clear h1 hk1)
      | fail)
    go_ret
    rw [HR.out, E.out]
    have h1 := H1.out
    refine ⟨rfl, ⟨A1, c1, h1.n64, h1.len, h1.kk, h1.ss, h1.pq, ?_, h1.hk.keep (fun k hk _ _ => Below.heap_setCell _ _ _ _ hk) (by simp [World.setCell]), heap_set_other _ h1.hq h1.pq.symm⟩, (Off.trans Hkd.out K1.out).setCell (p := ⟨p, 2, none⟩) (fun h => h.2.1 rfl) _⟩
    have := heap_set_same (j := 2) (.bool false) h1.hp
    simpa using this
theorem see_any (p q : Nat) (d : PD) (w : World) (h : HP w p q d) (Ab Af : Option Addr) (nb cb nf cf : Nat) (bs fs : List Bool) (rb : RdU (Off p q w) w Ab nb (bs.map bo)) (rf : RdU (Off p q w) w Af nf (fs.map bo)) :
    Calls Try.prog 13 #[.pointer (some ⟨p, 0, none⟩), .slice Ab nb cb, .slice Af nf cf] w (PanPost p q w (d.see bs fs)) := by
  by_cases hne : nb = d.K.length ∧ nf = d.K.length
  · obtain ⟨rfl, rfl⟩ := hne
    exact see_yes p q d w h Ab Af _ cb cf bs fs rb rf rfl
  · exact see_no p q d w h Ab Af nb cb nf cf bs fs (by have := rb.1; simpa using this) (by have := rf.1; simpa using this) hne

def StatesPost (w : World) (S : List Int) (e : Ending) (w' : World) : Prop :=
  ∃ A n c, e = .returned (.slice A n c) ∧ S.length = n ∧ w'.ownsRow w.heap.size 3 1 (.slice A n c) n (S.map iv) ∧ Below w.heap.size w w'
theorem states_any (p q : Nat) (d : PD) (w : World) (h : HP w p q d) :
    Calls Try.prog 15 #[.pointer (some ⟨p, 0, none⟩)] w (StatesPost w d.S) := by
  obtain ⟨A, c, h⟩ := h
  obtain ⟨n, hn⟩ : ∃ n, n = d.K.length := ⟨_, rfl⟩
  have h1 := cell_of_row w p 1 _ _ _ h.hp
  simp [← hn] at h1
  have hr : Rd w w.heap.size 1 (some ⟨q, 0, none⟩) n (d.S.map iv) := by
    refine ⟨by simp [h.len, hn], fun _ => ⟨q, 0, rfl, h.lq, fun j u hu => ?_⟩⟩
    rw [cell_of_row _ _ _ _ _ _ h.hq]
    simpa using hu
  have hl : d.S.length = n := by rw [hn, h.len]
  have h64 : n ≤ 64 := by rw [hn]; exact h.n64
  have Hl := Lib.hid hl
  clear hn h hl
  go_enter Try.func15, Try.ntmps15
  go_wp2_with (first
    | (go_at_call 21; (with_reducible refine (clone_any (some ⟨q, 0, none⟩) n n _ d.S _ hr (Nat.le_refl _) (by omega) (Nat.le_refl _)).mono ?_)
       rintro e w1 ⟨A1, c1, rfl, hown1, hb1⟩
       have HO := Lib.hid hown1
       clear hown1)
    | fail)
  go_ret
  exact ⟨A1, n, c1, rfl, Hl.out, HO.out, hb1⟩
end Go.Proofs.Ytphghclkfbhagaa
