/- Panels: Looks. -/
import Derived.Test.YtphghclkfbhagaaPanelF
set_option linter.unusedVariables false
set_option linter.unusedSimpArgs false
set_option maxRecDepth 100000
namespace Go.Proofs.Ytphghclkfbhagaa
open Go Go.RowKit

def looksT (t : Bool) (S Z : List Int) : Nat → List Int
  | 0 => Z
  | j + 1 => (looksT t S Z j).set j (if t then 1 else lookI (S.getD j 0))
theorem looksT_len (t : Bool) (S Z : List Int) (j : Nat) : (looksT t S Z j).length = Z.length := by
  induction j with
  | zero => rfl
  | succ j ih => simp [looksT, ih]
def zrI (n : Nat) : List Int := List.replicate n 0
def PD.looks (d : PD) : List Int := looksT d.tested d.S (zrI d.K.length) d.K.length
set_option maxHeartbeats 1000000 in
theorem looks_any (p q : Nat) (d : PD) (w : World) (h : HP w p q d) :
    Calls Try.prog 20 #[.pointer (some ⟨p, 0, none⟩)] w (StatesPost w d.looks) := by
  obtain ⟨A, c, h⟩ := h
  obtain ⟨n, hn⟩ : ∃ n, n = d.K.length := ⟨_, rfl⟩
  have c1 := cell_of_row w p 1 _ _ _ h.hp
  have c3 := cell_of_row w p 3 _ _ _ h.hp
  simp [← hn] at c1 c3
  have h64 : n ≤ 64 := by rw [hn]; exact h.n64
  have lp := h.lp
  have H := Lib.hid h
  obtain ⟨t, ht⟩ : ∃ t, t = d.tested := ⟨_, rfl⟩
  rw [← ht] at c3
  have HT := Lib.hid ht
  obtain ⟨R, hR⟩ : ∃ R, R = looksT t d.S (zrI n) := ⟨_, rfl⟩
  have HRn : Hid (d.looks = R n) := by show _ = _; rw [hR, ht, hn]; rfl
  have HR0 : Hid (R 0 = zrI n) := by show _ = _; rw [hR]; rfl
  have HRs : Hid (∀ j, R (j + 1) = (R j).set j (if t then 1 else lookI (d.S.getD j 0))) := fun j => by rw [hR]; rfl
  have HRl : Hid (∀ j, (R j).length = n) := fun j => by rw [hR, looksT_len]; simp [zrI]
  obtain ⟨L, hL⟩ : ∃ L, L = d.looks := ⟨_, rfl⟩
  have HL := Lib.hid hL
  rw [← hL]
  obtain ⟨i0, hi, hz0, hz1, hz2⟩ := info_parts info_int
  have Hi := Lib.hid hi
  have Hn := Lib.hid hn
  clear hn h ht hR hL hi
  go_enter Try.func20, Try.ntmps20
  go_wp2_with (first
    | (with_reducible refine wpList_mk _ rfl (.tmp 10) (.tmp 10) 22 rfl w.heap.size 3 i0 (.int .i64 0) Try.underlying22 Hi.out hz0 hz1 rfl .i64 .i64 _ _ n n rfl rfl rfl rfl (Nat.le_refl _) ?e3 ?e4 (Nat.le_refl _) ?_)
    | fail)
  case e3 => rw [hz2]; omega
  case e4 => unfold maxLen; omega
  intro w2 hown2 hg2
  have hb2 : Below w.heap.size w w2 := (Below.refl _ _).grown hg2 (Nat.le_refl _) (by simp)
  have hown2' : w2.ownsRow w.heap.size 3 1 (.slice (some ⟨w.heap.size, 0, none⟩) n n) n ((R 0).map iv) := by
    rw [HR0.out]
    simpa [zrI, iv] using hown2
  have d1 := (hb2.cell (p := ⟨p, 1, none⟩) lp).trans c1
  have HO2 := Lib.hid hown2'
  have HB2 := Lib.hid hb2
  have HH2 : Hid (HPc w2 p q A c d) := H.out.below hb2
  clear hown2 hown2' hg2 hb2 c1 c3
  go_wp2_with fail
  clear d1
  go_loopg [17] n (fun k i wr => ∃ j : Nat, k + j = n ∧ i = .int .i64 j ∧ Below w.heap.size w wr ∧ wr.ownsRow w.heap.size 3 1 (.slice (some ⟨w.heap.size, 0, none⟩) n n) n ((R j).map iv))
  case atStart => exact ⟨0, by omega, rfl, HB2.out, HO2.out⟩
  case round =>
    obtain ⟨j, hj, rfl, hb, ho⟩ := hrel
    have hh := H.out.below hb
    by_cases hlt : j < n
    · have hjS : j < d.S.length := by rw [H.out.len, ← Hn.out]; exact hlt
      obtain ⟨x, hx⟩ : ∃ x, x = d.S.getD j 0 := ⟨_, rfl⟩
      have x1 : 0 ≤ x ∧ x < 9 := by rw [hx]; exact H.out.ss _ (getD_mem hjS)
      have cq : wr.cell? ⟨q, j, none⟩ = some (.int .i64 x) := by
        rw [cell_of_row _ _ _ _ _ _ hh.hq]
        simp [hx, hjS, iv]
      have HRj : Hid (R (j + 1) = (R j).set j (if t then 1 else lookI x)) := by show _ = _; rw [hx]; exact HRs.out j
      obtain ⟨z, hz⟩ : ∃ z, z = lookI x := ⟨_, rfl⟩
      have Hz := Lib.hid hz
      have hi0 : (0 : Int) ≤ (j : Int) := by omega
      have hi1 : (j : Int) < (n : Int) := by omega
      have hpg : p ≠ w.heap.size := by omega
      have HB := Lib.hid hb
      have HH := Lib.hid hh
      have HO := Lib.hid ho
      clear hb hh ho hx hz hjS HB2 HH2 HO2
      cases t
      all_goals
        go_wp2_with (first
          | (go_at_call 30; (with_reducible refine (llook_any x _ x1.1 x1.2).mono ?_)
             rintro e w3 ⟨he, hb3⟩
             rw [← Hz.out] at he
             subst he
             have ho3 := own_below HO.out hb3
             have HB3 : Hid (Below w.heap.size w w3) := HB.out.trans (hb3.mono HB.out.size)
             have HH3 : Hid (HPc w3 p q A c d) := HH.out.below hb3
             have c3 := cell_of_row w3 p 3 _ _ _ HH3.out.hp
             simp [← HT.out] at c3
             have ho3' := own_some ho3 (by omega)
             obtain ⟨_, g, e, _, _, hcell, hfr⟩ := ho3'
             injection e with e
             injection e with e
             subst e
             have cg := hcell j (.int .i64 ((R j).getD j 0)) (by rw [List.getElem?_map, List.getD_eq_getElem?_getD, List.getElem?_eq_getElem (by rw [HRl.out j]; exact hlt)]; rfl)
             have fg := hfr j
             have HO3 := Lib.hid ho3
             clear hb3 hcell hfr ho3)
          | fail)
        go_roundg (gk - 1)
        case measure => omega
        case rel =>
          refine ⟨j + 1, by omega, by go_num, ?_, ?_⟩
          · first
              | exact HB3.out.setCell (p := ⟨w.heap.size, j, none⟩) (Nat.le_refl _) _
              | exact (HB3.out.setCell (p := ⟨w.heap.size, j, none⟩) (Nat.le_refl _) _).setCell (p := ⟨w.heap.size, j, none⟩) (Nat.le_refl _) _
          · rw [HRj.out, ← Hz.out]
            have o1 := own_stored HO3.out j (iv z)
            have o2 := own_stored o1 j (iv 1)
            rw [List.set_set] at o2
            first
              | (rw [List.map_set]; exact o1)
              | (rw [List.map_set]; exact o2)
    · obtain rfl : j = n := by omega
      have HO := Lib.hid ho
      have HB := Lib.hid hb
      clear ho hb hh
      go_wp2_with fail
      go_ret
      exact ⟨_, _, _, rfl, by rw [HL.out, HRn.out]; exact HRl.out j, by rw [HL.out, HRn.out]; exact HO.out, HB.out⟩
end Go.Proofs.Ytphghclkfbhagaa
