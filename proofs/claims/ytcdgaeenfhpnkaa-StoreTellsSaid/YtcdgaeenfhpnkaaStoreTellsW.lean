/- StoreTells: a record's bytes, and what bytes say, are the document's. -/
import Derived.Test.YtcdgaeenfhpnkaaStY
set_option linter.unusedVariables false
set_option linter.unusedSimpArgs false
set_option maxRecDepth 100000
namespace Go.Proofs.Ytcdgaeenfhpnkaa
open Go Go.RowKit
attribute [local go_sem] Oper.semAt_some

set_option maxHeartbeats 8000000 in
theorem tells_great (v : StV) (A : Option Addr) (n c : Nat) (A2 : Option Addr) (n2 c2 : Nat) (w : World) (hf : v.fit) (hn : n ≤ 140737488351232) (hn2 : n2 ≤ maxLen)
    (hg : 500 < v.n1 + v.n2 + v.n3 + n ∨ 3000 < n2) :
    Calls Try.prog 3 #[.agg #[.slice v.A1 v.n1 v.c1, .slice v.A2 v.n2 v.c2, .slice v.A3 v.n3 v.c3], .slice A n c, .slice A2 n2 c2] w fun e w' => e = .returned (.bool true) ∧ Below w.heap.size w w' := by
  obtain ⟨A1, n1, c1, A3, n3, c3, A4, n4, c4⟩ := v
  obtain ⟨wb, hwb⟩ : ∃ y, y = bxw w ⟨A1, n1, c1, A3, n3, c3, A4, n4, c4⟩ := ⟨_, rfl⟩
  have Hwb : Hid (wb = w.alloc (.cells #[.slice A1 n1 c1, .slice A3 n3 c3, .slice A4 n4 c4] 25)) := hwb
  have Hbx : Hid (∀ w', Below wb.heap.size wb w' → Bx w ⟨A1, n1, c1, A3, n3, c3, A4, n4, c4⟩ w') := fun w' h => by rw [hwb] at h; exact bxw_bx h
  have Hb0 : Hid (Below w.heap.size w wb) := by rw [hwb]; exact bxw_bel _ _
  have Hf : Hid (n1 ≤ 140737488351232 ∧ n3 ≤ 140737488351232 ∧ n4 ≤ 140737488351232) := hf
  clear hf hwb
  have hx : decide (500 < n1 + n3 + n4 + n) = true ∨ decide (500 < n1 + n3 + n4 + n) = false ∧ (3000 : Int) < (n2 : Int) := by
    by_cases h : 500 < n1 + n3 + n4 + n
    · exact .inl (decide_eq_true h)
    · exact .inr ⟨decide_eq_false h, by rcases hg with h1 | h1; exact absurd h1 h; omega⟩
  clear hg
  have hn2' : n2 ≤ 9223372036854775807 := by unfold maxLen at hn2; omega
  rcases hx with h1 | ⟨h1, h2⟩
  all_goals
    have H1 := Lib.hid h1
    clear h1
    go_enter Try.func3, Try.ntmps3
    go_wp2_with (first
      | (rw [← Hwb.out]
         go_at_call 8; (with_reducible refine (head_any _).mono ?_)
         rintro e w1 ⟨rfl, hb1⟩
         obtain ⟨z0, z1, z2⟩ := Hbx.out w1 hb1
         dsimp only at z0 z1 z2
         have HB1 : Hid (Below w.heap.size w w1) := Hb0.out.trans (hb1.mono Hb0.out.size)
         clear hb1)
      | (go_at_call 9; (with_reducible refine (greatState_any ⟨A1, n1, c1, A3, n3, c3, A4, n4, c4⟩ A n c _ Hf.out.1 Hf.out.2.1 Hf.out.2.2 hn).mono ?_)
         rintro e w2 ⟨he, hb2⟩
         dsimp only at he
         rw [H1.out] at he
         subst he
         have HB2 : Hid (Below w.heap.size w w2) := HB1.out.trans (hb2.mono HB1.out.size)
         clear hb2))
    go_ret
    exact ⟨rfl, HB2.out⟩
set_option maxHeartbeats 8000000 in
theorem tells_go (v : StV) (s : St) (A : Option Addr) (n c : Nat) (l : List Nt) (A2 : Option Addr) (n2 c2 : Nat) (b : List Nat) (w : World) (hf : v.fit) (hn : n ≤ 140737488351232) (hg : v.n1 + v.n2 + v.n3 + n ≤ 500) (hn2 : n2 ≤ 3000)
    (hx : StR w w.heap.size v s) (hl : RdS Nt.cells w w.heap.size 3 A n l) (hr : Rd w w.heap.size 1 A2 n2 (b.map bv)) (hb : ∀ x ∈ b, x < 256) (hn2c : n2 ≤ c2) (hc2 : c2 ≤ maxLen) :
    Calls Try.prog 3 #[.agg #[.slice v.A1 v.n1 v.c1, .slice v.A2 v.n2 v.c2, .slice v.A3 v.n3 v.c3], .slice A n c, .slice A2 n2 c2] w fun e w' => e = .returned (.bool true) ∧ Below w.heap.size w w' := by
  obtain ⟨A1, n1, c1, A3, n3, c3, A4, n4, c4⟩ := v
  obtain ⟨wb, hwb⟩ : ∃ y, y = bxw w ⟨A1, n1, c1, A3, n3, c3, A4, n4, c4⟩ := ⟨_, rfl⟩
  have Hwb : Hid (wb = w.alloc (.cells #[.slice A1 n1 c1, .slice A3 n3 c3, .slice A4 n4 c4] 25)) := hwb
  have Hbx : Hid (∀ w', Below wb.heap.size wb w' → Bx w ⟨A1, n1, c1, A3, n3, c3, A4, n4, c4⟩ w') := fun w' h => by rw [hwb] at h; exact bxw_bx h
  have Hb0 : Hid (Below w.heap.size w wb) := by rw [hwb]; exact bxw_bel _ _
  have Hf : Hid (n1 ≤ 140737488351232 ∧ n3 ≤ 140737488351232 ∧ n4 ≤ 140737488351232) := hf
  have H := Lib.hid hx
  have Hl := Lib.hid hl
  have Hr := Lib.hid hr
  have Hb := Lib.hid hb
  have H1 : Hid (decide (500 < n1 + n3 + n4 + n) = false) := decide_eq_false (by dsimp only at hg; omega)
  have hn2' : ¬ (3000 : Int) < (n2 : Int) := by omega
  have hn2'' : n2 ≤ 9223372036854775807 := by omega
  have hnm : n ≤ maxLen := by unfold maxLen; omega
  obtain ⟨y, hy⟩ : ∃ y, y = readV b := ⟨_, rfl⟩
  obtain ⟨ys, yl, yb⟩ := y
  have Hy := Lib.hid hy.symm
  clear hx hl hr hb hf hwb hg hy
  go_enter Try.func3, Try.ntmps3
  go_wp2_with (first
    | (rw [← Hwb.out]
       go_at_call 8; (with_reducible refine (head_any _).mono ?_)
       rintro e w1 ⟨rfl, hb1⟩
       obtain ⟨z0, z1, z2⟩ := Hbx.out w1 hb1
       dsimp only at z0 z1 z2
       have HW1 := Lib.hid hb1
       clear hb1)
    | (go_at_call 9; (with_reducible refine (greatState_any ⟨A1, n1, c1, A3, n3, c3, A4, n4, c4⟩ A n c _ Hf.out.1 Hf.out.2.1 Hf.out.2.2 hn).mono ?_)
       rintro e w2 ⟨he, hb2⟩
       dsimp only at he
       rw [H1.out] at he
       subst he
       clear z0 z1 z2
       have hw2 := HW1.out.trans (hb2.mono HW1.out.size)
       have HW2 := Lib.hid hw2
       have HB2 : Hid (Below w.heap.size w w2) := Hb0.out.trans (hw2.mono Hb0.out.size)
       clear hb2 HW1 hw2)
    | (go_at_call 10; (with_reducible refine (read_is Hy.out (Hr.out.to HB2.out) Hb.out hn2c hc2).mono ?_)
       rintro e w4 ⟨⟨P1, p1, q1, P2, p2, q2, P3, p3, q3⟩, A6, n6, c6, rfl, ho4, hn4, hl4, hb4⟩
       have hw4 := HW2.out.trans (hb4.mono HW2.out.size)
       have HW4 := Lib.hid hw4
       have HB4 : Hid (Below w.heap.size w w4) := Hb0.out.trans (hw4.mono Hb0.out.size)
       have HO4 := Lib.hid ho4
       have HN4 := Lib.hid hn4
       have HL4 := Lib.hid hl4
       clear ho4 hn4 hl4 hb4 HB2 HW2 hw4)
    | (go_at_call 11; (with_reducible refine (ref_is Hy.out (Hr.out.to (HB4.out.trans ((al_ w4 _).mono HB4.out.size))) Hb.out hn2 hn2c hc2).mono ?_)
       rintro e w5 ⟨⟨T1, r1, u1, T2, r2, u2, T3, r3, u3⟩, A7, n7, c7, rfl, ho5, hn5, hl5, hb5⟩
       have hx5 := (hb5.block w4.heap.size (by rw [World.size_alloc]; omega)).trans (heap_alloc_new w4 _)
       have hb5' : Below w4.heap.size w4 w5 := (al_ w4 _).trans (hb5.mono (al_ w4 _).size)
       have HX5 := Lib.hid hx5
       have HW5 := Lib.hid (HW4.out.trans (hb5'.mono HW4.out.size))
       have HB5 : Hid (Below w.heap.size w w5) := HB4.out.trans (hb5'.mono HB4.out.size)
       have HO5 := Lib.hid (HO4.out.below hb5')
       have HN5 := Lib.hid (own_below HN4.out hb5')
       have HP5 := Lib.hid ho5
       have HM5 := Lib.hid hn5
       have HL5 := Lib.hid hl5
       clear hx5 hb5' ho5 hn5 hl5 hb5 HB4 HW4 HO4 HN4))
  obtain ⟨wz, hwz⟩ : ∃ x, x = w5.alloc (.cells #[.slice T1 r1 u1, .slice T2 r2 u2, .slice T3 r3 u3] 25) := ⟨_, rfl⟩
  have hxz := heap_alloc_new w5 (.cells #[.slice T1 r1 u1, .slice T2 r2 u2, .slice T3 r3 u3] 25)
  have haz := al_ w5 (.cells #[.slice T1 r1 u1, .slice T2 r2 u2, .slice T3 r3 u3] 25)
  rw [← hwz] at hxz haz ⊢
  clear hwz
  have hx4 := (haz.block _ (Array.getElem?_eq_some_iff.1 HX5.out).1).trans HX5.out
  have HBz : Hid (Below w.heap.size w wz) := HB5.out.trans (haz.mono HB5.out.size)
  have HWz : Hid (Below wb.heap.size wb wz) := HW5.out.trans (haz.mono HW5.out.size)
  have HOz := Lib.hid (HO5.out.below haz)
  have HNz := Lib.hid (own_below HN5.out haz)
  have HPz := Lib.hid (HP5.out.below haz)
  have HMz := Lib.hid (own_below HM5.out haz)
  have y0 : ∀ w', Below wz.heap.size wz w' → w'.cell? ⟨w5.heap.size, 0, none⟩ = some (.slice T1 r1 u1) := fun w' h => (bx_cells hxz h).1
  have y1 : ∀ w', Below wz.heap.size wz w' → w'.cell? ⟨w5.heap.size, 1, none⟩ = some (.slice T2 r2 u2) := fun w' h => (bx_cells hxz h).2.1
  have y2 : ∀ w', Below wz.heap.size wz w' → w'.cell? ⟨w5.heap.size, 2, none⟩ = some (.slice T3 r3 u3) := fun w' h => (bx_cells hxz h).2.2
  have y3 : ∀ w', Below wz.heap.size wz w' → w'.cell? ⟨w4.heap.size, 0, none⟩ = some (.slice P1 p1 q1) := fun w' h => (bx_cells hx4 h).1
  have y4 : ∀ w', Below wz.heap.size wz w' → w'.cell? ⟨w4.heap.size, 1, none⟩ = some (.slice P2 p2 q2) := fun w' h => (bx_cells hx4 h).2.1
  have y5 : ∀ w', Below wz.heap.size wz w' → w'.cell? ⟨w4.heap.size, 2, none⟩ = some (.slice P3 p3 q3) := fun w' h => (bx_cells hx4 h).2.2
  have y6 : ∀ w', Below wz.heap.size wz w' → w'.cell? ⟨w.heap.size, 0, none⟩ = some (.slice A1 n1 c1) := fun w' h => (Hbx.out w' (HWz.out.trans (h.mono HWz.out.size))).1
  have y7 : ∀ w', Below wz.heap.size wz w' → w'.cell? ⟨w.heap.size, 1, none⟩ = some (.slice A3 n3 c3) := fun w' h => (Hbx.out w' (HWz.out.trans (h.mono HWz.out.size))).2.1
  have y8 : ∀ w', Below wz.heap.size wz w' → w'.cell? ⟨w.heap.size, 2, none⟩ = some (.slice A4 n4 c4) := fun w' h => (Hbx.out w' (HWz.out.trans (h.mono HWz.out.size))).2.2
  have kcv : ∀ (w' : World) (A : Option Addr) (n c B : Nat) (l : List Nat), Rd w' B 1 A n (l.map bv) → (convert 27 9 (.slice A n c)).run Try.prog w' = .ok (.string (bstr l)) w' := fun w' A n c B l h =>
    run_str h 27 9 5 Try.underlying27 Try.underlying5 Try.underlying9
  have Hcv := Lib.hid kcv
  obtain ⟨bs, hbs⟩ : ∃ x, x = bytesF s l := ⟨_, rfl⟩
  have Hbs := Lib.hid hbs
  clear kcv hxz haz hx4 hbs
  refine startH (fun w' => Below wz.heap.size wz w') 25 #[false, false, false, false, false, false, false, false, false, false, false, false, false, false, false, false, false, false, false, false, false, false, false, false, false] rfl rfl (by kernel_rfl) ?_ (fun hHeld => ?_)
  · (first | exact (Below.refl _ _).drew | assumption)
  refine takeH 0 36 #[true, false, false, false, false, false, false, false, false, false, false, false, false, false, false, false, false, false, false, false, false, false, false, false, false] (v := ?_) rfl rfl rfl (by kernel_rfl) (by kernel_rfl) (by kernel_rfl) (fun _ _ _ h => h) (Or.inl ⟨by rfl, ?_⟩) hHeld ?_
  rotate_left
  · (intro w' hSw; (try dsimp only at hSw); go_simp; (try with_reducible rfl))
  simp only [List.set_cons_zero, List.set_cons_succ]
  refine takeH 1 37 #[true, true, false, false, false, false, false, false, false, false, false, false, false, false, false, false, false, false, false, false, false, false, false, false, false] (v := ?_) rfl rfl rfl (by kernel_rfl) (by kernel_rfl) (by kernel_rfl) (fun _ _ _ h => h) (Or.inl ⟨by rfl, ?_⟩) hHeld ?_
  rotate_left
  · (intro w' hSw; (try dsimp only at hSw); go_simp; (try with_reducible rfl))
  simp only [List.set_cons_zero, List.set_cons_succ]
  refine takeH 2 38 #[true, true, true, false, false, false, false, false, false, false, false, false, false, false, false, false, false, false, false, false, false, false, false, false, false] (v := ?_) rfl rfl rfl (by kernel_rfl) (by kernel_rfl) (by kernel_rfl) (fun _ _ _ h => h) (Or.inl ⟨by rfl, ?_⟩) hHeld ?_
  rotate_left
  · (intro w' hSw; (try dsimp only at hSw); go_simp; (try with_reducible rfl))
  simp only [List.set_cons_zero, List.set_cons_succ]
  refine takeH 3 39 #[true, true, true, true, false, false, false, false, false, false, false, false, false, false, false, false, false, false, false, false, false, false, false, false, false] (v := ?_) rfl rfl rfl (by kernel_rfl) (by kernel_rfl) (by kernel_rfl) (fun _ _ _ h => h) (Or.inl ⟨by rfl, ?_⟩) hHeld ?_
  rotate_left
  · (intro w' hSw; (try dsimp only at hSw); go_simp; (try with_reducible rfl))
  simp only [List.set_cons_zero, List.set_cons_succ]
  refine takeH 6 42 #[true, true, true, true, false, false, true, false, false, false, false, false, false, false, false, false, false, false, false, false, false, false, false, false, false] (v := ?_) rfl rfl rfl (by kernel_rfl) (by kernel_rfl) (by kernel_rfl) (fun _ _ _ h => h) (Or.inl ⟨by rfl, ?_⟩) hHeld ?_
  rotate_left
  · (intro w' hSw; (try dsimp only at hSw); go_simp; (try with_reducible rfl))
  simp only [List.set_cons_zero, List.set_cons_succ]
  refine takeH 7 43 #[true, true, true, true, false, false, true, true, false, false, false, false, false, false, false, false, false, false, false, false, false, false, false, false, false] (v := ?_) rfl rfl rfl (by kernel_rfl) (by kernel_rfl) (by kernel_rfl) (fun _ _ _ h => h) (Or.inl ⟨by rfl, ?_⟩) hHeld ?_
  rotate_left
  · (intro w' hSw; (try dsimp only at hSw); go_simp; (try with_reducible rfl))
  simp only [List.set_cons_zero, List.set_cons_succ]
  refine branchH 4 40 #[true, true, true, true, true, false, true, true, false, false, false, false, false, false, false, false, false, false, false, false, false, false, false, false, false] (by kernel_rfl) rfl rfl rfl (by rfl) (fun K hK => ?_)
  go_simp
  (go_at_call 12; (with_reducible refine (bytes_any ⟨A1, n1, c1, A3, n3, c3, A4, n4, c4⟩ s A n c _ l _ (H.out.to (HBz.out.trans (hHeld.mono HBz.out.size))) (Hl.out.to (HBz.out.trans (hHeld.mono HBz.out.size))) hnm (Nat.le_refl _)).mono ?_))
  rintro e wn ⟨v9, rfl, hown9, hb9⟩
  rw [← Hbs.out] at hown9
  obtain ⟨A9, c9, rfl⟩ := own_shape hown9
  have hHn := hHeld.trans (hb9.mono hHeld.size)
  have kv9 := Hcv.out wn A9 bs.length c9 _ bs (Rd.of_own hown9)
  refine hK.out _ _ ?_ (fun hHeld' => ?_)
  · (first | exact (Below.refl _ _).drew | assumption)
  clear hK K hHeld
  have hHeld := hHeld'
  clear hHeld'
  simp only [List.set_cons_zero, List.set_cons_succ]
  refine wpAnyH_ready (rs := [5, 8]) (by kernel_rfl) (by simp) ?_
  refine (consH 5 41 #[true, true, true, true, true, true, true, true, false, false, false, false, false, false, false, false, false, false, false, false, false, false, false, false, false] rfl rfl rfl (by rfl) (fun K hK => ?_) (consH 8 44 #[true, true, true, true, true, false, true, true, true, false, false, false, false, false, false, false, false, false, false, false, false, false, false, false, false] rfl rfl rfl (by rfl) (fun K hK => ?_) AllReadyH.nil))
  · go_simp
    refine hK.out _ _ ?_ (fun hHeld' => ?_)
    · (first | exact (Below.refl _ _).drew | assumption)
    clear hK K hHeld
    have hHeld := hHeld'
    clear hHeld'
    simp only [List.set_cons_zero, List.set_cons_succ]
    refine branchH 8 44 #[true, true, true, true, true, true, true, true, true, false, false, false, false, false, false, false, false, false, false, false, false, false, false, false, false] (by kernel_rfl) rfl rfl rfl (by rfl) (fun K hK => ?_)
    go_simp
    (go_at_call 13; (with_reducible refine (bytes22_any ⟨A1, n1, c1, A3, n3, c3, A4, n4, c4⟩ s A n c _ l _ (H.out.to (HBz.out.trans (hHeld.mono HBz.out.size))) (Hl.out.to (HBz.out.trans (hHeld.mono HBz.out.size))) hnm (Nat.le_refl _)).mono ?_))
    rintro e wn2 ⟨v10, rfl, hown10, hb10⟩
    rw [← Hbs.out] at hown10
    obtain ⟨A10, c10, rfl⟩ := own_shape hown10
    have hHn2 := hHeld.trans (hb10.mono hHeld.size)
    have kv10 := Hcv.out wn2 A10 bs.length c10 _ bs (Rd.of_own hown10)
    have kv9b := Hcv.out wn2 A9 bs.length c9 _ bs (Rd.of_own (own_below hown9 hb10))
    refine hK.out _ _ ?_ (fun hHeld' => ?_)
    · (first | exact (Below.refl _ _).drew | assumption)
    clear hK K hHeld
    have hHeld := hHeld'
    clear hHeld'
    simp only [List.set_cons_zero, List.set_cons_succ]
    refine branchH 9 45 #[true, true, true, true, true, true, true, true, true, true, false, false, false, false, false, false, false, false, false, false, false, false, false, false, false] (by kernel_rfl) rfl rfl rfl (by rfl) (fun K hK => ?_)
    go_simp
    refine hK.out _ _ ?_ (fun hHeld' => ?_)
    · (first | exact (Below.refl _ _).drew | assumption)
    clear hK K hHeld
    have hHeld := hHeld'
    clear hHeld'
    simp only [List.set_cons_zero, List.set_cons_succ]
    refine takeH 10 46 #[true, true, true, true, true, true, true, true, true, true, true, false, false, false, false, false, false, false, false, false, false, false, false, false, false] (v := ?_) rfl rfl rfl (by kernel_rfl) (by kernel_rfl) (by kernel_rfl) (fun _ _ _ h => h) (Or.inl ⟨by rfl, ?_⟩) hHeld ?_
    rotate_left
    · (intro w' hSw; (try dsimp only at hSw); go_simp; (try with_reducible rfl))
    simp only [List.set_cons_zero, List.set_cons_succ]
    refine takeH 11 47 #[true, true, true, true, true, true, true, true, true, true, true, true, false, false, false, false, false, false, false, false, false, false, false, false, false] (v := ?_) rfl rfl rfl (by kernel_rfl) (by kernel_rfl) (by kernel_rfl) (fun _ _ _ h => h) (Or.inl ⟨by rfl, ?_⟩) hHeld ?_
    rotate_left
    · (intro w' hSw; (try dsimp only at hSw); go_simp; (try with_reducible rfl))
    simp only [List.set_cons_zero, List.set_cons_succ]
    refine takeH 12 48 #[true, true, true, true, true, true, true, true, true, true, true, true, true, false, false, false, false, false, false, false, false, false, false, false, false] (v := ?_) rfl rfl rfl (by kernel_rfl) (by kernel_rfl) (by kernel_rfl) (fun _ _ _ h => h) (Or.inl ⟨by rfl, ?_⟩) hHeld ?_
    rotate_left
    · (intro w' hSw; (try dsimp only at hSw); go_simp; (try with_reducible rfl))
    simp only [List.set_cons_zero, List.set_cons_succ]
    refine takeH 13 49 #[true, true, true, true, true, true, true, true, true, true, true, true, true, true, false, false, false, false, false, false, false, false, false, false, false] (v := ?_) rfl rfl rfl (by kernel_rfl) (by kernel_rfl) (by kernel_rfl) (fun _ _ _ h => h) (Or.inl ⟨by rfl, ?_⟩) hHeld ?_
    rotate_left
    · (intro w' hSw; (try dsimp only at hSw); go_simp; (try with_reducible rfl))
    simp only [List.set_cons_zero, List.set_cons_succ]
    refine takeH 14 50 #[true, true, true, true, true, true, true, true, true, true, true, true, true, true, true, false, false, false, false, false, false, false, false, false, false] (v := ?_) rfl rfl rfl (by kernel_rfl) (by kernel_rfl) (by kernel_rfl) (fun _ _ _ h => h) (Or.inl ⟨by rfl, ?_⟩) hHeld ?_
    rotate_left
    · (intro w' hSw; (try dsimp only at hSw); go_simp; (try with_reducible rfl))
    simp only [List.set_cons_zero, List.set_cons_succ]
    refine takeH 15 51 #[true, true, true, true, true, true, true, true, true, true, true, true, true, true, true, true, false, false, false, false, false, false, false, false, false] (v := ?_) rfl rfl rfl (by kernel_rfl) (by kernel_rfl) (by kernel_rfl) (fun _ _ _ h => h) (Or.inl ⟨by rfl, ?_⟩) hHeld ?_
    rotate_left
    · (intro w' hSw; (try dsimp only at hSw); go_simp; (try with_reducible rfl))
    simp only [List.set_cons_zero, List.set_cons_succ]
    refine takeH 16 52 #[true, true, true, true, true, true, true, true, true, true, true, true, true, true, true, true, true, false, false, false, false, false, false, false, false] (v := ?_) rfl rfl rfl (by kernel_rfl) (by kernel_rfl) (by kernel_rfl) (fun _ _ _ h => h) (Or.inl ⟨by rfl, ?_⟩) hHeld ?_
    rotate_left
    · (intro w' hSw; (try dsimp only at hSw); go_simp; (try with_reducible rfl))
    simp only [List.set_cons_zero, List.set_cons_succ]
    refine branchH 17 53 #[true, true, true, true, true, true, true, true, true, true, true, true, true, true, true, true, true, true, false, false, false, false, false, false, false] (by kernel_rfl) rfl rfl rfl (by rfl) (fun K hK => ?_)
    go_simp
    (go_at_call 14; (with_reducible refine (same22_yes ⟨P1, p1, q1, P2, p2, q2, P3, p3, q3⟩ ⟨T1, r1, u1, T2, r2, u2, T3, r3, u3⟩ ys A6 A7 n6 n7 c6 c7 yl _ (HOz.out.below hHeld).toR (HPz.out.below hHeld).toR (rds_of_own (own_below HNz.out hHeld) HL4.out) (rds_of_own (own_below HMz.out hHeld) HL5.out) (own_small HNz.out) (own_small HMz.out)).mono ?_))
    rintro e wn3 ⟨rfl, hb11⟩
    have hHn3 := hHeld.trans (hb11.mono hHeld.size)
    refine hK.out _ _ ?_ (fun hHeld' => ?_)
    · (first | exact (Below.refl _ _).drew | assumption)
    clear hK K hHeld
    have hHeld := hHeld'
    clear hHeld'
    simp only [List.set_cons_zero, List.set_cons_succ]
    refine takeH 18 54 #[true, true, true, true, true, true, true, true, true, true, true, true, true, true, true, true, true, true, true, false, false, false, false, false, false] (v := ?_) rfl rfl rfl (by kernel_rfl) (by kernel_rfl) (by kernel_rfl) (fun _ _ _ h => h) (Or.inl ⟨by rfl, ?_⟩) hHeld ?_
    rotate_left
    · (intro w' hSw; (try dsimp only at hSw); go_simp; (try with_reducible rfl))
    simp only [List.set_cons_zero, List.set_cons_succ]
    refine takeH 19 55 #[true, true, true, true, true, true, true, true, true, true, true, true, true, true, true, true, true, true, true, true, false, false, false, false, false] (v := ?_) rfl rfl rfl (by kernel_rfl) (by kernel_rfl) (by kernel_rfl) (fun _ _ _ h => h) (Or.inl ⟨by rfl, ?_⟩) hHeld ?_
    rotate_left
    · (intro w' hSw; (try dsimp only at hSw); go_simp; (try with_reducible rfl))
    simp only [List.set_cons_zero, List.set_cons_succ]
    refine takeH 20 56 #[true, true, true, true, true, true, true, true, true, true, true, true, true, true, true, true, true, true, true, true, true, false, false, false, false] (v := ?_) rfl rfl rfl (by kernel_rfl) (by kernel_rfl) (by kernel_rfl) (fun _ _ _ h => h) (Or.inl ⟨by rfl, ?_⟩) hHeld ?_
    rotate_left
    · (intro w' hSw; (try dsimp only at hSw); go_simp; (try with_reducible rfl))
    simp only [List.set_cons_zero, List.set_cons_succ]
    refine takeH 21 57 #[true, true, true, true, true, true, true, true, true, true, true, true, true, true, true, true, true, true, true, true, true, true, false, false, false] (v := ?_) rfl rfl rfl (by kernel_rfl) (by kernel_rfl) (by kernel_rfl) (fun _ _ _ h => h) (Or.inl ⟨by rfl, ?_⟩) hHeld ?_
    rotate_left
    · (intro w' hSw; (try dsimp only at hSw); go_simp; (try with_reducible rfl))
    simp only [List.set_cons_zero, List.set_cons_succ]
    refine takeH 22 58 #[true, true, true, true, true, true, true, true, true, true, true, true, true, true, true, true, true, true, true, true, true, true, true, false, false] (v := ?_) rfl rfl rfl (by kernel_rfl) (by kernel_rfl) (by kernel_rfl) (fun _ _ _ h => h) (Or.inl ⟨by rfl, ?_⟩) hHeld ?_
    rotate_left
    · (intro w' hSw; (try dsimp only at hSw); go_simp; (try with_reducible rfl))
    simp only [List.set_cons_zero, List.set_cons_succ]
    refine takeH 23 59 #[true, true, true, true, true, true, true, true, true, true, true, true, true, true, true, true, true, true, true, true, true, true, true, true, false] (v := ?_) rfl rfl rfl (by kernel_rfl) (by kernel_rfl) (by kernel_rfl) (fun _ _ _ h => h) (Or.inl ⟨by rfl, ?_⟩) hHeld ?_
    rotate_left
    · (intro w' hSw; (try dsimp only at hSw); go_simp; (try with_reducible rfl))
    simp only [List.set_cons_zero, List.set_cons_succ]
    refine takeH 24 6 #[true, true, true, true, true, true, true, true, true, true, true, true, true, true, true, true, true, true, true, true, true, true, true, true, true] (v := ?_) rfl rfl rfl (by kernel_rfl) (by kernel_rfl) (by kernel_rfl) (fun _ _ _ h => h) (Or.inl ⟨by rfl, ?_⟩) hHeld ?_
    rotate_left
    · (intro w' hSw; (try dsimp only at hSw); go_simp; (try with_reducible rfl))
    simp only [List.set_cons_zero, List.set_cons_succ]
    refine wpAnyH_done (by kernel_rfl) ?_ _
    refine NoPanic.normal ?_
    go_wp2_with fail
    go_ret
    exact ⟨ret_bool (by simp), HBz.out.trans (hHeld.mono HBz.out.size)⟩
  · go_simp
    (go_at_call 13; (with_reducible refine (bytes22_any ⟨A1, n1, c1, A3, n3, c3, A4, n4, c4⟩ s A n c _ l _ (H.out.to (HBz.out.trans (hHeld.mono HBz.out.size))) (Hl.out.to (HBz.out.trans (hHeld.mono HBz.out.size))) hnm (Nat.le_refl _)).mono ?_))
    rintro e wn2 ⟨v10, rfl, hown10, hb10⟩
    rw [← Hbs.out] at hown10
    obtain ⟨A10, c10, rfl⟩ := own_shape hown10
    have hHn2 := hHeld.trans (hb10.mono hHeld.size)
    have kv10 := Hcv.out wn2 A10 bs.length c10 _ bs (Rd.of_own hown10)
    have kv9b := Hcv.out wn2 A9 bs.length c9 _ bs (Rd.of_own (own_below hown9 hb10))
    refine hK.out _ _ ?_ (fun hHeld' => ?_)
    · (first | exact (Below.refl _ _).drew | assumption)
    clear hK K hHeld
    have hHeld := hHeld'
    clear hHeld'
    simp only [List.set_cons_zero, List.set_cons_succ]
    refine wpAnyH_ready (rs := [5, 9]) (by kernel_rfl) (by simp) ?_
    refine (consH 5 41 #[true, true, true, true, true, true, true, true, true, false, false, false, false, false, false, false, false, false, false, false, false, false, false, false, false] rfl rfl rfl (by rfl) (fun K hK => ?_) (consH 9 45 #[true, true, true, true, true, false, true, true, true, true, false, false, false, false, false, false, false, false, false, false, false, false, false, false, false] rfl rfl rfl (by rfl) (fun K hK => ?_) AllReadyH.nil))
    · go_simp
      refine hK.out _ _ ?_ (fun hHeld' => ?_)
      · (first | exact (Below.refl _ _).drew | assumption)
      clear hK K hHeld
      have hHeld := hHeld'
      clear hHeld'
      simp only [List.set_cons_zero, List.set_cons_succ]
      refine branchH 9 45 #[true, true, true, true, true, true, true, true, true, true, false, false, false, false, false, false, false, false, false, false, false, false, false, false, false] (by kernel_rfl) rfl rfl rfl (by rfl) (fun K hK => ?_)
      go_simp
      refine hK.out _ _ ?_ (fun hHeld' => ?_)
      · (first | exact (Below.refl _ _).drew | assumption)
      clear hK K hHeld
      have hHeld := hHeld'
      clear hHeld'
      simp only [List.set_cons_zero, List.set_cons_succ]
      refine takeH 10 46 #[true, true, true, true, true, true, true, true, true, true, true, false, false, false, false, false, false, false, false, false, false, false, false, false, false] (v := ?_) rfl rfl rfl (by kernel_rfl) (by kernel_rfl) (by kernel_rfl) (fun _ _ _ h => h) (Or.inl ⟨by rfl, ?_⟩) hHeld ?_
      rotate_left
      · (intro w' hSw; (try dsimp only at hSw); go_simp; (try with_reducible rfl))
      simp only [List.set_cons_zero, List.set_cons_succ]
      refine takeH 11 47 #[true, true, true, true, true, true, true, true, true, true, true, true, false, false, false, false, false, false, false, false, false, false, false, false, false] (v := ?_) rfl rfl rfl (by kernel_rfl) (by kernel_rfl) (by kernel_rfl) (fun _ _ _ h => h) (Or.inl ⟨by rfl, ?_⟩) hHeld ?_
      rotate_left
      · (intro w' hSw; (try dsimp only at hSw); go_simp; (try with_reducible rfl))
      simp only [List.set_cons_zero, List.set_cons_succ]
      refine takeH 12 48 #[true, true, true, true, true, true, true, true, true, true, true, true, true, false, false, false, false, false, false, false, false, false, false, false, false] (v := ?_) rfl rfl rfl (by kernel_rfl) (by kernel_rfl) (by kernel_rfl) (fun _ _ _ h => h) (Or.inl ⟨by rfl, ?_⟩) hHeld ?_
      rotate_left
      · (intro w' hSw; (try dsimp only at hSw); go_simp; (try with_reducible rfl))
      simp only [List.set_cons_zero, List.set_cons_succ]
      refine takeH 13 49 #[true, true, true, true, true, true, true, true, true, true, true, true, true, true, false, false, false, false, false, false, false, false, false, false, false] (v := ?_) rfl rfl rfl (by kernel_rfl) (by kernel_rfl) (by kernel_rfl) (fun _ _ _ h => h) (Or.inl ⟨by rfl, ?_⟩) hHeld ?_
      rotate_left
      · (intro w' hSw; (try dsimp only at hSw); go_simp; (try with_reducible rfl))
      simp only [List.set_cons_zero, List.set_cons_succ]
      refine takeH 14 50 #[true, true, true, true, true, true, true, true, true, true, true, true, true, true, true, false, false, false, false, false, false, false, false, false, false] (v := ?_) rfl rfl rfl (by kernel_rfl) (by kernel_rfl) (by kernel_rfl) (fun _ _ _ h => h) (Or.inl ⟨by rfl, ?_⟩) hHeld ?_
      rotate_left
      · (intro w' hSw; (try dsimp only at hSw); go_simp; (try with_reducible rfl))
      simp only [List.set_cons_zero, List.set_cons_succ]
      refine takeH 15 51 #[true, true, true, true, true, true, true, true, true, true, true, true, true, true, true, true, false, false, false, false, false, false, false, false, false] (v := ?_) rfl rfl rfl (by kernel_rfl) (by kernel_rfl) (by kernel_rfl) (fun _ _ _ h => h) (Or.inl ⟨by rfl, ?_⟩) hHeld ?_
      rotate_left
      · (intro w' hSw; (try dsimp only at hSw); go_simp; (try with_reducible rfl))
      simp only [List.set_cons_zero, List.set_cons_succ]
      refine takeH 16 52 #[true, true, true, true, true, true, true, true, true, true, true, true, true, true, true, true, true, false, false, false, false, false, false, false, false] (v := ?_) rfl rfl rfl (by kernel_rfl) (by kernel_rfl) (by kernel_rfl) (fun _ _ _ h => h) (Or.inl ⟨by rfl, ?_⟩) hHeld ?_
      rotate_left
      · (intro w' hSw; (try dsimp only at hSw); go_simp; (try with_reducible rfl))
      simp only [List.set_cons_zero, List.set_cons_succ]
      refine branchH 17 53 #[true, true, true, true, true, true, true, true, true, true, true, true, true, true, true, true, true, true, false, false, false, false, false, false, false] (by kernel_rfl) rfl rfl rfl (by rfl) (fun K hK => ?_)
      go_simp
      (go_at_call 14; (with_reducible refine (same22_yes ⟨P1, p1, q1, P2, p2, q2, P3, p3, q3⟩ ⟨T1, r1, u1, T2, r2, u2, T3, r3, u3⟩ ys A6 A7 n6 n7 c6 c7 yl _ (HOz.out.below hHeld).toR (HPz.out.below hHeld).toR (rds_of_own (own_below HNz.out hHeld) HL4.out) (rds_of_own (own_below HMz.out hHeld) HL5.out) (own_small HNz.out) (own_small HMz.out)).mono ?_))
      rintro e wn3 ⟨rfl, hb11⟩
      have hHn3 := hHeld.trans (hb11.mono hHeld.size)
      refine hK.out _ _ ?_ (fun hHeld' => ?_)
      · (first | exact (Below.refl _ _).drew | assumption)
      clear hK K hHeld
      have hHeld := hHeld'
      clear hHeld'
      simp only [List.set_cons_zero, List.set_cons_succ]
      refine takeH 18 54 #[true, true, true, true, true, true, true, true, true, true, true, true, true, true, true, true, true, true, true, false, false, false, false, false, false] (v := ?_) rfl rfl rfl (by kernel_rfl) (by kernel_rfl) (by kernel_rfl) (fun _ _ _ h => h) (Or.inl ⟨by rfl, ?_⟩) hHeld ?_
      rotate_left
      · (intro w' hSw; (try dsimp only at hSw); go_simp; (try with_reducible rfl))
      simp only [List.set_cons_zero, List.set_cons_succ]
      refine takeH 19 55 #[true, true, true, true, true, true, true, true, true, true, true, true, true, true, true, true, true, true, true, true, false, false, false, false, false] (v := ?_) rfl rfl rfl (by kernel_rfl) (by kernel_rfl) (by kernel_rfl) (fun _ _ _ h => h) (Or.inl ⟨by rfl, ?_⟩) hHeld ?_
      rotate_left
      · (intro w' hSw; (try dsimp only at hSw); go_simp; (try with_reducible rfl))
      simp only [List.set_cons_zero, List.set_cons_succ]
      refine takeH 20 56 #[true, true, true, true, true, true, true, true, true, true, true, true, true, true, true, true, true, true, true, true, true, false, false, false, false] (v := ?_) rfl rfl rfl (by kernel_rfl) (by kernel_rfl) (by kernel_rfl) (fun _ _ _ h => h) (Or.inl ⟨by rfl, ?_⟩) hHeld ?_
      rotate_left
      · (intro w' hSw; (try dsimp only at hSw); go_simp; (try with_reducible rfl))
      simp only [List.set_cons_zero, List.set_cons_succ]
      refine takeH 21 57 #[true, true, true, true, true, true, true, true, true, true, true, true, true, true, true, true, true, true, true, true, true, true, false, false, false] (v := ?_) rfl rfl rfl (by kernel_rfl) (by kernel_rfl) (by kernel_rfl) (fun _ _ _ h => h) (Or.inl ⟨by rfl, ?_⟩) hHeld ?_
      rotate_left
      · (intro w' hSw; (try dsimp only at hSw); go_simp; (try with_reducible rfl))
      simp only [List.set_cons_zero, List.set_cons_succ]
      refine takeH 22 58 #[true, true, true, true, true, true, true, true, true, true, true, true, true, true, true, true, true, true, true, true, true, true, true, false, false] (v := ?_) rfl rfl rfl (by kernel_rfl) (by kernel_rfl) (by kernel_rfl) (fun _ _ _ h => h) (Or.inl ⟨by rfl, ?_⟩) hHeld ?_
      rotate_left
      · (intro w' hSw; (try dsimp only at hSw); go_simp; (try with_reducible rfl))
      simp only [List.set_cons_zero, List.set_cons_succ]
      refine takeH 23 59 #[true, true, true, true, true, true, true, true, true, true, true, true, true, true, true, true, true, true, true, true, true, true, true, true, false] (v := ?_) rfl rfl rfl (by kernel_rfl) (by kernel_rfl) (by kernel_rfl) (fun _ _ _ h => h) (Or.inl ⟨by rfl, ?_⟩) hHeld ?_
      rotate_left
      · (intro w' hSw; (try dsimp only at hSw); go_simp; (try with_reducible rfl))
      simp only [List.set_cons_zero, List.set_cons_succ]
      refine takeH 24 6 #[true, true, true, true, true, true, true, true, true, true, true, true, true, true, true, true, true, true, true, true, true, true, true, true, true] (v := ?_) rfl rfl rfl (by kernel_rfl) (by kernel_rfl) (by kernel_rfl) (fun _ _ _ h => h) (Or.inl ⟨by rfl, ?_⟩) hHeld ?_
      rotate_left
      · (intro w' hSw; (try dsimp only at hSw); go_simp; (try with_reducible rfl))
      simp only [List.set_cons_zero, List.set_cons_succ]
      refine wpAnyH_done (by kernel_rfl) ?_ _
      refine NoPanic.normal ?_
      go_wp2_with fail
      go_ret
      exact ⟨ret_bool (by simp), HBz.out.trans (hHeld.mono HBz.out.size)⟩
    · go_simp
      refine hK.out _ _ ?_ (fun hHeld' => ?_)
      · (first | exact (Below.refl _ _).drew | assumption)
      clear hK K hHeld
      have hHeld := hHeld'
      clear hHeld'
      simp only [List.set_cons_zero, List.set_cons_succ]
      refine branchH 5 41 #[true, true, true, true, true, true, true, true, true, true, false, false, false, false, false, false, false, false, false, false, false, false, false, false, false] (by kernel_rfl) rfl rfl rfl (by rfl) (fun K hK => ?_)
      go_simp
      refine hK.out _ _ ?_ (fun hHeld' => ?_)
      · (first | exact (Below.refl _ _).drew | assumption)
      clear hK K hHeld
      have hHeld := hHeld'
      clear hHeld'
      simp only [List.set_cons_zero, List.set_cons_succ]
      refine takeH 10 46 #[true, true, true, true, true, true, true, true, true, true, true, false, false, false, false, false, false, false, false, false, false, false, false, false, false] (v := ?_) rfl rfl rfl (by kernel_rfl) (by kernel_rfl) (by kernel_rfl) (fun _ _ _ h => h) (Or.inl ⟨by rfl, ?_⟩) hHeld ?_
      rotate_left
      · (intro w' hSw; (try dsimp only at hSw); go_simp; (try with_reducible rfl))
      simp only [List.set_cons_zero, List.set_cons_succ]
      refine takeH 11 47 #[true, true, true, true, true, true, true, true, true, true, true, true, false, false, false, false, false, false, false, false, false, false, false, false, false] (v := ?_) rfl rfl rfl (by kernel_rfl) (by kernel_rfl) (by kernel_rfl) (fun _ _ _ h => h) (Or.inl ⟨by rfl, ?_⟩) hHeld ?_
      rotate_left
      · (intro w' hSw; (try dsimp only at hSw); go_simp; (try with_reducible rfl))
      simp only [List.set_cons_zero, List.set_cons_succ]
      refine takeH 12 48 #[true, true, true, true, true, true, true, true, true, true, true, true, true, false, false, false, false, false, false, false, false, false, false, false, false] (v := ?_) rfl rfl rfl (by kernel_rfl) (by kernel_rfl) (by kernel_rfl) (fun _ _ _ h => h) (Or.inl ⟨by rfl, ?_⟩) hHeld ?_
      rotate_left
      · (intro w' hSw; (try dsimp only at hSw); go_simp; (try with_reducible rfl))
      simp only [List.set_cons_zero, List.set_cons_succ]
      refine takeH 13 49 #[true, true, true, true, true, true, true, true, true, true, true, true, true, true, false, false, false, false, false, false, false, false, false, false, false] (v := ?_) rfl rfl rfl (by kernel_rfl) (by kernel_rfl) (by kernel_rfl) (fun _ _ _ h => h) (Or.inl ⟨by rfl, ?_⟩) hHeld ?_
      rotate_left
      · (intro w' hSw; (try dsimp only at hSw); go_simp; (try with_reducible rfl))
      simp only [List.set_cons_zero, List.set_cons_succ]
      refine takeH 14 50 #[true, true, true, true, true, true, true, true, true, true, true, true, true, true, true, false, false, false, false, false, false, false, false, false, false] (v := ?_) rfl rfl rfl (by kernel_rfl) (by kernel_rfl) (by kernel_rfl) (fun _ _ _ h => h) (Or.inl ⟨by rfl, ?_⟩) hHeld ?_
      rotate_left
      · (intro w' hSw; (try dsimp only at hSw); go_simp; (try with_reducible rfl))
      simp only [List.set_cons_zero, List.set_cons_succ]
      refine takeH 15 51 #[true, true, true, true, true, true, true, true, true, true, true, true, true, true, true, true, false, false, false, false, false, false, false, false, false] (v := ?_) rfl rfl rfl (by kernel_rfl) (by kernel_rfl) (by kernel_rfl) (fun _ _ _ h => h) (Or.inl ⟨by rfl, ?_⟩) hHeld ?_
      rotate_left
      · (intro w' hSw; (try dsimp only at hSw); go_simp; (try with_reducible rfl))
      simp only [List.set_cons_zero, List.set_cons_succ]
      refine takeH 16 52 #[true, true, true, true, true, true, true, true, true, true, true, true, true, true, true, true, true, false, false, false, false, false, false, false, false] (v := ?_) rfl rfl rfl (by kernel_rfl) (by kernel_rfl) (by kernel_rfl) (fun _ _ _ h => h) (Or.inl ⟨by rfl, ?_⟩) hHeld ?_
      rotate_left
      · (intro w' hSw; (try dsimp only at hSw); go_simp; (try with_reducible rfl))
      simp only [List.set_cons_zero, List.set_cons_succ]
      refine branchH 17 53 #[true, true, true, true, true, true, true, true, true, true, true, true, true, true, true, true, true, true, false, false, false, false, false, false, false] (by kernel_rfl) rfl rfl rfl (by rfl) (fun K hK => ?_)
      go_simp
      (go_at_call 14; (with_reducible refine (same22_yes ⟨P1, p1, q1, P2, p2, q2, P3, p3, q3⟩ ⟨T1, r1, u1, T2, r2, u2, T3, r3, u3⟩ ys A6 A7 n6 n7 c6 c7 yl _ (HOz.out.below hHeld).toR (HPz.out.below hHeld).toR (rds_of_own (own_below HNz.out hHeld) HL4.out) (rds_of_own (own_below HMz.out hHeld) HL5.out) (own_small HNz.out) (own_small HMz.out)).mono ?_))
      rintro e wn3 ⟨rfl, hb11⟩
      have hHn3 := hHeld.trans (hb11.mono hHeld.size)
      refine hK.out _ _ ?_ (fun hHeld' => ?_)
      · (first | exact (Below.refl _ _).drew | assumption)
      clear hK K hHeld
      have hHeld := hHeld'
      clear hHeld'
      simp only [List.set_cons_zero, List.set_cons_succ]
      refine takeH 18 54 #[true, true, true, true, true, true, true, true, true, true, true, true, true, true, true, true, true, true, true, false, false, false, false, false, false] (v := ?_) rfl rfl rfl (by kernel_rfl) (by kernel_rfl) (by kernel_rfl) (fun _ _ _ h => h) (Or.inl ⟨by rfl, ?_⟩) hHeld ?_
      rotate_left
      · (intro w' hSw; (try dsimp only at hSw); go_simp; (try with_reducible rfl))
      simp only [List.set_cons_zero, List.set_cons_succ]
      refine takeH 19 55 #[true, true, true, true, true, true, true, true, true, true, true, true, true, true, true, true, true, true, true, true, false, false, false, false, false] (v := ?_) rfl rfl rfl (by kernel_rfl) (by kernel_rfl) (by kernel_rfl) (fun _ _ _ h => h) (Or.inl ⟨by rfl, ?_⟩) hHeld ?_
      rotate_left
      · (intro w' hSw; (try dsimp only at hSw); go_simp; (try with_reducible rfl))
      simp only [List.set_cons_zero, List.set_cons_succ]
      refine takeH 20 56 #[true, true, true, true, true, true, true, true, true, true, true, true, true, true, true, true, true, true, true, true, true, false, false, false, false] (v := ?_) rfl rfl rfl (by kernel_rfl) (by kernel_rfl) (by kernel_rfl) (fun _ _ _ h => h) (Or.inl ⟨by rfl, ?_⟩) hHeld ?_
      rotate_left
      · (intro w' hSw; (try dsimp only at hSw); go_simp; (try with_reducible rfl))
      simp only [List.set_cons_zero, List.set_cons_succ]
      refine takeH 21 57 #[true, true, true, true, true, true, true, true, true, true, true, true, true, true, true, true, true, true, true, true, true, true, false, false, false] (v := ?_) rfl rfl rfl (by kernel_rfl) (by kernel_rfl) (by kernel_rfl) (fun _ _ _ h => h) (Or.inl ⟨by rfl, ?_⟩) hHeld ?_
      rotate_left
      · (intro w' hSw; (try dsimp only at hSw); go_simp; (try with_reducible rfl))
      simp only [List.set_cons_zero, List.set_cons_succ]
      refine takeH 22 58 #[true, true, true, true, true, true, true, true, true, true, true, true, true, true, true, true, true, true, true, true, true, true, true, false, false] (v := ?_) rfl rfl rfl (by kernel_rfl) (by kernel_rfl) (by kernel_rfl) (fun _ _ _ h => h) (Or.inl ⟨by rfl, ?_⟩) hHeld ?_
      rotate_left
      · (intro w' hSw; (try dsimp only at hSw); go_simp; (try with_reducible rfl))
      simp only [List.set_cons_zero, List.set_cons_succ]
      refine takeH 23 59 #[true, true, true, true, true, true, true, true, true, true, true, true, true, true, true, true, true, true, true, true, true, true, true, true, false] (v := ?_) rfl rfl rfl (by kernel_rfl) (by kernel_rfl) (by kernel_rfl) (fun _ _ _ h => h) (Or.inl ⟨by rfl, ?_⟩) hHeld ?_
      rotate_left
      · (intro w' hSw; (try dsimp only at hSw); go_simp; (try with_reducible rfl))
      simp only [List.set_cons_zero, List.set_cons_succ]
      refine takeH 24 6 #[true, true, true, true, true, true, true, true, true, true, true, true, true, true, true, true, true, true, true, true, true, true, true, true, true] (v := ?_) rfl rfl rfl (by kernel_rfl) (by kernel_rfl) (by kernel_rfl) (fun _ _ _ h => h) (Or.inl ⟨by rfl, ?_⟩) hHeld ?_
      rotate_left
      · (intro w' hSw; (try dsimp only at hSw); go_simp; (try with_reducible rfl))
      simp only [List.set_cons_zero, List.set_cons_succ]
      refine wpAnyH_done (by kernel_rfl) ?_ _
      refine NoPanic.normal ?_
      go_wp2_with fail
      go_ret
      exact ⟨ret_bool (by simp), HBz.out.trans (hHeld.mono HBz.out.size)⟩
theorem tells_walk (vv : Value) (z : StV × St) (A : Option Addr) (n c : Nat) (l : List Nt) (A2 : Option Addr) (n2 c2 : Nat) (b : List Nat) (w : World) (h0 : vv = .agg #[.slice z.1.A1 z.1.n1 z.1.c1, .slice z.1.A2 z.1.n2 z.1.c2, .slice z.1.A3 z.1.n3 z.1.c3] ∧ StR w w.heap.size z.1 z.2 ∧ z.1.fit)
    (h1 : RdS Nt.cells w w.heap.size 3 A n l ∧ (n ≤ c ∧ c ≤ maxLen) ∧ n ≤ 140737488351232) (hr : Rd w w.heap.size 1 A2 n2 (b.map bv)) (hb : ∀ x ∈ b, x < 256) (hn2c : n2 ≤ c2) (hc2 : c2 ≤ maxLen) :
    Calls Try.prog 3 #[vv, .slice A n c, .slice A2 n2 c2] w fun e w' => e = .returned (.bool true) ∧ Below w.heap.size w w' := by
  obtain ⟨rfl, hx, hf⟩ := h0
  by_cases hg : 500 < z.1.n1 + z.1.n2 + z.1.n3 + n ∨ 3000 < n2
  · exact tells_great z.1 A n c A2 n2 c2 w hf h1.2.2 (by omega) hg
  · exact tells_go z.1 z.2 A n c l A2 n2 c2 b w hf h1.2.2 (by omega) (by omega) hx h1.1 hr hb hn2c hc2
end Go.Proofs.Ytcdgaeenfhpnkaa
