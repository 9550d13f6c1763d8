/- StoreBack: what was put is read, and what is read was put. -/
import Derived.Test.YtcdgaeenfhpnkaaStU
set_option linter.unusedVariables false
set_option linter.unusedSimpArgs false
set_option maxRecDepth 100000
namespace Go.Proofs.Ytcdgaeenfhpnkaa
open Go Go.RowKit
attribute [local go_sem] Oper.semAt_some

/-- the state that a statement was handed, in its box -/
def Bx (w : World) (v : StV) (w' : World) : Prop := w'.cell? ⟨w.heap.size, 0, none⟩ = some (.slice v.A1 v.n1 v.c1) ∧ w'.cell? ⟨w.heap.size, 1, none⟩ = some (.slice v.A2 v.n2 v.c2) ∧ w'.cell? ⟨w.heap.size, 2, none⟩ = some (.slice v.A3 v.n3 v.c3)
def bxw (w : World) (v : StV) : World := w.alloc (.cells #[.slice v.A1 v.n1 v.c1, .slice v.A2 v.n2 v.c2, .slice v.A3 v.n3 v.c3] 25)
theorem bxw_size (w : World) (v : StV) : (bxw w v).heap.size = w.heap.size + 1 := World.size_alloc _ _
theorem bxw_bel (w : World) (v : StV) : Below w.heap.size w (bxw w v) := al_ _ _
theorem bx_cells {w' : World} {b : Nat} {a1 a2 a3 : Value} {W : World} (h : W.heap[b]? = some (.cells #[a1, a2, a3] 25)) (hb : Below W.heap.size W w') : w'.cell? ⟨b, 0, none⟩ = some a1 ∧ w'.cell? ⟨b, 1, none⟩ = some a2 ∧ w'.cell? ⟨b, 2, none⟩ = some a3 := by
  have h' := (hb.block b (Array.getElem?_eq_some_iff.1 h).1).trans h
  have n0 := cell_of_row _ b 0 _ _ _ h'
  have n1 := cell_of_row _ b 1 _ _ _ h'
  have n2 := cell_of_row _ b 2 _ _ _ h'
  simp at n0 n1 n2
  exact ⟨n0, n1, n2⟩
theorem bxw_bx {w w' : World} {v : StV} (hb : Below (bxw w v).heap.size (bxw w v) w') : Bx w v w' := bx_cells (heap_alloc_new w _) hb
set_option maxHeartbeats 8000000 in
theorem back_great (v : StV) (s : St) (A : Option Addr) (n c : Nat) (l : List Nt) (A2 : Option Addr) (n2 c2 : Nat) (w : World) (hf : v.fit) (hn : n ≤ 140737488351232) (hn2 : n2 ≤ maxLen)
    (hg : 500 < v.n1 + v.n2 + v.n3 + n ∨ 3000 < n2) :
    Calls Try.prog 4 #[.agg #[.slice v.A1 v.n1 v.c1, .slice v.A2 v.n2 v.c2, .slice v.A3 v.n3 v.c3], .slice A n c, .slice A2 n2 c2] w fun e w' => e = .returned (.bool true) ∧ Below w.heap.size w w' := by
  obtain ⟨A1, n1, c1, A3, n3, c3, A4, n4, c4⟩ := v
  obtain ⟨wb, hwb⟩ : ∃ y, y = bxw w ⟨A1, n1, c1, A3, n3, c3, A4, n4, c4⟩ := ⟨_, rfl⟩
  have Hwb : Hid (wb = w.alloc (.cells #[.slice A1 n1 c1, .slice A3 n3 c3, .slice A4 n4 c4] 25)) := hwb
  have Hbx : Hid (∀ w', Below wb.heap.size wb w' → Bx w ⟨A1, n1, c1, A3, n3, c3, A4, n4, c4⟩ w') := fun w' h => by rw [hwb] at h; exact bxw_bx h
  have Hb0 : Hid (Below w.heap.size w wb) := by rw [hwb]; exact bxw_bel _ _
  have Hf : Hid (n1 ≤ 140737488351232 ∧ n3 ≤ 140737488351232 ∧ n4 ≤ 140737488351232) := hf
  clear hf hwb
  have hx : decide (500 < n1 + n3 + n4 + n) = true ∨ decide (500 < n1 + n3 + n4 + n) = false ∧ (3000 : Int) < (n2 : Int) := by
    by_cases h : 500 < n1 + n3 + n4 + n
    · exact .inl (decide_eq_true h)
    · exact .inr ⟨decide_eq_false h, by rcases hg with h1 | h1; exact absurd h1 h; omega⟩
  clear hg
  have hn2' : n2 ≤ 9223372036854775807 := by unfold maxLen at hn2; omega
  rcases hx with h1 | ⟨h1, h2⟩
  all_goals
    have H1 := Lib.hid h1
    clear h1
    go_enter Try.func4, Try.ntmps4
    go_wp2_with (first
      | (rw [← Hwb.out]
         go_at_call 8; (with_reducible refine (head_any _).mono ?_)
         rintro e w1 ⟨rfl, hb1⟩
         obtain ⟨z0, z1, z2⟩ := Hbx.out w1 hb1
         dsimp only at z0 z1 z2
         have HB1 : Hid (Below w.heap.size w w1) := Hb0.out.trans (hb1.mono Hb0.out.size)
         clear hb1)
      | (go_at_call 9; (with_reducible refine (greatState_any ⟨A1, n1, c1, A3, n3, c3, A4, n4, c4⟩ A n c _ Hf.out.1 Hf.out.2.1 Hf.out.2.2 hn).mono ?_)
         rintro e w2 ⟨he, hb2⟩
         dsimp only at he
         rw [H1.out] at he
         subst he
         have HB2 : Hid (Below w.heap.size w w2) := HB1.out.trans (hb2.mono HB1.out.size)
         clear hb2))
    go_ret
    exact ⟨rfl, HB2.out⟩
theorem StR.to {w W : World} {v : StV} {s : St} (h : StR w w.heap.size v s) (hb : Below w.heap.size w W) : StR W W.heap.size v s := (h.below hb).more hb.size
theorem RdS.to {w W : World} {A : Option Addr} {n : Nat} {l : List Nt} (h : RdS Nt.cells w w.heap.size 3 A n l) (hb : Below w.heap.size w W) : RdS Nt.cells W W.heap.size 3 A n l := (h.below hb).more hb.size
theorem Rd.to {w W : World} {A : Option Addr} {n : Nat} {l : List Value} (h : Rd w w.heap.size 1 A n l) (hb : Below w.heap.size w W) : Rd W W.heap.size 1 A n l := (h.below hb).more hb.size
theorem read_is {A : Option Addr} {n c : Nat} {b : List Nat} {w : World} {x : St × List Nt × Bool} (hx : readV b = x) (hr : Rd w w.heap.size 1 A n (b.map bv)) (hb : ∀ x ∈ b, x < 256) (hnc : n ≤ c) (hc : c ≤ maxLen) :
    Calls Try.prog 10 #[.slice A n c] w (ReadP w x) := by
  rw [← hx]
  exact storeRead_any A n c _ b w hr (Nat.le_refl _) hb hnc hc
set_option maxHeartbeats 8000000 in
theorem back_go (v : StV) (s : St) (A : Option Addr) (n c : Nat) (l : List Nt) (A2 : Option Addr) (n2 c2 : Nat) (b : List Nat) (w : World) (hf : v.fit) (hn : n ≤ 140737488351232) (hnc : n ≤ c) (hcm : c ≤ maxLen) (hg : v.n1 + v.n2 + v.n3 + n ≤ 500) (hn2 : n2 ≤ 3000)
    (hx : StR w w.heap.size v s) (hl : RdS Nt.cells w w.heap.size 3 A n l) (hr : Rd w w.heap.size 1 A2 n2 (b.map bv)) (hb : ∀ x ∈ b, x < 256) (hn2c : n2 ≤ c2) (hc2 : c2 ≤ maxLen) :
    Calls Try.prog 4 #[.agg #[.slice v.A1 v.n1 v.c1, .slice v.A2 v.n2 v.c2, .slice v.A3 v.n3 v.c3], .slice A n c, .slice A2 n2 c2] w fun e w' => e = .returned (.bool true) ∧ Below w.heap.size w w' := by
  obtain ⟨A1, n1, c1, A3, n3, c3, A4, n4, c4⟩ := v
  obtain ⟨wb, hwb⟩ : ∃ y, y = bxw w ⟨A1, n1, c1, A3, n3, c3, A4, n4, c4⟩ := ⟨_, rfl⟩
  have Hwb : Hid (wb = w.alloc (.cells #[.slice A1 n1 c1, .slice A3 n3 c3, .slice A4 n4 c4] 25)) := hwb
  have Hbx : Hid (∀ w', Below wb.heap.size wb w' → Bx w ⟨A1, n1, c1, A3, n3, c3, A4, n4, c4⟩ w') := fun w' h => by rw [hwb] at h; exact bxw_bx h
  have Hb0 : Hid (Below w.heap.size w wb) := by rw [hwb]; exact bxw_bel _ _
  have Hzb : Hid (w.heap.size < wb.heap.size) := by rw [hwb, bxw_size]; exact Nat.lt_succ_self _
  have Hf : Hid (n1 ≤ 140737488351232 ∧ n3 ≤ 140737488351232 ∧ n4 ≤ 140737488351232) := hf
  have H := Lib.hid hx
  have Hl := Lib.hid hl
  have Hr := Lib.hid hr
  have Hb := Lib.hid hb
  have H1 : Hid (decide (500 < n1 + n3 + n4 + n) = false) := decide_eq_false (by dsimp only at hg; omega)
  have hn2' : ¬ (3000 : Int) < (n2 : Int) := by omega
  have hn2'' : n2 ≤ 9223372036854775807 := by omega
  have hnm : n ≤ maxLen := by unfold maxLen; omega
  have hb0 := hb
  have hrd : readV b = (⟨[], [], []⟩, [], false) ∨ ∃ z m, readV b = (z, m, true) ∧ okR z m ∧ encS z m = b := readV_or b hb
  obtain ⟨bl, hbl⟩ : ∃ k, k = (bytesF s l).length := ⟨_, rfl⟩
  have Hbl := Lib.hid hbl
  have hok : okR s l ∧ (0 : Int) < (bl : Int) ∧ ¬ (448 : Int) < (bl : Int) ∨ ¬ okR s l ∧ bl = 0 := by
    by_cases h : okR s l
    · have := bytesF_len h; exact .inl ⟨h, by omega, by omega⟩
    · exact .inr ⟨h, by rw [hbl, bytesF_no h]; rfl⟩
  clear hx hl hr hb hf hwb hg hbl hb0
  rcases hok with ⟨hok, t1, t2⟩ | ⟨hok, rfl⟩ <;> rcases hrd with hrd | ⟨z, m, hrd, hzm, henc⟩
  all_goals
    have Hok := Lib.hid hok
    have Hrd := Lib.hid hrd
    try (have Hzm := Lib.hid hzm; have Henc := Lib.hid henc; clear hzm henc)
    clear hok hrd
    go_enter Try.func4, Try.ntmps4
    go_wp2_with (first
      | (rw [← Hwb.out]
         go_at_call 8; (with_reducible refine (head_any _).mono ?_)
         rintro e w1 ⟨rfl, hb1⟩
         obtain ⟨z0, z1, z2⟩ := Hbx.out w1 hb1
         dsimp only at z0 z1 z2
         have HW1 := Lib.hid hb1
         clear hb1)
      | (go_at_call 9; (with_reducible refine (greatState_any ⟨A1, n1, c1, A3, n3, c3, A4, n4, c4⟩ A n c _ Hf.out.1 Hf.out.2.1 Hf.out.2.2 hn).mono ?_)
         rintro e w2 ⟨he, hb2⟩
         dsimp only at he
         rw [H1.out] at he
         subst he
         clear z0 z1 z2
         have hw2 := HW1.out.trans (hb2.mono HW1.out.size)
         obtain ⟨z0, z1, z2⟩ := Hbx.out w2 hw2
         dsimp only at z0 z1 z2
         have HW2 := Lib.hid hw2
         have HB2 : Hid (Below w.heap.size w w2) := Hb0.out.trans (hw2.mono Hb0.out.size)
         clear hb2 HW1 hw2)
      | (go_at_call 12; (with_reducible refine (bytes_any ⟨A1, n1, c1, A3, n3, c3, A4, n4, c4⟩ s A n c _ l _ (H.out.to HB2.out) (Hl.out.to HB2.out) hnm (Nat.le_refl _)).mono ?_)
         rintro e w3 ⟨v3, rfl, hown3, hb3⟩
         obtain ⟨A5, c5, rfl⟩ := own_shape hown3
         rw [← Hbl.out] at hown3
         rw [← Hbl.out]
         clear z0 z1 z2
         have hw3 := HW2.out.trans (hb3.mono HW2.out.size)
         obtain ⟨z0, z1, z2⟩ := Hbx.out w3 hw3
         dsimp only at z0 z1 z2
         have HW3 := Lib.hid hw3
         have HB3 : Hid (Below w.heap.size w w3) := Hb0.out.trans (hw3.mono Hb0.out.size)
         have HO3 := Lib.hid hown3
         clear hown3 hb3 HB2 HW2 hw3)
      | (go_at_call 10; (with_reducible refine (read_is (x := (s, l, true)) (by rw [bytesF_yes Hok.out]; exact read_bytes Hok.out) (Rd.of_own HO3.out) (bytesF_lt s l) (own_max HO3.out).1 (own_max HO3.out).2).mono ?_)
         rintro e w4 ⟨⟨P1, p1, q1, P2, p2, q2, P3, p3, q3⟩, A6, n6, c6, rfl, ho4, hn4, hl4, hb4⟩
         clear z0 z1 z2
         have hw4 := HW3.out.trans (hb4.mono HW3.out.size)
         obtain ⟨z0, z1, z2⟩ := Hbx.out w4 hw4
         dsimp only at z0 z1 z2
         have hlt4 : w.heap.size < w4.heap.size := Nat.lt_of_lt_of_le Hzb.out hw4.size
         have HW4 := Lib.hid hw4
         have HB4 : Hid (Below w.heap.size w w4) := Hb0.out.trans (hw4.mono Hb0.out.size)
         have HO4 := Lib.hid ho4
         have HN4 := Lib.hid hn4
         have HL4 := Lib.hid hl4
         clear ho4 hn4 hl4 hb4 HB3 HW3 hw4 HO3)
      | (go_at_call 14; (with_reducible refine (same22_yes ⟨P1, p1, q1, P2, p2, q2, P3, p3, q3⟩ ⟨A1, n1, c1, A3, n3, c3, A4, n4, c4⟩ s A6 A n6 n c6 c l _ (HO4.out.below (al_ w4 _)).toR (H.out.to (HB4.out.trans ((al_ w4 _).mono HB4.out.size))) (rds_of_own (own_below HN4.out (al_ w4 _)) HL4.out) (Hl.out.to (HB4.out.trans ((al_ w4 _).mono HB4.out.size))) (own_small HN4.out) hnm).mono ?_)
         rintro e w5 ⟨rfl, hb5⟩
         have hb5' : Below w4.heap.size w4 w5 := (al_ w4 _).trans (hb5.mono (al_ w4 _).size)
         have HB5 : Hid (Below w.heap.size w w5) := HB4.out.trans (hb5'.mono HB4.out.size)
         clear z0 z1 z2 hlt4 hb5 hb5' HW4 HB4 HO4 HN4 HL4)
      | (go_at_call 10; (with_reducible refine (read_is Hrd.out (Hr.out.to HB5.out) Hb.out hn2c hc2).mono ?_)
         rintro e w7 ⟨⟨T1, r1, u1, T2, r2, u2, T3, r3, u3⟩, A7, n7, c7, rfl, ho7, hn7, hl7, hb7⟩
         have HB7 : Hid (Below w.heap.size w w7) := HB5.out.trans (hb7.mono HB5.out.size)
         have HO7 := Lib.hid ho7
         have HN7 := Lib.hid hn7
         have HL7 := Lib.hid hl7
         clear ho7 hn7 hl7 hb7 HB5)
      | (go_at_call 10; (with_reducible refine (read_is Hrd.out (Hr.out.to HB3.out) Hb.out hn2c hc2).mono ?_)
         rintro e w7 ⟨⟨T1, r1, u1, T2, r2, u2, T3, r3, u3⟩, A7, n7, c7, rfl, ho7, hn7, hl7, hb7⟩
         have HB7 : Hid (Below w.heap.size w w7) := HB3.out.trans (hb7.mono HB3.out.size)
         have HO7 := Lib.hid ho7
         have HN7 := Lib.hid hn7
         have HL7 := Lib.hid hl7
         clear z0 z1 z2 ho7 hn7 hl7 hb7 HB3 HW3 HO3)
      | (go_at_call 14; (with_reducible refine (same22_yes ⟨T1, r1, u1, T2, r2, u2, T3, r3, u3⟩ ⟨none, 0, 0, none, 0, 0, none, 0, 0⟩ ⟨[], [], []⟩ A7 none n7 0 c7 0 [] _ (HO7.out.below (al_ w7 _)).toR (z_st _ _) (rds_of_own (own_below HN7.out (al_ w7 _)) HL7.out) (RdS.nil_ _ _) (own_small HN7.out) (Nat.zero_le _)).mono ?_)
         rintro e w8 ⟨rfl, hb8⟩
         have hb8' : Below w7.heap.size w7 w8 := (al_ w7 _).trans (hb8.mono (al_ w7 _).size)
         have HB8 : Hid (Below w.heap.size w w8) := HB7.out.trans (hb8'.mono HB7.out.size)
         clear hb8 hb8'))
    first
      | (go_ret
         exact ⟨rfl, HB8.out⟩)
      | skip
  all_goals
    obtain ⟨wz, hwz⟩ : ∃ x, x = w7.alloc (.cells #[.slice T1 r1 u1, .slice T2 r2 u2, .slice T3 r3 u3] 25) := ⟨_, rfl⟩
    have hxz := heap_alloc_new w7 (.cells #[.slice T1 r1 u1, .slice T2 r2 u2, .slice T3 r3 u3] 25)
    have haz := al_ w7 (.cells #[.slice T1 r1 u1, .slice T2 r2 u2, .slice T3 r3 u3] 25)
    rw [← hwz] at hxz haz ⊢
    clear hwz
    have HBz : Hid (Below w.heap.size w wz) := HB7.out.trans (haz.mono HB7.out.size)
    have HOz := Lib.hid (HO7.out.below haz)
    have HNz := Lib.hid (own_below HN7.out haz)
    have y0 : ∀ w', Below wz.heap.size wz w' → w'.cell? ⟨w7.heap.size, 0, none⟩ = some (.slice T1 r1 u1) := fun w' h => (bx_cells hxz h).1
    have y1 : ∀ w', Below wz.heap.size wz w' → w'.cell? ⟨w7.heap.size, 1, none⟩ = some (.slice T2 r2 u2) := fun w' h => (bx_cells hxz h).2.1
    have y2 : ∀ w', Below wz.heap.size wz w' → w'.cell? ⟨w7.heap.size, 2, none⟩ = some (.slice T3 r3 u3) := fun w' h => (bx_cells hxz h).2.2
    have kcv : ∀ (w' : World) (A : Option Addr) (n c B : Nat) (l : List Nat), Rd w' B 1 A n (l.map bv) → (convert 27 9 (.slice A n c)).run Try.prog w' = .ok (.string (bstr l)) w' := fun w' A n c B l h =>
      run_str h 27 9 5 Try.underlying27 Try.underlying5 Try.underlying9
    have Hcv := Lib.hid kcv
    have cv2 : ∀ w', Below wz.heap.size wz w' → (convert 27 9 (.slice A2 n2 c2)).run Try.prog w' = .ok (.string (bstr b)) w' := fun w' h => kcv w' A2 n2 c2 _ b ((Hr.out.to HBz.out).below h)
    clear kcv hxz haz
    refine startH (fun w' => Below wz.heap.size wz w') 11 #[false, false, false, false, false, false, false, false, false, false, false] rfl rfl (by kernel_rfl) ?_ (fun hHeld => ?_)
    · (first | exact (Below.refl _ _).drew | assumption)
    refine takeH 0 67 #[true, false, false, false, false, false, false, false, false, false, false] (v := ?_) rfl rfl rfl (by kernel_rfl) (by kernel_rfl) (by kernel_rfl) (fun _ _ _ h => h) (Or.inl ⟨by rfl, ?_⟩) hHeld ?_
    rotate_left
    · (intro w' hSw; (try dsimp only at hSw); go_simp; (try with_reducible rfl))
    simp only [List.set_cons_zero, List.set_cons_succ]
    refine takeH 1 68 #[true, true, false, false, false, false, false, false, false, false, false] (v := ?_) rfl rfl rfl (by kernel_rfl) (by kernel_rfl) (by kernel_rfl) (fun _ _ _ h => h) (Or.inl ⟨by rfl, ?_⟩) hHeld ?_
    rotate_left
    · (intro w' hSw; (try dsimp only at hSw); go_simp; (try with_reducible rfl))
    simp only [List.set_cons_zero, List.set_cons_succ]
    refine takeH 2 69 #[true, true, true, false, false, false, false, false, false, false, false] (v := ?_) rfl rfl rfl (by kernel_rfl) (by kernel_rfl) (by kernel_rfl) (fun _ _ _ h => h) (Or.inl ⟨by rfl, ?_⟩) hHeld ?_
    rotate_left
    · (intro w' hSw; (try dsimp only at hSw); go_simp; (try with_reducible rfl))
    simp only [List.set_cons_zero, List.set_cons_succ]
    refine takeH 3 70 #[true, true, true, true, false, false, false, false, false, false, false] (v := ?_) rfl rfl rfl (by kernel_rfl) (by kernel_rfl) (by kernel_rfl) (fun _ _ _ h => h) (Or.inl ⟨by rfl, ?_⟩) hHeld ?_
    rotate_left
    · (intro w' hSw; (try dsimp only at hSw); go_simp; (try with_reducible rfl))
    simp only [List.set_cons_zero, List.set_cons_succ]
    refine takeH 6 73 #[true, true, true, true, false, false, true, false, false, false, false] (v := ?_) rfl rfl rfl (by kernel_rfl) (by kernel_rfl) (by kernel_rfl) (fun _ _ _ h => h) (Or.inl ⟨by rfl, ?_⟩) hHeld ?_
    rotate_left
    · (intro w' hSw; (try dsimp only at hSw); go_simp; (try with_reducible rfl))
    simp only [List.set_cons_zero, List.set_cons_succ]
    refine takeH 7 74 #[true, true, true, true, false, false, true, true, false, false, false] (v := ?_) rfl rfl rfl (by kernel_rfl) (by kernel_rfl) (by kernel_rfl) (fun _ _ _ h => h) (Or.inl ⟨by rfl, ?_⟩) hHeld ?_
    rotate_left
    · (intro w' hSw; (try dsimp only at hSw); go_simp; (try with_reducible rfl))
    simp only [List.set_cons_zero, List.set_cons_succ]
    refine branchH 4 71 #[true, true, true, true, true, false, true, true, false, false, false] (by kernel_rfl) rfl rfl rfl (by rfl) (fun K hK => ?_)
    go_simp
    (go_at_call 12; (with_reducible refine (bytes_any ⟨T1, r1, u1, T2, r2, u2, T3, r3, u3⟩ z A7 n7 c7 _ m _ (HOz.out.below hHeld).toR (rds_of_own (own_below HNz.out hHeld) HL7.out) (own_small HNz.out) (Nat.le_refl _)).mono ?_))
    rintro e wn ⟨v9, rfl, hown9, hb9⟩
    rw [bytesF_yes Hzm.out, Henc.out] at hown9
    obtain ⟨A9, c9, rfl⟩ := own_shape hown9
    have hHn := hHeld.trans (hb9.mono hHeld.size)
    have kv9 := Hcv.out wn A9 b.length c9 _ b (Rd.of_own hown9)
    clear hown9
    refine hK.out _ _ ?_ (fun hHeld' => ?_)
    · (first | exact (Below.refl _ _).drew | assumption)
    clear hK K hHeld
    have hHeld := hHeld'
    clear hHeld'
    simp only [List.set_cons_zero, List.set_cons_succ]
    refine branchH 5 72 #[true, true, true, true, true, true, true, true, false, false, false] (by kernel_rfl) rfl rfl rfl (by rfl) (fun K hK => ?_)
    go_simp
    refine hK.out _ _ ?_ (fun hHeld' => ?_)
    · (first | exact (Below.refl _ _).drew | assumption)
    clear hK K hHeld
    have hHeld := hHeld'
    clear hHeld'
    simp only [List.set_cons_zero, List.set_cons_succ]
    refine takeH 8 75 #[true, true, true, true, true, true, true, true, true, false, false] (v := ?_) rfl rfl rfl (by kernel_rfl) (by kernel_rfl) (by kernel_rfl) (fun _ _ _ h => h) (Or.inl ⟨by rfl, ?_⟩) hHeld ?_
    rotate_left
    · (intro w' hSw; (try dsimp only at hSw); go_simp; (try with_reducible rfl))
    simp only [List.set_cons_zero, List.set_cons_succ]
    refine takeH 9 76 #[true, true, true, true, true, true, true, true, true, true, false] (v := ?_) rfl rfl rfl (by kernel_rfl) (by kernel_rfl) (by kernel_rfl) (fun _ _ _ h => h) (Or.inl ⟨by rfl, ?_⟩) hHeld ?_
    rotate_left
    · (intro w' hSw; (try dsimp only at hSw); go_simp; (try with_reducible rfl))
    simp only [List.set_cons_zero, List.set_cons_succ]
    refine takeH 10 6 #[true, true, true, true, true, true, true, true, true, true, true] (v := ?_) rfl rfl rfl (by kernel_rfl) (by kernel_rfl) (by kernel_rfl) (fun _ _ _ h => h) (Or.inl ⟨by rfl, ?_⟩) hHeld ?_
    rotate_left
    · (intro w' hSw; (try dsimp only at hSw); go_simp; (try with_reducible rfl))
    simp only [List.set_cons_zero, List.set_cons_succ]
    refine wpAnyH_done (by kernel_rfl) ?_ _
    refine NoPanic.normal ?_
    go_wp2_with fail
    go_ret
    exact ⟨ret_bool (by simp), HBz.out.trans (hHeld.mono HBz.out.size)⟩
theorem back_walk (vv : Value) (z : StV × St) (A : Option Addr) (n c : Nat) (l : List Nt) (A2 : Option Addr) (n2 c2 : Nat) (b : List Nat) (w : World) (h0 : vv = .agg #[.slice z.1.A1 z.1.n1 z.1.c1, .slice z.1.A2 z.1.n2 z.1.c2, .slice z.1.A3 z.1.n3 z.1.c3] ∧ StR w w.heap.size z.1 z.2 ∧ z.1.fit)
    (h1 : RdS Nt.cells w w.heap.size 3 A n l ∧ (n ≤ c ∧ c ≤ maxLen) ∧ n ≤ 140737488351232) (hr : Rd w w.heap.size 1 A2 n2 (b.map bv)) (hb : ∀ x ∈ b, x < 256) (hn2c : n2 ≤ c2) (hc2 : c2 ≤ maxLen) :
    Calls Try.prog 4 #[vv, .slice A n c, .slice A2 n2 c2] w fun e w' => e = .returned (.bool true) ∧ Below w.heap.size w w' := by
  obtain ⟨rfl, hx, hf⟩ := h0
  by_cases hg : 500 < z.1.n1 + z.1.n2 + z.1.n3 + n ∨ 3000 < n2
  · exact back_great z.1 z.2 A n c l A2 n2 c2 w hf h1.2.2 (by omega) hg
  · exact back_go z.1 z.2 A n c l A2 n2 c2 b w hf h1.2.2 h1.2.1.1 h1.2.1.2 (by omega) (by omega) hx h1.1 hr hb hn2c hc2
end Go.Proofs.Ytcdgaeenfhpnkaa
