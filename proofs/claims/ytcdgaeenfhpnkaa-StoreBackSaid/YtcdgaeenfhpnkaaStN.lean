/- Package store: fits, Notes. -/
import Derived.Test.YtcdgaeenfhpnkaaStM
set_option linter.unusedVariables false
set_option linter.unusedSimpArgs false
set_option maxRecDepth 100000
namespace Go.Proofs.Ytcdgaeenfhpnkaa
open Go Go.RowKit
attribute [local go_sem] Oper.semAt_some

/-- a store, at sb -/
def StoAt (w : World) (sb lb base c e : Nat) (N : List Nt) : Prop :=
  ∃ A n cap, w.heap[sb]? = some (.cells #[.pointer (some ⟨lb, 0, none⟩), .int .i64 c, .int .i64 e, .slice A n cap] 88) ∧ w.ownsRow base 54 3 (.slice A n cap) n (N.flatMap Nt.cells) ∧ N.length = n
theorem StoAt.lt {w : World} {sb lb base c e : Nat} {N : List Nt} (h : StoAt w sb lb base c e N) : sb < w.heap.size := by
  obtain ⟨A, n, cap, h1, _⟩ := h
  exact (Array.getElem?_eq_some_iff.1 h1).1
theorem StoAt.below {w w' : World} {sb lb base c e : Nat} {N : List Nt} (h : StoAt w sb lb base c e N) (hb : Below w.heap.size w w') : StoAt w' sb lb base c e N := by
  have hlt := h.lt
  obtain ⟨A, n, cap, h1, h2, h3⟩ := h
  exact ⟨A, n, cap, (hb.block sb hlt).trans h1, own_below h2 hb, h3⟩
theorem StoAt.chg {w w' : World} {X : Nat → Prop} {sb lb base c e : Nat} {N : List Nt} (h : StoAt w sb lb base c e N) (hc : Chg X w w') (hs : ¬ X sb) (hX : ∀ g cur fr, w.heap[g]? = some (.cells cur 54 fr) → base ≤ g → ¬ X g) : StoAt w' sb lb base c e N := by
  have hlt := h.lt
  obtain ⟨A, n, cap, h1, h2, h3⟩ := h
  exact ⟨A, n, cap, (hc.at_ hlt hs).trans h1, own_chg h2 hc hX, h3⟩
set_option maxHeartbeats 4000000 in
theorem fits_any (sb lb base c e : Nat) (N : List Nt) (v : StV) (s : St) (B : Nat) (w : World) (h : StoAt w sb lb base c e N) (hx : StR w B v s) :
    Calls Try.prog 49 #[.pointer (some ⟨sb, 0, none⟩), .agg #[.slice v.A1 v.n1 v.c1, .slice v.A2 v.n2 v.c2, .slice v.A3 v.n3 v.c3]] w fun ed w' => ed = .returned (.bool (decide (s.causes.length = c ∧ s.effects.length = e))) ∧ Below w.heap.size w w' := by
  obtain ⟨P1, p1, q1, P2, p2, q2, P3, p3, q3⟩ := v
  have hl1 : s.causes.length = p1 := hx.r1.1
  have hl2 : s.effects.length = p2 := hx.r2.1
  have hlt := h.lt
  obtain ⟨A, n, cap, h1, _⟩ := h
  obtain ⟨wb, hwb⟩ : ∃ x, x = w.alloc (.cells #[.slice P1 p1 q1, .slice P2 p2 q2, .slice P3 p3 q3] 25) := ⟨_, rfl⟩
  have al : Below w.heap.size w wb := by rw [hwb]; exact (Below.refl _ _).alloc (Nat.le_refl _) _
  have hbx : wb.heap[w.heap.size]? = some (.cells #[.slice P1 p1 q1, .slice P2 p2 q2, .slice P3 p3 q3] 25) := by rw [hwb]; exact heap_alloc_new _ _
  have hst := (al.block sb hlt).trans h1
  have z0 := cell_of_row wb.drew w.heap.size 0 _ _ _ hbx
  have z1 := cell_of_row wb.drew w.heap.size 1 _ _ _ hbx
  have y1 := cell_of_row wb.drew sb 1 _ _ _ hst
  have y2 := cell_of_row wb.drew sb 2 _ _ _ hst
  simp at z0 z1 y1 y2
  have HS : Hid (wb.drew.cell? ⟨w.heap.size, 0, none⟩ = some (.slice P1 p1 q1) ∧ wb.drew.cell? ⟨w.heap.size, 1, none⟩ = some (.slice P2 p2 q2) ∧ wb.drew.cell? ⟨sb, 1, none⟩ = some (.int .i64 c) ∧ wb.drew.cell? ⟨sb, 2, none⟩ = some (.int .i64 e)) := ⟨z0, z1, y1, y2⟩
  have Hwb := Lib.hid hwb
  have Al := Lib.hid al.drew
  rw [hl1, hl2]
  clear hwb al hbx hst z0 z1 y1 y2 hl1 hl2 h1 hlt hx
  have go : ((p1 : Int) == (c : Int)) = false ∧ decide (p1 = c ∧ p2 = e) = false ∨ p1 = c ∧ ((p2 : Int) == (e : Int)) = decide (p1 = c ∧ p2 = e) := by
    by_cases h1 : p1 = c
    · refine .inr ⟨h1, ?_⟩
      rw [Bool.eq_iff_iff]
      simp only [beq_iff_eq, decide_eq_true_eq]
      omega
    · exact .inl ⟨beq_eq_false_iff_ne.2 (by omega), decide_eq_false (fun h => h1 h.1)⟩
  rcases go with ⟨g1, g2⟩ | ⟨g1, g2⟩
  · have G2 := Lib.hid g2
    clear g2
    go_enter Try.func49, Try.ntmps49
    go_wp2_with fail
    rw [← Hwb.out]
    refine startH (fun w' => w'.cell? ⟨w.heap.size, 0, none⟩ = some (.slice P1 p1 q1) ∧ w'.cell? ⟨w.heap.size, 1, none⟩ = some (.slice P2 p2 q2) ∧ w'.cell? ⟨sb, 1, none⟩ = some (.int .i64 c) ∧ w'.cell? ⟨sb, 2, none⟩ = some (.int .i64 e)) 19 #[false, false, false, false, false, false, false, false, false, false, false, false, false, false, false, false, false, false, false] rfl rfl (by kernel_rfl) ?_ (fun hHeld => ?_)
    · (exact HS.out)
    refine takeH 0 5 #[true, false, false, false, false, false, false, false, false, false, false, false, false, false, false, false, false, false, false] (v := ?_) rfl rfl rfl (by kernel_rfl) (by kernel_rfl) (by kernel_rfl) (fun _ _ _ h => h) (Or.inl ⟨by rfl, ?_⟩) hHeld ?_
    rotate_left
    · (intro w' hSw; (try dsimp only at hSw); go_simp; (try with_reducible rfl))
    simp only [List.set_cons_zero, List.set_cons_succ]
    refine takeH 1 6 #[true, true, false, false, false, false, false, false, false, false, false, false, false, false, false, false, false, false, false] (v := ?_) rfl rfl rfl (by kernel_rfl) (by kernel_rfl) (by kernel_rfl) (fun _ _ _ h => h) (Or.inl ⟨by rfl, ?_⟩) hHeld ?_
    rotate_left
    · (intro w' hSw; (try dsimp only at hSw); go_simp; (try with_reducible rfl))
    simp only [List.set_cons_zero, List.set_cons_succ]
    refine takeH 2 7 #[true, true, true, false, false, false, false, false, false, false, false, false, false, false, false, false, false, false, false] (v := ?_) rfl rfl rfl (by kernel_rfl) (by kernel_rfl) (by kernel_rfl) (fun _ _ _ h => h) (Or.inl ⟨by rfl, ?_⟩) hHeld ?_
    rotate_left
    · (intro w' hSw; (try dsimp only at hSw); go_simp; (try with_reducible rfl))
    simp only [List.set_cons_zero, List.set_cons_succ]
    refine takeH 3 8 #[true, true, true, true, false, false, false, false, false, false, false, false, false, false, false, false, false, false, false] (v := ?_) rfl rfl rfl (by kernel_rfl) (by kernel_rfl) (by kernel_rfl) (fun _ _ _ h => h) (Or.inl ⟨by rfl, ?_⟩) hHeld ?_
    rotate_left
    · (intro w' hSw; (try dsimp only at hSw); go_simp; (try with_reducible rfl))
    simp only [List.set_cons_zero, List.set_cons_succ]
    refine takeH 4 9 #[true, true, true, true, true, false, false, false, false, false, false, false, false, false, false, false, false, false, false] (v := ?_) rfl rfl rfl (by kernel_rfl) (by kernel_rfl) (by kernel_rfl) (fun _ _ _ h => h) (Or.inl ⟨by rfl, ?_⟩) hHeld ?_
    rotate_left
    · (intro w' hSw; (try dsimp only at hSw); go_simp; (try with_reducible rfl))
    simp only [List.set_cons_zero, List.set_cons_succ]
    refine takeH 5 10 #[true, true, true, true, true, true, false, false, false, false, false, false, false, false, false, false, false, false, false] (v := ?_) rfl rfl rfl (by kernel_rfl) (by kernel_rfl) (by kernel_rfl) (fun _ _ _ h => h) (Or.inl ⟨by rfl, ?_⟩) hHeld ?_
    rotate_left
    · (intro w' hSw; (try dsimp only at hSw); go_simp; (try with_reducible rfl))
    simp only [List.set_cons_zero, List.set_cons_succ]
    refine takeH 6 11 #[true, true, true, true, true, true, true, false, false, false, false, false, false, false, false, false, false, false, false] (v := ?_) rfl rfl rfl (by kernel_rfl) (by kernel_rfl) (by kernel_rfl) (fun _ _ _ h => h) (Or.inl ⟨by rfl, ?_⟩) hHeld ?_
    rotate_left
    · (intro w' hSw; (try dsimp only at hSw); go_simp; (try with_reducible rfl))
    simp only [List.set_cons_zero, List.set_cons_succ]
    refine takeH 7 12 #[true, true, true, true, true, true, true, true, false, false, false, false, false, false, false, false, false, false, false] (v := ?_) rfl rfl rfl (by kernel_rfl) (by kernel_rfl) (by kernel_rfl) (fun _ _ _ h => h) (Or.inl ⟨by rfl, ?_⟩) hHeld ?_
    rotate_left
    · (intro w' hSw; (try dsimp only at hSw); go_simp; (try with_reducible rfl))
    simp only [List.set_cons_zero, List.set_cons_succ]
    refine takeH 8 13 #[true, true, true, true, true, true, true, true, true, false, false, false, false, false, false, false, false, false, false] (v := ?_) rfl rfl rfl (by kernel_rfl) (by kernel_rfl) (by kernel_rfl) (fun _ _ _ h => h) (Or.inl ⟨by rfl, ?_⟩) hHeld ?_
    rotate_left
    · (intro w' hSw; (try dsimp only at hSw); go_simp; (try with_reducible rfl))
    simp only [List.set_cons_zero, List.set_cons_succ]
    refine takeH 9 14 #[true, true, true, true, true, true, true, true, true, true, false, false, false, false, false, false, false, false, false] (v := undef) rfl rfl rfl (by kernel_rfl) (by kernel_rfl) (by kernel_rfl) (fun _ _ _ h => h) (Or.inr ⟨by rfl, rfl⟩) hHeld ?_
    simp only [List.set_cons_zero, List.set_cons_succ]
    refine takeH 10 15 #[true, true, true, true, true, true, true, true, true, true, true, false, false, false, false, false, false, false, false] (v := undef) rfl rfl rfl (by kernel_rfl) (by kernel_rfl) (by kernel_rfl) (fun _ _ _ h => h) (Or.inr ⟨by rfl, rfl⟩) hHeld ?_
    simp only [List.set_cons_zero, List.set_cons_succ]
    refine takeH 11 16 #[true, true, true, true, true, true, true, true, true, true, true, true, false, false, false, false, false, false, false] (v := undef) rfl rfl rfl (by kernel_rfl) (by kernel_rfl) (by kernel_rfl) (fun _ _ _ h => h) (Or.inr ⟨by rfl, rfl⟩) hHeld ?_
    simp only [List.set_cons_zero, List.set_cons_succ]
    refine takeH 12 17 #[true, true, true, true, true, true, true, true, true, true, true, true, true, false, false, false, false, false, false] (v := undef) rfl rfl rfl (by kernel_rfl) (by kernel_rfl) (by kernel_rfl) (fun _ _ _ h => h) (Or.inr ⟨by rfl, rfl⟩) hHeld ?_
    simp only [List.set_cons_zero, List.set_cons_succ]
    refine takeH 13 18 #[true, true, true, true, true, true, true, true, true, true, true, true, true, true, false, false, false, false, false] (v := undef) rfl rfl rfl (by kernel_rfl) (by kernel_rfl) (by kernel_rfl) (fun _ _ _ h => h) (Or.inr ⟨by rfl, rfl⟩) hHeld ?_
    simp only [List.set_cons_zero, List.set_cons_succ]
    refine takeH 14 19 #[true, true, true, true, true, true, true, true, true, true, true, true, true, true, true, false, false, false, false] (v := undef) rfl rfl rfl (by kernel_rfl) (by kernel_rfl) (by kernel_rfl) (fun _ _ _ h => h) (Or.inr ⟨by rfl, rfl⟩) hHeld ?_
    simp only [List.set_cons_zero, List.set_cons_succ]
    refine takeH 15 20 #[true, true, true, true, true, true, true, true, true, true, true, true, true, true, true, true, false, false, false] (v := undef) rfl rfl rfl (by kernel_rfl) (by kernel_rfl) (by kernel_rfl) (fun _ _ _ h => h) (Or.inr ⟨by rfl, rfl⟩) hHeld ?_
    simp only [List.set_cons_zero, List.set_cons_succ]
    refine takeH 16 21 #[true, true, true, true, true, true, true, true, true, true, true, true, true, true, true, true, true, false, false] (v := undef) rfl rfl rfl (by kernel_rfl) (by kernel_rfl) (by kernel_rfl) (fun _ _ _ h => h) (Or.inr ⟨by rfl, rfl⟩) hHeld ?_
    simp only [List.set_cons_zero, List.set_cons_succ]
    refine takeH 17 22 #[true, true, true, true, true, true, true, true, true, true, true, true, true, true, true, true, true, true, false] (v := ?_) rfl rfl rfl (by kernel_rfl) (by kernel_rfl) (by kernel_rfl) (fun _ _ _ h => h) (Or.inl ⟨by rfl, ?_⟩) hHeld ?_
    rotate_left
    · (intro w' hSw; (try dsimp only at hSw); go_simp; (try with_reducible rfl))
    simp only [List.set_cons_zero, List.set_cons_succ]
    refine takeH 18 4 #[true, true, true, true, true, true, true, true, true, true, true, true, true, true, true, true, true, true, true] (v := ?_) rfl rfl rfl (by kernel_rfl) (by kernel_rfl) (by kernel_rfl) (fun _ _ _ h => h) (Or.inl ⟨by rfl, ?_⟩) hHeld ?_
    rotate_left
    · (intro w' hSw; (try dsimp only at hSw); go_simp; (try with_reducible rfl))
    simp only [List.set_cons_zero, List.set_cons_succ]
    refine wpAnyH_done (by kernel_rfl) ?_ _
    refine NoPanic.normal ?_
    go_wp2_with fail
    go_ret
    exact ⟨ret_bool2 G2.out.symm, Al.out⟩
  · subst g1
    have G2 := Lib.hid g2
    clear g2
    go_enter Try.func49, Try.ntmps49
    go_wp2_with fail
    rw [← Hwb.out]
    refine startH (fun w' => w'.cell? ⟨w.heap.size, 0, none⟩ = some (.slice P1 p1 q1) ∧ w'.cell? ⟨w.heap.size, 1, none⟩ = some (.slice P2 p2 q2) ∧ w'.cell? ⟨sb, 1, none⟩ = some (.int .i64 p1) ∧ w'.cell? ⟨sb, 2, none⟩ = some (.int .i64 e)) 19 #[false, false, false, false, false, false, false, false, false, false, false, false, false, false, false, false, false, false, false] rfl rfl (by kernel_rfl) ?_ (fun hHeld => ?_)
    · (exact HS.out)
    refine takeH 0 5 #[true, false, false, false, false, false, false, false, false, false, false, false, false, false, false, false, false, false, false] (v := ?_) rfl rfl rfl (by kernel_rfl) (by kernel_rfl) (by kernel_rfl) (fun _ _ _ h => h) (Or.inl ⟨by rfl, ?_⟩) hHeld ?_
    rotate_left
    · (intro w' hSw; (try dsimp only at hSw); go_simp; (try with_reducible rfl))
    simp only [List.set_cons_zero, List.set_cons_succ]
    refine takeH 1 6 #[true, true, false, false, false, false, false, false, false, false, false, false, false, false, false, false, false, false, false] (v := ?_) rfl rfl rfl (by kernel_rfl) (by kernel_rfl) (by kernel_rfl) (fun _ _ _ h => h) (Or.inl ⟨by rfl, ?_⟩) hHeld ?_
    rotate_left
    · (intro w' hSw; (try dsimp only at hSw); go_simp; (try with_reducible rfl))
    simp only [List.set_cons_zero, List.set_cons_succ]
    refine takeH 2 7 #[true, true, true, false, false, false, false, false, false, false, false, false, false, false, false, false, false, false, false] (v := ?_) rfl rfl rfl (by kernel_rfl) (by kernel_rfl) (by kernel_rfl) (fun _ _ _ h => h) (Or.inl ⟨by rfl, ?_⟩) hHeld ?_
    rotate_left
    · (intro w' hSw; (try dsimp only at hSw); go_simp; (try with_reducible rfl))
    simp only [List.set_cons_zero, List.set_cons_succ]
    refine takeH 3 8 #[true, true, true, true, false, false, false, false, false, false, false, false, false, false, false, false, false, false, false] (v := ?_) rfl rfl rfl (by kernel_rfl) (by kernel_rfl) (by kernel_rfl) (fun _ _ _ h => h) (Or.inl ⟨by rfl, ?_⟩) hHeld ?_
    rotate_left
    · (intro w' hSw; (try dsimp only at hSw); go_simp; (try with_reducible rfl))
    simp only [List.set_cons_zero, List.set_cons_succ]
    refine takeH 4 9 #[true, true, true, true, true, false, false, false, false, false, false, false, false, false, false, false, false, false, false] (v := ?_) rfl rfl rfl (by kernel_rfl) (by kernel_rfl) (by kernel_rfl) (fun _ _ _ h => h) (Or.inl ⟨by rfl, ?_⟩) hHeld ?_
    rotate_left
    · (intro w' hSw; (try dsimp only at hSw); go_simp; (try with_reducible rfl))
    simp only [List.set_cons_zero, List.set_cons_succ]
    refine takeH 5 10 #[true, true, true, true, true, true, false, false, false, false, false, false, false, false, false, false, false, false, false] (v := ?_) rfl rfl rfl (by kernel_rfl) (by kernel_rfl) (by kernel_rfl) (fun _ _ _ h => h) (Or.inl ⟨by rfl, ?_⟩) hHeld ?_
    rotate_left
    · (intro w' hSw; (try dsimp only at hSw); go_simp; (try with_reducible rfl))
    simp only [List.set_cons_zero, List.set_cons_succ]
    refine takeH 6 11 #[true, true, true, true, true, true, true, false, false, false, false, false, false, false, false, false, false, false, false] (v := ?_) rfl rfl rfl (by kernel_rfl) (by kernel_rfl) (by kernel_rfl) (fun _ _ _ h => h) (Or.inl ⟨by rfl, ?_⟩) hHeld ?_
    rotate_left
    · (intro w' hSw; (try dsimp only at hSw); go_simp; (try with_reducible rfl))
    simp only [List.set_cons_zero, List.set_cons_succ]
    refine takeH 7 12 #[true, true, true, true, true, true, true, true, false, false, false, false, false, false, false, false, false, false, false] (v := ?_) rfl rfl rfl (by kernel_rfl) (by kernel_rfl) (by kernel_rfl) (fun _ _ _ h => h) (Or.inl ⟨by rfl, ?_⟩) hHeld ?_
    rotate_left
    · (intro w' hSw; (try dsimp only at hSw); go_simp; (try with_reducible rfl))
    simp only [List.set_cons_zero, List.set_cons_succ]
    refine takeH 8 13 #[true, true, true, true, true, true, true, true, true, false, false, false, false, false, false, false, false, false, false] (v := ?_) rfl rfl rfl (by kernel_rfl) (by kernel_rfl) (by kernel_rfl) (fun _ _ _ h => h) (Or.inl ⟨by rfl, ?_⟩) hHeld ?_
    rotate_left
    · (intro w' hSw; (try dsimp only at hSw); go_simp; (try with_reducible rfl))
    simp only [List.set_cons_zero, List.set_cons_succ]
    refine takeH 9 14 #[true, true, true, true, true, true, true, true, true, true, false, false, false, false, false, false, false, false, false] (v := ?_) rfl rfl rfl (by kernel_rfl) (by kernel_rfl) (by kernel_rfl) (fun _ _ _ h => h) (Or.inl ⟨by rfl, ?_⟩) hHeld ?_
    rotate_left
    · (intro w' hSw; (try dsimp only at hSw); go_simp; (try with_reducible rfl))
    simp only [List.set_cons_zero, List.set_cons_succ]
    refine takeH 10 15 #[true, true, true, true, true, true, true, true, true, true, true, false, false, false, false, false, false, false, false] (v := ?_) rfl rfl rfl (by kernel_rfl) (by kernel_rfl) (by kernel_rfl) (fun _ _ _ h => h) (Or.inl ⟨by rfl, ?_⟩) hHeld ?_
    rotate_left
    · (intro w' hSw; (try dsimp only at hSw); go_simp; (try with_reducible rfl))
    simp only [List.set_cons_zero, List.set_cons_succ]
    refine takeH 11 16 #[true, true, true, true, true, true, true, true, true, true, true, true, false, false, false, false, false, false, false] (v := ?_) rfl rfl rfl (by kernel_rfl) (by kernel_rfl) (by kernel_rfl) (fun _ _ _ h => h) (Or.inl ⟨by rfl, ?_⟩) hHeld ?_
    rotate_left
    · (intro w' hSw; (try dsimp only at hSw); go_simp; (try with_reducible rfl))
    simp only [List.set_cons_zero, List.set_cons_succ]
    refine takeH 12 17 #[true, true, true, true, true, true, true, true, true, true, true, true, true, false, false, false, false, false, false] (v := ?_) rfl rfl rfl (by kernel_rfl) (by kernel_rfl) (by kernel_rfl) (fun _ _ _ h => h) (Or.inl ⟨by rfl, ?_⟩) hHeld ?_
    rotate_left
    · (intro w' hSw; (try dsimp only at hSw); go_simp; (try with_reducible rfl))
    simp only [List.set_cons_zero, List.set_cons_succ]
    refine takeH 13 18 #[true, true, true, true, true, true, true, true, true, true, true, true, true, true, false, false, false, false, false] (v := ?_) rfl rfl rfl (by kernel_rfl) (by kernel_rfl) (by kernel_rfl) (fun _ _ _ h => h) (Or.inl ⟨by rfl, ?_⟩) hHeld ?_
    rotate_left
    · (intro w' hSw; (try dsimp only at hSw); go_simp; (try with_reducible rfl))
    simp only [List.set_cons_zero, List.set_cons_succ]
    refine takeH 14 19 #[true, true, true, true, true, true, true, true, true, true, true, true, true, true, true, false, false, false, false] (v := ?_) rfl rfl rfl (by kernel_rfl) (by kernel_rfl) (by kernel_rfl) (fun _ _ _ h => h) (Or.inl ⟨by rfl, ?_⟩) hHeld ?_
    rotate_left
    · (intro w' hSw; (try dsimp only at hSw); go_simp; (try with_reducible rfl))
    simp only [List.set_cons_zero, List.set_cons_succ]
    refine takeH 15 20 #[true, true, true, true, true, true, true, true, true, true, true, true, true, true, true, true, false, false, false] (v := ?_) rfl rfl rfl (by kernel_rfl) (by kernel_rfl) (by kernel_rfl) (fun _ _ _ h => h) (Or.inl ⟨by rfl, ?_⟩) hHeld ?_
    rotate_left
    · (intro w' hSw; (try dsimp only at hSw); go_simp; (try with_reducible rfl))
    simp only [List.set_cons_zero, List.set_cons_succ]
    refine takeH 16 21 #[true, true, true, true, true, true, true, true, true, true, true, true, true, true, true, true, true, false, false] (v := ?_) rfl rfl rfl (by kernel_rfl) (by kernel_rfl) (by kernel_rfl) (fun _ _ _ h => h) (Or.inl ⟨by rfl, ?_⟩) hHeld ?_
    rotate_left
    · (intro w' hSw; (try dsimp only at hSw); go_simp; (try with_reducible rfl))
    simp only [List.set_cons_zero, List.set_cons_succ]
    refine takeH 17 22 #[true, true, true, true, true, true, true, true, true, true, true, true, true, true, true, true, true, true, false] (v := ?_) rfl rfl rfl (by kernel_rfl) (by kernel_rfl) (by kernel_rfl) (fun _ _ _ h => h) (Or.inl ⟨by rfl, ?_⟩) hHeld ?_
    rotate_left
    · (intro w' hSw; (try dsimp only at hSw); go_simp; (try with_reducible rfl))
    simp only [List.set_cons_zero, List.set_cons_succ]
    refine takeH 18 4 #[true, true, true, true, true, true, true, true, true, true, true, true, true, true, true, true, true, true, true] (v := ?_) rfl rfl rfl (by kernel_rfl) (by kernel_rfl) (by kernel_rfl) (fun _ _ _ h => h) (Or.inl ⟨by rfl, ?_⟩) hHeld ?_
    rotate_left
    · (intro w' hSw; (try dsimp only at hSw); go_simp; (try with_reducible rfl))
    simp only [List.set_cons_zero, List.set_cons_succ]
    refine wpAnyH_done (by kernel_rfl) ?_ _
    refine NoPanic.normal ?_
    go_wp2_with fail
    go_ret
    exact ⟨ret_bool2 G2.out, Al.out⟩
theorem notes_any (sb lb base c e : Nat) (N : List Nt) (w : World) (h : StoAt w sb lb base c e N) (hN : N.length ≤ 10000) :
    Calls Try.prog 19 #[.pointer (some ⟨sb, 0, none⟩)] w (NtPost w N) := by
  obtain ⟨A, n, cap, h1, h2, h3⟩ := h
  have y3 := cell_of_row w sb 3 _ _ _ h1
  simp at y3
  have hcap := (own_max h2).1
  have Hrd := Lib.hid (rds_of_own h2 h3)
  have H3 := Lib.hid h3
  clear h1 h2 h3
  go_enter Try.func19, Try.ntmps19
  go_wp2_with (first
    | (go_at_call 53; (with_reducible refine (clone_nt A n cap N w Hrd.out (by have := H3.out; omega) hcap).mono ?_)
       rintro e w2 ⟨A', c', rfl, hown, hb2⟩
       have Hown := Lib.hid hown
       have HB2 := Lib.hid hb2
       clear hown hb2))
  go_ret
  exact ⟨A', c', rfl, Hown.out, HB2.out⟩
end Go.Proofs.Ytcdgaeenfhpnkaa
