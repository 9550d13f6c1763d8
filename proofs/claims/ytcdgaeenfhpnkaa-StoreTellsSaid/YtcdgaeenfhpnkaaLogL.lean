/- Package log: Compact, where it writes. -/
import Derived.Test.YtcdgaeenfhpnkaaLogK
set_option linter.unusedVariables false
set_option linter.unusedSimpArgs false
set_option maxRecDepth 100000
namespace Go.Proofs.Ytcdgaeenfhpnkaa
open Go Go.RowKit CrcMath
attribute [local go_sem] Oper.semAt_some

set_option maxHeartbeats 4000000 in
theorem comp_go (U : Nat → Prop) (p q lb half turn taken g o n c : Nat) (b : List Nat) (d : DD) (w : World) (hd : HD w U p q d) (hl : LogAt w lb p half turn taken) (hUl : U lb) (hh : half ≤ 1) (htu : turn < 65535) (hn : 1 ≤ n ∧ n ≤ 448)
    (hr : Rd w w.heap.size 1 (some ⟨g, o, none⟩) n (b.map bv)) (hUg : U g) (hb : ∀ x ∈ b, x < 256) (hnc : n ≤ c) (hc : c ≤ maxLen) (hw8 : d.writes + 8 < 1000000) (hf : ¬ d.L.length / 2 < (n + 55) / 56) (en : Nat) (d7 : DD)
    (hwr : wrF ((1 - half) * (d.L.length / 2)) (turn + 1) b d (List.range (needsN b)) = (en, d7)) :
    Calls Try.prog 52 #[.pointer (some ⟨lb, 0, none⟩), .slice (some ⟨g, o, none⟩) n c] w (CompPost U p q lb w (if en = 0 then ⟨0, d7, 1 - half, turn + 1, needsN b⟩ else ⟨en, d7, half, turn, taken⟩)) := by
  have hdec : decide (1 ≤ n ∧ n ≤ 448) = true := decide_eq_true hn
  have hlen : d.L.length ≤ 256 := by obtain ⟨c, h⟩ := hd; exact h.ok.2.1
  have t1 : decide (((d.L.length / 2 : Nat) : Int) < (((n + 55) / 56 : Nat) : Int)) = false := decide_eq_false (by omega)
  have t1' : decide ((d.L.length : Int) / 2 < ((n : Int) + 55) / 56) = false := t1
  have t2 : ((turn : Int) == 65535) = false := by rw [beq_eq_false_iff_ne]; omega
  have hnb : needsN b = (n + 55) / 56 := by rw [needsN, show b.length = n from by have := hr.1; simpa using this]
  have c1 := cell_of_row w lb 1 _ _ _ hl
  have c2 := cell_of_row w lb 2 _ _ _ hl
  have c3 := cell_of_row w lb 3 _ _ _ hl
  simp at c1 c2 c3
  obtain ⟨ot, hot⟩ : ∃ ot, ot = 1 - half := ⟨_, rfl⟩
  have hot1 : ot ≤ 1 := by omega
  have hotI : (1 : Int) - (half : Int) = (ot : Int) := by omega
  obtain ⟨R, hR⟩ : ∃ R, R = CompPost U p q lb w (if en = 0 then ⟨0, d7, 1 - half, turn + 1, needsN b⟩ else ⟨en, d7, half, turn, taken⟩) := ⟨_, rfl⟩
  rw [← hR]
  rw [hnb, ← hot] at hR
  rw [← hot] at hwr
  have HR := Lib.hid hR
  have Hd := Lib.hid hd
  have Hl := Lib.hid hl
  have Hdec := Lib.hid hdec
  have Hr := Lib.hid hr
  have Hwr := Lib.hid hwr
  have Hf := Lib.hid hf
  have Hot := Lib.hid hotI
  clear hR hd hl hdec hr hwr hf hot hotI hnb
  go_enter Try.func52, Try.ntmps52
  go_wp2_with (first
    | (go_at_call 71; (with_reducible refine (right_any (some ⟨g, o, none⟩) n c w (by omega)).mono ?_)
       rintro e w1 ⟨he, hw⟩
       obtain rfl := hw.symm
       rw [Hdec.out] at he
       subst he)
    | (go_at_call 72; (with_reducible refine (needs_any (some ⟨g, o, none⟩) n c _ (by omega)).mono ?_)
       rintro e w1 ⟨rfl, hw⟩
       obtain rfl := hw.symm)
    | (go_at_call 69; (with_reducible refine (size_any U p q lb half turn taken d _ Hd.out Hl.out).mono ?_)
       rintro e w1 ⟨rfl, hw⟩
       obtain rfl := hw.symm))
  rw [Hot.out]
  have Hcall : Hid (Calls Try.prog 74 #[.pointer (some ⟨lb, 0, none⟩), .int .i64 (IntKind.i64.wrap ((ot : Int) * ((d.L.length : Int) / 2))), .int .i64 (IntKind.i64.wrap ((turn : Int) + 1)), .slice (some ⟨g, o, none⟩) n c] w.drew (WrPost U p q w.drew (en, d7))) := by
    show Calls _ _ _ _ _
    have e0 : (ot : Int) * ((d.L.length : Int) / 2) = ((ot * (d.L.length / 2) : Nat) : Int) := by simp
    have hm : ot * (d.L.length / 2) ≤ 128 := by
      have : ot = 0 ∨ ot = 1 := by omega
      rcases this with rfl | rfl <;> omega
    have e1 : IntKind.i64.wrap ((ot * (d.L.length / 2) : Nat) : Int) = ((ot * (d.L.length / 2) : Nat) : Int) := IntWalk.i64_in _ (by omega)
    have e2 : IntKind.i64.wrap ((turn : Int) + 1) = ((turn + 1 : Nat) : Int) := by
      rw [IntWalk.i64_in _ (by omega)]; omega
    rw [e0, e1, e2, ← Hwr.out]
    have hbd : Below w.heap.size w w.drew := (Below.refl _ _).drew
    exact callsIn_wide.1 (write_log 0 U p q lb (ot * (d.L.length / 2)) (turn + 1) g o n c (.int .i64 half) (.int .i64 turn) (.int .i64 taken) b d w.drew (Hd.out.below hbd) (Hl.out.below hbd) hUl ((Hr.out.below hbd).more hbd.size) hUg hb (by omega) hnc (by omega) hc (by omega) (by omega) hw8)
  refine startH (fun w' => w'.cell? ⟨lb, 2, none⟩ = some (.int .i64 turn)) 13 #[false, false, false, false, false, false, false, false, false, false, false, false, false] rfl rfl (by kernel_rfl) ?_ (fun hHeld => ?_)
  · (first | exact c2 | exact hHeld | exact HSw.out)
  refine takeH 0 27 #[true, false, false, false, false, false, false, false, false, false, false, false, false] (v := ?_) rfl rfl rfl (by kernel_rfl) (by kernel_rfl) (by kernel_rfl) (fun _ _ _ h => h) (Or.inl ⟨by rfl, ?_⟩) hHeld ?_
  rotate_left
  · (intro w' hSw; (try dsimp only at hSw); go_simp; (try with_reducible rfl))
  simp only [List.set_cons_zero, List.set_cons_succ]
  refine takeH 1 28 #[true, true, false, false, false, false, false, false, false, false, false, false, false] (v := ?_) rfl rfl rfl (by kernel_rfl) (by kernel_rfl) (by kernel_rfl) (fun _ _ _ h => h) (Or.inl ⟨by rfl, ?_⟩) hHeld ?_
  rotate_left
  · (intro w' hSw; (try dsimp only at hSw); go_simp; (try with_reducible rfl))
  simp only [List.set_cons_zero, List.set_cons_succ]
  refine takeH 2 29 #[true, true, true, false, false, false, false, false, false, false, false, false, false] (v := ?_) rfl rfl rfl (by kernel_rfl) (by kernel_rfl) (by kernel_rfl) (fun _ _ _ h => h) (Or.inl ⟨by rfl, ?_⟩) hHeld ?_
  rotate_left
  · (intro w' hSw; (try dsimp only at hSw); go_simp; (try with_reducible rfl))
  simp only [List.set_cons_zero, List.set_cons_succ]
  refine takeH 5 32 #[true, true, true, false, false, true, false, false, false, false, false, false, false] (v := ?_) rfl rfl rfl (by kernel_rfl) (by kernel_rfl) (by kernel_rfl) (fun _ _ _ h => h) (Or.inl ⟨by rfl, ?_⟩) hHeld ?_
  rotate_left
  · (intro w' hSw; (try dsimp only at hSw); go_simp; (try with_reducible rfl))
  simp only [List.set_cons_zero, List.set_cons_succ]
  refine takeH 6 33 #[true, true, true, false, false, true, true, false, false, false, false, false, false] (v := ?_) rfl rfl rfl (by kernel_rfl) (by kernel_rfl) (by kernel_rfl) (fun _ _ _ h => h) (Or.inl ⟨by rfl, ?_⟩) hHeld ?_
  rotate_left
  · (intro w' hSw; (try dsimp only at hSw); go_simp; (try with_reducible rfl))
  simp only [List.set_cons_zero, List.set_cons_succ]
  refine takeH 7 34 #[true, true, true, false, false, true, true, true, false, false, false, false, false] (v := ?_) rfl rfl rfl (by kernel_rfl) (by kernel_rfl) (by kernel_rfl) (fun _ _ _ h => h) (Or.inl ⟨by rfl, ?_⟩) hHeld ?_
  rotate_left
  · (intro w' hSw; (try dsimp only at hSw); go_simp; (try with_reducible rfl))
  simp only [List.set_cons_zero, List.set_cons_succ]
  refine takeH 8 35 #[true, true, true, false, false, true, true, true, true, false, false, false, false] (v := ?_) rfl rfl rfl (by kernel_rfl) (by kernel_rfl) (by kernel_rfl) (fun _ _ _ h => h) (Or.inl ⟨by rfl, ?_⟩) hHeld ?_
  rotate_left
  · (intro w' hSw; (try dsimp only at hSw); go_simp; (try with_reducible rfl))
  simp only [List.set_cons_zero, List.set_cons_succ]
  refine takeH 9 36 #[true, true, true, false, false, true, true, true, true, true, false, false, false] (v := ?_) rfl rfl rfl (by kernel_rfl) (by kernel_rfl) (by kernel_rfl) (fun _ _ _ h => h) (Or.inl ⟨by rfl, ?_⟩) hHeld ?_
  rotate_left
  · (intro w' hSw; (try dsimp only at hSw); go_simp; (try with_reducible rfl))
  simp only [List.set_cons_zero, List.set_cons_succ]
  refine takeH 10 37 #[true, true, true, false, false, true, true, true, true, true, true, false, false] (v := ?_) rfl rfl rfl (by kernel_rfl) (by kernel_rfl) (by kernel_rfl) (fun _ _ _ h => h) (Or.inl ⟨by rfl, ?_⟩) hHeld ?_
  rotate_left
  · (intro w' hSw; (try dsimp only at hSw); go_simp; (try with_reducible rfl))
  simp only [List.set_cons_zero, List.set_cons_succ]
  refine branchH 3 30 #[true, true, true, true, false, true, true, true, true, true, true, false, false] (by kernel_rfl) rfl rfl rfl (by rfl) (fun K hK => ?_)
  go_simp
  (go_at_call 69; (with_reducible refine (size_any U p q lb half turn taken d _ (Hd.out.below (Below.refl _ _).drew) (Hl.out.below (Below.refl _ _).drew)).mono ?_))
  rintro e w3 ⟨rfl, rfl⟩
  refine hK.out _ _ ?_ (fun hHeld' => ?_)
  · (first | exact c2 | exact hHeld | exact HSw.out)
  clear hK K hHeld
  have hHeld := hHeld'
  clear hHeld'
  simp only [List.set_cons_zero, List.set_cons_succ]
  refine takeH 4 31 #[true, true, true, true, true, true, true, true, true, true, true, false, false] (v := ?_) rfl rfl rfl (by kernel_rfl) (by kernel_rfl) (by kernel_rfl) (fun _ _ _ h => h) (Or.inl ⟨by rfl, ?_⟩) hHeld ?_
  rotate_left
  · (intro w' hSw; (try dsimp only at hSw); go_simp; (try with_reducible rfl))
  simp only [List.set_cons_zero, List.set_cons_succ]
  refine branchH 11 38 #[true, true, true, true, true, true, true, true, true, true, true, true, false] (by kernel_rfl) rfl rfl rfl (by rfl) (fun K hK => ?_)
  go_simp
  (go_at_call 74; (with_reducible refine Hcall.out.mono ?_))
  rintro e w4 ⟨rfl, hd4, hk4⟩
  have hl4 : LogAt w4 lb p half turn taken := (hk4.block lb hUl).trans (Hl.out.below (Below.refl _ _).drew)
  have z1 := cell_of_row w4 lb 1 _ _ _ hl4
  have z2 := cell_of_row w4 lb 2 _ _ _ hl4
  have z3 := cell_of_row w4 lb 3 _ _ _ hl4
  have f1 := frozen_of_row w4 lb 1 _ _ hl4
  have f2 := frozen_of_row w4 lb 2 _ _ hl4
  have f3 := frozen_of_row w4 lb 3 _ _ hl4
  simp at z1 z2 z3
  have HSw : Hid (w4.cell? ⟨lb, 2, none⟩ = some (.int .i64 turn)) := z2
  have HL4 := Lib.hid hl4
  have HD4 := Lib.hid hd4
  have HK4 : Hid (Kept U w w4) := (Kept.of (Below.refl _ _).drew Hd.out.old).trans hk4
  clear hl4 hd4 hk4
  dsimp only
  refine hK.out _ _ ?_ (fun hHeld' => ?_)
  · (first | exact c2 | exact hHeld | exact HSw.out)
  clear hK K hHeld
  have hHeld := hHeld'
  clear hHeld'
  simp only [List.set_cons_zero, List.set_cons_succ]
  refine takeH 12 6 #[true, true, true, true, true, true, true, true, true, true, true, true, true] (v := ?_) rfl rfl rfl (by kernel_rfl) (by kernel_rfl) (by kernel_rfl) (fun _ _ _ h => h) (Or.inl ⟨by rfl, ?_⟩) hHeld ?_
  rotate_left
  · (intro w' hSw; (try dsimp only at hSw); go_simp; (try with_reducible rfl))
  simp only [List.set_cons_zero, List.set_cons_succ]
  refine wpAnyH_done (by kernel_rfl) ?_ _
  refine NoPanic.normal ?_
  by_cases h0 : en = 0
  · have tz : ((en : Int) != 0) = false := by rw [h0]; rfl
    have HRz : Hid (R = CompPost U p q lb w ⟨0, d7, ot, turn + 1, (n + 55) / 56⟩) := by
      show _ = _
      rw [HR.out, if_pos h0]
    clear h0
    go_wp2_with fail
    refine startH (fun _ => True) 20 #[false, false, false, false, false, false, false, false, false, false, false, false, false, false, false, false, false, false, false, false] rfl rfl (by kernel_rfl) ?_ (fun hHeld => ?_)
    · (trivial)
    refine takeH 0 42 #[true, false, false, false, false, false, false, false, false, false, false, false, false, false, false, false, false, false, false, false] (v := ?_) rfl rfl rfl (by kernel_rfl) (by kernel_rfl) (by kernel_rfl) (fun _ _ _ h => h) (Or.inl ⟨by rfl, ?_⟩) hHeld ?_
    rotate_left
    · (intro w' hSw; (try dsimp only at hSw); go_simp; (try with_reducible rfl))
    simp only [List.set_cons_zero, List.set_cons_succ]
    refine takeH 1 43 #[true, true, false, false, false, false, false, false, false, false, false, false, false, false, false, false, false, false, false, false] (v := ?_) rfl rfl rfl (by kernel_rfl) (by kernel_rfl) (by kernel_rfl) (fun _ _ _ h => h) (Or.inl ⟨by rfl, ?_⟩) hHeld ?_
    rotate_left
    · (intro w' hSw; (try dsimp only at hSw); go_simp; (try with_reducible rfl))
    simp only [List.set_cons_zero, List.set_cons_succ]
    refine takeH 2 44 #[true, true, true, false, false, false, false, false, false, false, false, false, false, false, false, false, false, false, false, false] (v := ?_) rfl rfl rfl (by kernel_rfl) (by kernel_rfl) (by kernel_rfl) (fun _ _ _ h => h) (Or.inl ⟨by rfl, ?_⟩) hHeld ?_
    rotate_left
    · (intro w' hSw; (try dsimp only at hSw); go_simp; (try with_reducible rfl))
    simp only [List.set_cons_zero, List.set_cons_succ]
    refine takeH 3 45 #[true, true, true, true, false, false, false, false, false, false, false, false, false, false, false, false, false, false, false, false] (v := ?_) rfl rfl rfl (by kernel_rfl) (by kernel_rfl) (by kernel_rfl) (fun _ _ _ h => h) (Or.inl ⟨by rfl, ?_⟩) hHeld ?_
    rotate_left
    · (intro w' hSw; (try dsimp only at hSw); go_simp; (try with_reducible rfl))
    simp only [List.set_cons_zero, List.set_cons_succ]
    refine takeH 4 46 #[true, true, true, true, true, false, false, false, false, false, false, false, false, false, false, false, false, false, false, false] (v := ?_) rfl rfl rfl (by kernel_rfl) (by kernel_rfl) (by kernel_rfl) (fun _ _ _ h => h) (Or.inl ⟨by rfl, ?_⟩) hHeld ?_
    rotate_left
    · (intro w' hSw; (try dsimp only at hSw); go_simp; (try with_reducible rfl))
    simp only [List.set_cons_zero, List.set_cons_succ]
    refine takeH 5 47 #[true, true, true, true, true, true, false, false, false, false, false, false, false, false, false, false, false, false, false, false] (v := ?_) rfl rfl rfl (by kernel_rfl) (by kernel_rfl) (by kernel_rfl) (fun _ _ _ h => h) (Or.inl ⟨by rfl, ?_⟩) hHeld ?_
    rotate_left
    · (intro w' hSw; (try dsimp only at hSw); go_simp; (try with_reducible rfl))
    simp only [List.set_cons_zero, List.set_cons_succ]
    refine takeH 6 48 #[true, true, true, true, true, true, true, false, false, false, false, false, false, false, false, false, false, false, false, false] (v := ?_) rfl rfl rfl (by kernel_rfl) (by kernel_rfl) (by kernel_rfl) (fun _ _ _ h => h) (Or.inl ⟨by rfl, ?_⟩) hHeld ?_
    rotate_left
    · (intro w' hSw; (try dsimp only at hSw); go_simp; (try with_reducible rfl))
    simp only [List.set_cons_zero, List.set_cons_succ]
    refine takeH 9 51 #[true, true, true, true, true, true, true, false, false, true, false, false, false, false, false, false, false, false, false, false] (v := ?_) rfl rfl rfl (by kernel_rfl) (by kernel_rfl) (by kernel_rfl) (fun _ _ _ h => h) (Or.inl ⟨by rfl, ?_⟩) hHeld ?_
    rotate_left
    · (intro w' hSw; (try dsimp only at hSw); go_simp; (try with_reducible rfl))
    simp only [List.set_cons_zero, List.set_cons_succ]
    refine wpAnyH_ready (rs := [7, 10]) (by kernel_rfl) (by simp) ?_
    refine (consH 7 49 #[true, true, true, true, true, true, true, true, false, true, false, false, false, false, false, false, false, false, false, false] rfl rfl rfl (by rfl) (fun K hK => ?_) (consH 10 52 #[true, true, true, true, true, true, true, false, false, true, true, false, false, false, false, false, false, false, false, false] rfl rfl rfl (by rfl) (fun K hK => ?_) AllReadyH.nil))
    · go_simp
      refine hK.out _ _ ?_ (fun hHeld' => ?_)
      · (trivial)
      clear hK K hHeld
      have hHeld := hHeld'
      clear hHeld'
      simp only [List.set_cons_zero, List.set_cons_succ]
      refine takeH 8 50 #[true, true, true, true, true, true, true, true, true, true, false, false, false, false, false, false, false, false, false, false] (v := ?_) rfl rfl rfl (by kernel_rfl) (by kernel_rfl) (by kernel_rfl) (fun _ _ _ h => h) (Or.inl ⟨by rfl, ?_⟩) hHeld ?_
      rotate_left
      · (intro w' hSw; (try dsimp only at hSw); go_simp; (try with_reducible rfl))
      simp only [List.set_cons_zero, List.set_cons_succ]
      refine branchH 10 52 #[true, true, true, true, true, true, true, true, true, true, true, false, false, false, false, false, false, false, false, false] (by kernel_rfl) rfl rfl rfl (by rfl) (fun K hK => ?_)
      go_simp
      (go_at_call 72; (with_reducible refine (needs_any (some ⟨g, o, none⟩) n c _ (by omega)).mono ?_))
      rintro e w6 ⟨rfl, rfl⟩
      refine hK.out _ _ ?_ (fun hHeld' => ?_)
      · (trivial)
      clear hK K hHeld
      have hHeld := hHeld'
      clear hHeld'
      simp only [List.set_cons_zero, List.set_cons_succ]
      refine takeH 11 53 #[true, true, true, true, true, true, true, true, true, true, true, true, false, false, false, false, false, false, false, false] (v := ?_) rfl rfl rfl (by kernel_rfl) (by kernel_rfl) (by kernel_rfl) (fun _ _ _ h => h) (Or.inl ⟨by rfl, ?_⟩) hHeld ?_
      rotate_left
      · (intro w' hSw; (try dsimp only at hSw); go_simp; (try with_reducible rfl))
      simp only [List.set_cons_zero, List.set_cons_succ]
      refine takeH 12 54 #[true, true, true, true, true, true, true, true, true, true, true, true, true, false, false, false, false, false, false, false] (v := ?_) rfl rfl rfl (by kernel_rfl) (by kernel_rfl) (by kernel_rfl) (fun _ _ _ h => h) (Or.inl ⟨by rfl, ?_⟩) hHeld ?_
      rotate_left
      · (intro w' hSw; (try dsimp only at hSw); go_simp; (try with_reducible rfl))
      simp only [List.set_cons_zero, List.set_cons_succ]
      refine branchN 13 #[true, true, true, true, true, true, true, true, true, true, true, true, true, true, false, false, false, false, false, false] (by kernel_rfl) rfl rfl rfl (by rfl) (fun K hK => ?_)
      go_simp
      first | refine hK.out undef _ ?_ (fun hHeld' => ?_) | refine hK.out _ _ ?_ (fun hHeld' => ?_)
      · (trivial)
      clear hK K hHeld
      have hHeld := hHeld'
      clear hHeld'
      try simp only [List.set_cons_zero, List.set_cons_succ]
      refine takeH 14 55 #[true, true, true, true, true, true, true, true, true, true, true, true, true, true, true, false, false, false, false, false] (v := ?_) rfl rfl rfl (by kernel_rfl) (by kernel_rfl) (by kernel_rfl) (fun _ _ _ h => h) (Or.inl ⟨by rfl, ?_⟩) hHeld ?_
      rotate_left
      · (intro w' hSw; (try dsimp only at hSw); go_simp; (try with_reducible rfl))
      simp only [List.set_cons_zero, List.set_cons_succ]
      refine takeH 15 56 #[true, true, true, true, true, true, true, true, true, true, true, true, true, true, true, true, false, false, false, false] (v := ?_) rfl rfl rfl (by kernel_rfl) (by kernel_rfl) (by kernel_rfl) (fun _ _ _ h => h) (Or.inl ⟨by rfl, ?_⟩) hHeld ?_
      rotate_left
      · (intro w' hSw; (try dsimp only at hSw); go_simp; (try with_reducible rfl))
      simp only [List.set_cons_zero, List.set_cons_succ]
      refine branchN 16 #[true, true, true, true, true, true, true, true, true, true, true, true, true, true, true, true, true, false, false, false] (by kernel_rfl) rfl rfl rfl (by rfl) (fun K hK => ?_)
      go_simp
      first | refine hK.out undef _ ?_ (fun hHeld' => ?_) | refine hK.out _ _ ?_ (fun hHeld' => ?_)
      · (trivial)
      clear hK K hHeld
      have hHeld := hHeld'
      clear hHeld'
      try simp only [List.set_cons_zero, List.set_cons_succ]
      refine takeH 17 57 #[true, true, true, true, true, true, true, true, true, true, true, true, true, true, true, true, true, true, false, false] (v := ?_) rfl rfl rfl (by kernel_rfl) (by kernel_rfl) (by kernel_rfl) (fun _ _ _ h => h) (Or.inl ⟨by rfl, ?_⟩) hHeld ?_
      rotate_left
      · (intro w' hSw; (try dsimp only at hSw); go_simp; (try with_reducible rfl))
      simp only [List.set_cons_zero, List.set_cons_succ]
      refine takeH 18 58 #[true, true, true, true, true, true, true, true, true, true, true, true, true, true, true, true, true, true, true, false] (v := ?_) rfl rfl rfl (by kernel_rfl) (by kernel_rfl) (by kernel_rfl) (fun _ _ _ h => h) (Or.inl ⟨by rfl, ?_⟩) hHeld ?_
      rotate_left
      · (intro w' hSw; (try dsimp only at hSw); go_simp; (try with_reducible rfl))
      simp only [List.set_cons_zero, List.set_cons_succ]
      refine branchN 19 #[true, true, true, true, true, true, true, true, true, true, true, true, true, true, true, true, true, true, true, true] (by kernel_rfl) rfl rfl rfl (by rfl) (fun K hK => ?_)
      go_simp
      first | refine hK.out undef _ ?_ (fun hHeld' => ?_) | refine hK.out _ _ ?_ (fun hHeld' => ?_)
      · (trivial)
      clear hK K hHeld
      have hHeld := hHeld'
      clear hHeld'
      try simp only [List.set_cons_zero, List.set_cons_succ]
      refine wpAnyH_done (by kernel_rfl) ?_ _
      refine NoPanic.normal ?_
      go_wp2_with fail
      have hw : IntKind.i64.wrap ((turn : Int) + 1) = ((turn + 1 : Nat) : Int) := by
        rw [IntWalk.i64_in _ (by omega)]; omega
      rw [HRz.out, hw]
      have hl9 : LogAt (((w4.setCell ⟨lb, 1, none⟩ (.int .i64 ot)).setCell ⟨lb, 2, none⟩ (.int .i64 ((turn + 1 : Nat) : Int))).setCell ⟨lb, 3, none⟩ (.int .i64 (((n + 55) / 56 : Nat) : Int))) lb p ot (turn + 1) ((n + 55) / 56) :=
        heap_set_same (j := 3) _ (heap_set_same (j := 2) _ (heap_set_same (j := 1) _ HL4.out))
      have hk9 : Kept (fun k => U k ∧ k ≠ lb) w w4 := ⟨HK4.out.os, HK4.out.tape, HK4.out.output, HK4.out.size, fun k hk => HK4.out.block k hk.1⟩
      exact ⟨rfl, (((HD4.out.setj 1 _ hUl).setj 2 _ hUl).setj 3 _ hUl).below (Below.refl _ _).drew, hl9.below (Below.refl _ _).drew, (((hk9.setCell (p := ⟨lb, 1, none⟩) (fun h => h.2 rfl) _).setCell (p := ⟨lb, 2, none⟩) (fun h => h.2 rfl) _).setCell (p := ⟨lb, 3, none⟩) (fun h => h.2 rfl) _).trans ⟨rfl, rfl, rfl, Nat.le_refl _, fun _ _ => rfl⟩⟩
    · go_simp
      (go_at_call 72; (with_reducible refine (needs_any (some ⟨g, o, none⟩) n c _ (by omega)).mono ?_))
      rintro e w6 ⟨rfl, rfl⟩
      refine hK.out _ _ ?_ (fun hHeld' => ?_)
      · (trivial)
      clear hK K hHeld
      have hHeld := hHeld'
      clear hHeld'
      simp only [List.set_cons_zero, List.set_cons_succ]
      refine branchH 7 49 #[true, true, true, true, true, true, true, true, false, true, true, false, false, false, false, false, false, false, false, false] (by kernel_rfl) rfl rfl rfl (by rfl) (fun K hK => ?_)
      go_simp
      refine hK.out _ _ ?_ (fun hHeld' => ?_)
      · (trivial)
      clear hK K hHeld
      have hHeld := hHeld'
      clear hHeld'
      simp only [List.set_cons_zero, List.set_cons_succ]
      refine takeH 8 50 #[true, true, true, true, true, true, true, true, true, true, true, false, false, false, false, false, false, false, false, false] (v := ?_) rfl rfl rfl (by kernel_rfl) (by kernel_rfl) (by kernel_rfl) (fun _ _ _ h => h) (Or.inl ⟨by rfl, ?_⟩) hHeld ?_
      rotate_left
      · (intro w' hSw; (try dsimp only at hSw); go_simp; (try with_reducible rfl))
      simp only [List.set_cons_zero, List.set_cons_succ]
      refine takeH 11 53 #[true, true, true, true, true, true, true, true, true, true, true, true, false, false, false, false, false, false, false, false] (v := ?_) rfl rfl rfl (by kernel_rfl) (by kernel_rfl) (by kernel_rfl) (fun _ _ _ h => h) (Or.inl ⟨by rfl, ?_⟩) hHeld ?_
      rotate_left
      · (intro w' hSw; (try dsimp only at hSw); go_simp; (try with_reducible rfl))
      simp only [List.set_cons_zero, List.set_cons_succ]
      refine takeH 12 54 #[true, true, true, true, true, true, true, true, true, true, true, true, true, false, false, false, false, false, false, false] (v := ?_) rfl rfl rfl (by kernel_rfl) (by kernel_rfl) (by kernel_rfl) (fun _ _ _ h => h) (Or.inl ⟨by rfl, ?_⟩) hHeld ?_
      rotate_left
      · (intro w' hSw; (try dsimp only at hSw); go_simp; (try with_reducible rfl))
      simp only [List.set_cons_zero, List.set_cons_succ]
      refine branchN 13 #[true, true, true, true, true, true, true, true, true, true, true, true, true, true, false, false, false, false, false, false] (by kernel_rfl) rfl rfl rfl (by rfl) (fun K hK => ?_)
      go_simp
      first | refine hK.out undef _ ?_ (fun hHeld' => ?_) | refine hK.out _ _ ?_ (fun hHeld' => ?_)
      · (trivial)
      clear hK K hHeld
      have hHeld := hHeld'
      clear hHeld'
      try simp only [List.set_cons_zero, List.set_cons_succ]
      refine takeH 14 55 #[true, true, true, true, true, true, true, true, true, true, true, true, true, true, true, false, false, false, false, false] (v := ?_) rfl rfl rfl (by kernel_rfl) (by kernel_rfl) (by kernel_rfl) (fun _ _ _ h => h) (Or.inl ⟨by rfl, ?_⟩) hHeld ?_
      rotate_left
      · (intro w' hSw; (try dsimp only at hSw); go_simp; (try with_reducible rfl))
      simp only [List.set_cons_zero, List.set_cons_succ]
      refine takeH 15 56 #[true, true, true, true, true, true, true, true, true, true, true, true, true, true, true, true, false, false, false, false] (v := ?_) rfl rfl rfl (by kernel_rfl) (by kernel_rfl) (by kernel_rfl) (fun _ _ _ h => h) (Or.inl ⟨by rfl, ?_⟩) hHeld ?_
      rotate_left
      · (intro w' hSw; (try dsimp only at hSw); go_simp; (try with_reducible rfl))
      simp only [List.set_cons_zero, List.set_cons_succ]
      refine branchN 16 #[true, true, true, true, true, true, true, true, true, true, true, true, true, true, true, true, true, false, false, false] (by kernel_rfl) rfl rfl rfl (by rfl) (fun K hK => ?_)
      go_simp
      first | refine hK.out undef _ ?_ (fun hHeld' => ?_) | refine hK.out _ _ ?_ (fun hHeld' => ?_)
      · (trivial)
      clear hK K hHeld
      have hHeld := hHeld'
      clear hHeld'
      try simp only [List.set_cons_zero, List.set_cons_succ]
      refine takeH 17 57 #[true, true, true, true, true, true, true, true, true, true, true, true, true, true, true, true, true, true, false, false] (v := ?_) rfl rfl rfl (by kernel_rfl) (by kernel_rfl) (by kernel_rfl) (fun _ _ _ h => h) (Or.inl ⟨by rfl, ?_⟩) hHeld ?_
      rotate_left
      · (intro w' hSw; (try dsimp only at hSw); go_simp; (try with_reducible rfl))
      simp only [List.set_cons_zero, List.set_cons_succ]
      refine takeH 18 58 #[true, true, true, true, true, true, true, true, true, true, true, true, true, true, true, true, true, true, true, false] (v := ?_) rfl rfl rfl (by kernel_rfl) (by kernel_rfl) (by kernel_rfl) (fun _ _ _ h => h) (Or.inl ⟨by rfl, ?_⟩) hHeld ?_
      rotate_left
      · (intro w' hSw; (try dsimp only at hSw); go_simp; (try with_reducible rfl))
      simp only [List.set_cons_zero, List.set_cons_succ]
      refine branchN 19 #[true, true, true, true, true, true, true, true, true, true, true, true, true, true, true, true, true, true, true, true] (by kernel_rfl) rfl rfl rfl (by rfl) (fun K hK => ?_)
      go_simp
      first | refine hK.out undef _ ?_ (fun hHeld' => ?_) | refine hK.out _ _ ?_ (fun hHeld' => ?_)
      · (trivial)
      clear hK K hHeld
      have hHeld := hHeld'
      clear hHeld'
      try simp only [List.set_cons_zero, List.set_cons_succ]
      refine wpAnyH_done (by kernel_rfl) ?_ _
      refine NoPanic.normal ?_
      go_wp2_with fail
      have hw : IntKind.i64.wrap ((turn : Int) + 1) = ((turn + 1 : Nat) : Int) := by
        rw [IntWalk.i64_in _ (by omega)]; omega
      rw [HRz.out, hw]
      have hl9 : LogAt (((w4.setCell ⟨lb, 1, none⟩ (.int .i64 ot)).setCell ⟨lb, 2, none⟩ (.int .i64 ((turn + 1 : Nat) : Int))).setCell ⟨lb, 3, none⟩ (.int .i64 (((n + 55) / 56 : Nat) : Int))) lb p ot (turn + 1) ((n + 55) / 56) :=
        heap_set_same (j := 3) _ (heap_set_same (j := 2) _ (heap_set_same (j := 1) _ HL4.out))
      have hk9 : Kept (fun k => U k ∧ k ≠ lb) w w4 := ⟨HK4.out.os, HK4.out.tape, HK4.out.output, HK4.out.size, fun k hk => HK4.out.block k hk.1⟩
      exact ⟨rfl, (((HD4.out.setj 1 _ hUl).setj 2 _ hUl).setj 3 _ hUl).below (Below.refl _ _).drew, hl9.below (Below.refl _ _).drew, (((hk9.setCell (p := ⟨lb, 1, none⟩) (fun h => h.2 rfl) _).setCell (p := ⟨lb, 2, none⟩) (fun h => h.2 rfl) _).setCell (p := ⟨lb, 3, none⟩) (fun h => h.2 rfl) _).trans ⟨rfl, rfl, rfl, Nat.le_refl _, fun _ _ => rfl⟩⟩
  · have tz : ((en : Int) != 0) = true := by rw [bne_iff_ne]; omega
    have HRz : Hid (R = CompPost U p q lb w ⟨en, d7, half, turn, taken⟩) := by
      show _ = _
      rw [HR.out, if_neg h0]
    clear h0
    go_wp2_with fail
    rw [HRz.out]
    have hk9 : Kept (fun k => U k ∧ k ≠ lb) w w4 := ⟨HK4.out.os, HK4.out.tape, HK4.out.output, HK4.out.size, fun k hk => HK4.out.block k hk.1⟩
    exact ⟨rfl, HD4.out, HL4.out, hk9⟩
end Go.Proofs.Ytcdgaeenfhpnkaa
