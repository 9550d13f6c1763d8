/- Package log: Compact. -/
import Derived.Test.YtcdgaeenfhpnkaaPk12
set_option linter.unusedVariables false
set_option linter.unusedSimpArgs false
set_option maxRecDepth 100000
namespace Go.Proofs.Ytcdgaeenfhpnkaa
open Go Go.RowKit CrcMath
attribute [local go_sem] Oper.semAt_some

/-- what Compact answers, and what it leaves: errno, disk, half, turn, taken -/
structure CF where
  en : Nat
  d : DD
  half : Nat
  turn : Nat
  taken : Nat
def compF (d : DD) (half turn taken : Nat) (b : List Nat) : CF :=
  if ¬ (1 ≤ b.length ∧ b.length ≤ 448) then ⟨1, d, half, turn, taken⟩
  else if d.L.length / 2 < needsN b ∨ turn = 65535 then ⟨5, d, half, turn, taken⟩
  else if (wrF ((1 - half) * (d.L.length / 2)) (turn + 1) b d (List.range (needsN b))).1 = 0 then ⟨0, (wrF ((1 - half) * (d.L.length / 2)) (turn + 1) b d (List.range (needsN b))).2, 1 - half, turn + 1, needsN b⟩
  else ⟨(wrF ((1 - half) * (d.L.length / 2)) (turn + 1) b d (List.range (needsN b))).1, (wrF ((1 - half) * (d.L.length / 2)) (turn + 1) b d (List.range (needsN b))).2, half, turn, taken⟩
def CompPost (U : Nat → Prop) (p q lb : Nat) (w : World) (r : CF) (e : Ending) (w' : World) : Prop :=
  e = .returned (.int .i64 r.en) ∧ HD w' U p q r.d ∧ LogAt w' lb p r.half r.turn r.taken ∧ Kept (fun k => U k ∧ k ≠ lb) w w'
theorem CompPost.still {U : Nat → Prop} {p q lb half turn en taken : Nat} {w w' : World} {d : DD} (hd : HD w U p q d) (hl : LogAt w lb p half turn taken) (hb : Below w.heap.size w w') : CompPost U p q lb w ⟨en, d, half, turn, taken⟩ (.returned (.int .i64 en)) w' :=
  ⟨rfl, hd.below hb, hl.below hb, Kept.of hb (fun k hk => hd.old k hk.1)⟩
set_option maxHeartbeats 2000000 in
theorem comp_arg (U : Nat → Prop) (p q lb half turn taken n c : Nat) (A : Option Addr) (d : DD) (w : World) (hd : HD w U p q d) (hl : LogAt w lb p half turn taken) (hn : ¬ (1 ≤ n ∧ n ≤ 448)) (hn2 : n ≤ 9223372036854775807) :
    Calls Try.prog 52 #[.pointer (some ⟨lb, 0, none⟩), .slice A n c] w (CompPost U p q lb w ⟨1, d, half, turn, taken⟩) := by
  have hdec : decide (1 ≤ n ∧ n ≤ 448) = false := decide_eq_false hn
  have Hd := Lib.hid hd
  have Hl := Lib.hid hl
  have Hdec := Lib.hid hdec
  clear hd hl hdec hn
  go_enter Try.func52, Try.ntmps52
  go_wp2_with (first
    | (go_at_call 71; (with_reducible refine (right_any A n c w hn2).mono ?_)
       rintro e w1 ⟨he, hw⟩
       obtain rfl := hw.symm
       rw [Hdec.out] at he
       subst he))
  go_ret
  exact CompPost.still Hd.out Hl.out (Below.refl _ _)
set_option maxHeartbeats 2000000 in
theorem comp_full (U : Nat → Prop) (p q lb half turn taken n c : Nat) (A : Option Addr) (d : DD) (w : World) (hd : HD w U p q d) (hl : LogAt w lb p half turn taken) (hn : 1 ≤ n ∧ n ≤ 448) (hf : d.L.length / 2 < (n + 55) / 56 ∨ turn = 65535) :
    Calls Try.prog 52 #[.pointer (some ⟨lb, 0, none⟩), .slice A n c] w (CompPost U p q lb w ⟨5, d, half, turn, taken⟩) := by
  have hdec : decide (1 ≤ n ∧ n ≤ 448) = true := decide_eq_true hn
  have c2 := cell_of_row w lb 2 _ _ _ hl
  simp at c2
  have Hd := Lib.hid hd
  have Hl := Lib.hid hl
  have Hdec := Lib.hid hdec
  clear hd hl hdec
  by_cases hf1 : d.L.length / 2 < (n + 55) / 56
  all_goals
    first
    | (have t1 : decide (((d.L.length / 2 : Nat) : Int) < (((n + 55) / 56 : Nat) : Int)) = true := decide_eq_true (by omega))
    | (have t1 : decide (((d.L.length / 2 : Nat) : Int) < (((n + 55) / 56 : Nat) : Int)) = false := decide_eq_false (by omega)
       have t2 : ((turn : Int) == 65535) = true := by rw [beq_iff_eq]; omega)
    have t1' : decide ((d.L.length : Int) / 2 < ((n : Int) + 55) / 56) = _ := t1
    clear hf hf1
    go_enter Try.func52, Try.ntmps52
    go_wp2_with (first
      | (go_at_call 71; (with_reducible refine (right_any A n c w (by omega)).mono ?_)
         rintro e w1 ⟨he, hw⟩
         obtain rfl := hw.symm
         rw [Hdec.out] at he
         subst he)
      | (go_at_call 72; (with_reducible refine (needs_any A n c _ (by omega)).mono ?_)
         rintro e w1 ⟨rfl, hw⟩
         obtain rfl := hw.symm)
      | (go_at_call 69; (with_reducible refine (size_any U p q lb half turn taken d _ Hd.out Hl.out).mono ?_)
         rintro e w1 ⟨rfl, hw⟩
         obtain rfl := hw.symm))
    go_ret
    exact CompPost.still Hd.out Hl.out (Below.refl _ _)
end Go.Proofs.Ytcdgaeenfhpnkaa
/- Package log: Compact, where it writes. -/
set_option linter.unusedVariables false
set_option linter.unusedSimpArgs false
set_option maxRecDepth 100000
namespace Go.Proofs.Ytcdgaeenfhpnkaa
open Go Go.RowKit CrcMath
attribute [local go_sem] Oper.semAt_some

set_option maxHeartbeats 4000000 in
theorem comp_go (U : Nat → Prop) (p q lb half turn taken g o n c : Nat) (b : List Nat) (d : DD) (w : World) (hd : HD w U p q d) (hl : LogAt w lb p half turn taken) (hUl : U lb) (hh : half ≤ 1) (htu : turn < 65535) (hn : 1 ≤ n ∧ n ≤ 448)
    (hr : Rd w w.heap.size 1 (some ⟨g, o, none⟩) n (b.map bv)) (hUg : U g) (hb : ∀ x ∈ b, x < 256) (hnc : n ≤ c) (hc : c ≤ maxLen) (hw8 : d.writes + 8 < 1000000) (hf : ¬ d.L.length / 2 < (n + 55) / 56) (en : Nat) (d7 : DD)
    (hwr : wrF ((1 - half) * (d.L.length / 2)) (turn + 1) b d (List.range (needsN b)) = (en, d7)) :
    Calls Try.prog 52 #[.pointer (some ⟨lb, 0, none⟩), .slice (some ⟨g, o, none⟩) n c] w (CompPost U p q lb w (if en = 0 then ⟨0, d7, 1 - half, turn + 1, needsN b⟩ else ⟨en, d7, half, turn, taken⟩)) := by
  have hdec : decide (1 ≤ n ∧ n ≤ 448) = true := decide_eq_true hn
  have hlen : d.L.length ≤ 256 := by obtain ⟨c, h⟩ := hd; exact h.ok.2.1
  have t1 : decide (((d.L.length / 2 : Nat) : Int) < (((n + 55) / 56 : Nat) : Int)) = false := decide_eq_false (by omega)
  have t1' : decide ((d.L.length : Int) / 2 < ((n : Int) + 55) / 56) = false := t1
  have t2 : ((turn : Int) == 65535) = false := by rw [beq_eq_false_iff_ne]; omega
  have hnb : needsN b = (n + 55) / 56 := by rw [needsN, show b.length = n from by have := hr.1; simpa using this]
  have c1 := cell_of_row w lb 1 _ _ _ hl
  have c2 := cell_of_row w lb 2 _ _ _ hl
  have c3 := cell_of_row w lb 3 _ _ _ hl
  simp at c1 c2 c3
  obtain ⟨ot, hot⟩ : ∃ ot, ot = 1 - half := ⟨_, rfl⟩
  have hot1 : ot ≤ 1 := by omega
  have hotI : (1 : Int) - (half : Int) = (ot : Int) := by omega
  obtain ⟨R, hR⟩ : ∃ R, R = CompPost U p q lb w (if en = 0 then ⟨0, d7, 1 - half, turn + 1, needsN b⟩ else ⟨en, d7, half, turn, taken⟩) := ⟨_, rfl⟩
  rw [← hR]
  rw [hnb, ← hot] at hR
  rw [← hot] at hwr
  have HR := Lib.hid hR
  have Hd := Lib.hid hd
  have Hl := Lib.hid hl
  have Hdec := Lib.hid hdec
  have Hr := Lib.hid hr
  have Hwr := Lib.hid hwr
  have Hf := Lib.hid hf
  have Hot := Lib.hid hotI
  clear hR hd hl hdec hr hwr hf hot hotI hnb
  go_enter Try.func52, Try.ntmps52
  go_wp2_with (first
    | (go_at_call 71; (with_reducible refine (right_any (some ⟨g, o, none⟩) n c w (by omega)).mono ?_)
       rintro e w1 ⟨he, hw⟩
       obtain rfl := hw.symm
       rw [Hdec.out] at he
       subst he)
    | (go_at_call 72; (with_reducible refine (needs_any (some ⟨g, o, none⟩) n c _ (by omega)).mono ?_)
       rintro e w1 ⟨rfl, hw⟩
       obtain rfl := hw.symm)
    | (go_at_call 69; (with_reducible refine (size_any U p q lb half turn taken d _ Hd.out Hl.out).mono ?_)
       rintro e w1 ⟨rfl, hw⟩
       obtain rfl := hw.symm))
  rw [Hot.out]
  have Hcall : Hid (Calls Try.prog 74 #[.pointer (some ⟨lb, 0, none⟩), .int .i64 (IntKind.i64.wrap ((ot : Int) * ((d.L.length : Int) / 2))), .int .i64 (IntKind.i64.wrap ((turn : Int) + 1)), .slice (some ⟨g, o, none⟩) n c] w.drew (WrPost U p q w.drew (en, d7))) := by
    show Calls _ _ _ _ _
    have e0 : (ot : Int) * ((d.L.length : Int) / 2) = ((ot * (d.L.length / 2) : Nat) : Int) := by simp
    have hm : ot * (d.L.length / 2) ≤ 128 := by
      have : ot = 0 ∨ ot = 1 := by omega
      rcases this with rfl | rfl <;> omega
    have e1 : IntKind.i64.wrap ((ot * (d.L.length / 2) : Nat) : Int) = ((ot * (d.L.length / 2) : Nat) : Int) := IntWalk.i64_in _ (by omega)
    have e2 : IntKind.i64.wrap ((turn : Int) + 1) = ((turn + 1 : Nat) : Int) := by
      rw [IntWalk.i64_in _ (by omega)]; omega
    rw [e0, e1, e2, ← Hwr.out]
    have hbd : Below w.heap.size w w.drew := (Below.refl _ _).drew
    exact callsIn_wide.1 (write_log 0 U p q lb (ot * (d.L.length / 2)) (turn + 1) g o n c (.int .i64 half) (.int .i64 turn) (.int .i64 taken) b d w.drew (Hd.out.below hbd) (Hl.out.below hbd) hUl ((Hr.out.below hbd).more hbd.size) hUg hb (by omega) hnc (by omega) hc (by omega) (by omega) hw8)
  refine sk (fun w' => w'.cell? ⟨lb, 2, none⟩ = some (.int .i64 turn)) 13 ?_ (fun hHeld => ?_)
  · (first | exact c2 | exact hHeld | exact HSw.out)
  refine tk 0 27 hHeld ?_
  refine tk 1 28 hHeld ?_
  refine tk 2 29 hHeld ?_
  refine tk 5 32 hHeld ?_
  refine tk 6 33 hHeld ?_
  refine tk 7 34 hHeld ?_
  refine tk 8 35 hHeld ?_
  refine tk 9 36 hHeld ?_
  refine tk 10 37 hHeld ?_
  refine bk 3 30 (fun K hK => ?_)
  go_simp
  (go_at_call 69; (with_reducible refine (size_any U p q lb half turn taken d _ (Hd.out.below (Below.refl _ _).drew) (Hl.out.below (Below.refl _ _).drew)).mono ?_))
  rintro e w3 ⟨rfl, rfl⟩
  refine hK.out _ _ ?_ (fun hHeld' => ?_)
  · (first | exact c2 | exact hHeld | exact HSw.out)
  clear hK K hHeld
  have hHeld := hHeld'
  clear hHeld'
  simp only [List.set_cons_zero, List.set_cons_succ]
  refine tk 4 31 hHeld ?_
  refine bk 11 38 (fun K hK => ?_)
  go_simp
  (go_at_call 74; (with_reducible refine Hcall.out.mono ?_))
  rintro e w4 ⟨rfl, hd4, hk4⟩
  have hl4 : LogAt w4 lb p half turn taken := (hk4.block lb hUl).trans (Hl.out.below (Below.refl _ _).drew)
  have z1 := cell_of_row w4 lb 1 _ _ _ hl4
  have z2 := cell_of_row w4 lb 2 _ _ _ hl4
  have z3 := cell_of_row w4 lb 3 _ _ _ hl4
  have f1 := frozen_of_row w4 lb 1 _ _ hl4
  have f2 := frozen_of_row w4 lb 2 _ _ hl4
  have f3 := frozen_of_row w4 lb 3 _ _ hl4
  simp at z1 z2 z3
  have HSw : Hid (w4.cell? ⟨lb, 2, none⟩ = some (.int .i64 turn)) := z2
  have HL4 := Lib.hid hl4
  have HD4 := Lib.hid hd4
  have HK4 : Hid (Kept U w w4) := (Kept.of (Below.refl _ _).drew Hd.out.old).trans hk4
  clear hl4 hd4 hk4
  dsimp only
  refine hK.out _ _ ?_ (fun hHeld' => ?_)
  · (first | exact c2 | exact hHeld | exact HSw.out)
  clear hK K hHeld
  have hHeld := hHeld'
  clear hHeld'
  simp only [List.set_cons_zero, List.set_cons_succ]
  refine tk 12 6 hHeld ?_
  refine wpAnyH_done (by kernel_rfl) ?_ _
  refine NoPanic.normal ?_
  by_cases h0 : en = 0
  · have tz : ((en : Int) != 0) = false := by rw [h0]; rfl
    have HRz : Hid (R = CompPost U p q lb w ⟨0, d7, ot, turn + 1, (n + 55) / 56⟩) := by
      show _ = _
      rw [HR.out, if_pos h0]
    clear h0
    go_wp2_with fail
    refine sk (fun _ => True) 20 ?_ (fun hHeld => ?_)
    · (trivial)
    refine tk 0 42 hHeld ?_
    refine tk 1 43 hHeld ?_
    refine tk 2 44 hHeld ?_
    refine tk 3 45 hHeld ?_
    refine tk 4 46 hHeld ?_
    refine tk 5 47 hHeld ?_
    refine tk 6 48 hHeld ?_
    refine tk 9 51 hHeld ?_
    refine wpAnyH_ready (rs := [7, 10]) (by kernel_rfl) (by simp) ?_
    refine (consH 7 49 #[true, true, true, true, true, true, true, true, false, true, false, false, false, false, false, false, false, false, false, false] rfl rfl rfl (by rfl) (fun K hK => ?_) (consH 10 52 #[true, true, true, true, true, true, true, false, false, true, true, false, false, false, false, false, false, false, false, false] rfl rfl rfl (by rfl) (fun K hK => ?_) AllReadyH.nil))
    · go_simp
      refine hK.out _ _ ?_ (fun hHeld' => ?_)
      · (trivial)
      clear hK K hHeld
      have hHeld := hHeld'
      clear hHeld'
      simp only [List.set_cons_zero, List.set_cons_succ]
      refine tk 8 50 hHeld ?_
      refine bk 10 52 (fun K hK => ?_)
      go_simp
      (go_at_call 72; (with_reducible refine (needs_any (some ⟨g, o, none⟩) n c _ (by omega)).mono ?_))
      rintro e w6 ⟨rfl, rfl⟩
      refine hK.out _ _ ?_ (fun hHeld' => ?_)
      · (trivial)
      clear hK K hHeld
      have hHeld := hHeld'
      clear hHeld'
      simp only [List.set_cons_zero, List.set_cons_succ]
      refine tk 11 53 hHeld ?_
      refine tk 12 54 hHeld ?_
      refine bn 13 (fun K hK => ?_)
      go_simp
      first | refine hK.out undef _ ?_ (fun hHeld' => ?_) | refine hK.out _ _ ?_ (fun hHeld' => ?_)
      · (trivial)
      clear hK K hHeld
      have hHeld := hHeld'
      clear hHeld'
      try simp only [List.set_cons_zero, List.set_cons_succ]
      refine tk 14 55 hHeld ?_
      refine tk 15 56 hHeld ?_
      refine bn 16 (fun K hK => ?_)
      go_simp
      first | refine hK.out undef _ ?_ (fun hHeld' => ?_) | refine hK.out _ _ ?_ (fun hHeld' => ?_)
      · (trivial)
      clear hK K hHeld
      have hHeld := hHeld'
      clear hHeld'
      try simp only [List.set_cons_zero, List.set_cons_succ]
      refine tk 17 57 hHeld ?_
      refine tk 18 58 hHeld ?_
      refine bn 19 (fun K hK => ?_)
      go_simp
      first | refine hK.out undef _ ?_ (fun hHeld' => ?_) | refine hK.out _ _ ?_ (fun hHeld' => ?_)
      · (trivial)
      clear hK K hHeld
      have hHeld := hHeld'
      clear hHeld'
      try simp only [List.set_cons_zero, List.set_cons_succ]
      refine wpAnyH_done (by kernel_rfl) ?_ _
      refine NoPanic.normal ?_
      go_wp2_with fail
      have hw : IntKind.i64.wrap ((turn : Int) + 1) = ((turn + 1 : Nat) : Int) := by
        rw [IntWalk.i64_in _ (by omega)]; omega
      rw [HRz.out, hw]
      have hl9 : LogAt (((w4.setCell ⟨lb, 1, none⟩ (.int .i64 ot)).setCell ⟨lb, 2, none⟩ (.int .i64 ((turn + 1 : Nat) : Int))).setCell ⟨lb, 3, none⟩ (.int .i64 (((n + 55) / 56 : Nat) : Int))) lb p ot (turn + 1) ((n + 55) / 56) :=
        heap_set_same (j := 3) _ (heap_set_same (j := 2) _ (heap_set_same (j := 1) _ HL4.out))
      have hk9 : Kept (fun k => U k ∧ k ≠ lb) w w4 := ⟨HK4.out.os, HK4.out.tape, HK4.out.output, HK4.out.size, fun k hk => HK4.out.block k hk.1⟩
      exact ⟨rfl, (((HD4.out.setj 1 _ hUl).setj 2 _ hUl).setj 3 _ hUl).below (Below.refl _ _).drew, hl9.below (Below.refl _ _).drew, (((hk9.setCell (p := ⟨lb, 1, none⟩) (fun h => h.2 rfl) _).setCell (p := ⟨lb, 2, none⟩) (fun h => h.2 rfl) _).setCell (p := ⟨lb, 3, none⟩) (fun h => h.2 rfl) _).trans ⟨rfl, rfl, rfl, Nat.le_refl _, fun _ _ => rfl⟩⟩
    · go_simp
      (go_at_call 72; (with_reducible refine (needs_any (some ⟨g, o, none⟩) n c _ (by omega)).mono ?_))
      rintro e w6 ⟨rfl, rfl⟩
      refine hK.out _ _ ?_ (fun hHeld' => ?_)
      · (trivial)
      clear hK K hHeld
      have hHeld := hHeld'
      clear hHeld'
      simp only [List.set_cons_zero, List.set_cons_succ]
      refine bk 7 49 (fun K hK => ?_)
      go_simp
      refine hK.out _ _ ?_ (fun hHeld' => ?_)
      · (trivial)
      clear hK K hHeld
      have hHeld := hHeld'
      clear hHeld'
      simp only [List.set_cons_zero, List.set_cons_succ]
      refine tk 8 50 hHeld ?_
      refine tk 11 53 hHeld ?_
      refine tk 12 54 hHeld ?_
      refine bn 13 (fun K hK => ?_)
      go_simp
      first | refine hK.out undef _ ?_ (fun hHeld' => ?_) | refine hK.out _ _ ?_ (fun hHeld' => ?_)
      · (trivial)
      clear hK K hHeld
      have hHeld := hHeld'
      clear hHeld'
      try simp only [List.set_cons_zero, List.set_cons_succ]
      refine tk 14 55 hHeld ?_
      refine tk 15 56 hHeld ?_
      refine bn 16 (fun K hK => ?_)
      go_simp
      first | refine hK.out undef _ ?_ (fun hHeld' => ?_) | refine hK.out _ _ ?_ (fun hHeld' => ?_)
      · (trivial)
      clear hK K hHeld
      have hHeld := hHeld'
      clear hHeld'
      try simp only [List.set_cons_zero, List.set_cons_succ]
      refine tk 17 57 hHeld ?_
      refine tk 18 58 hHeld ?_
      refine bn 19 (fun K hK => ?_)
      go_simp
      first | refine hK.out undef _ ?_ (fun hHeld' => ?_) | refine hK.out _ _ ?_ (fun hHeld' => ?_)
      · (trivial)
      clear hK K hHeld
      have hHeld := hHeld'
      clear hHeld'
      try simp only [List.set_cons_zero, List.set_cons_succ]
      refine wpAnyH_done (by kernel_rfl) ?_ _
      refine NoPanic.normal ?_
      go_wp2_with fail
      have hw : IntKind.i64.wrap ((turn : Int) + 1) = ((turn + 1 : Nat) : Int) := by
        rw [IntWalk.i64_in _ (by omega)]; omega
      rw [HRz.out, hw]
      have hl9 : LogAt (((w4.setCell ⟨lb, 1, none⟩ (.int .i64 ot)).setCell ⟨lb, 2, none⟩ (.int .i64 ((turn + 1 : Nat) : Int))).setCell ⟨lb, 3, none⟩ (.int .i64 (((n + 55) / 56 : Nat) : Int))) lb p ot (turn + 1) ((n + 55) / 56) :=
        heap_set_same (j := 3) _ (heap_set_same (j := 2) _ (heap_set_same (j := 1) _ HL4.out))
      have hk9 : Kept (fun k => U k ∧ k ≠ lb) w w4 := ⟨HK4.out.os, HK4.out.tape, HK4.out.output, HK4.out.size, fun k hk => HK4.out.block k hk.1⟩
      exact ⟨rfl, (((HD4.out.setj 1 _ hUl).setj 2 _ hUl).setj 3 _ hUl).below (Below.refl _ _).drew, hl9.below (Below.refl _ _).drew, (((hk9.setCell (p := ⟨lb, 1, none⟩) (fun h => h.2 rfl) _).setCell (p := ⟨lb, 2, none⟩) (fun h => h.2 rfl) _).setCell (p := ⟨lb, 3, none⟩) (fun h => h.2 rfl) _).trans ⟨rfl, rfl, rfl, Nat.le_refl _, fun _ _ => rfl⟩⟩
  · have tz : ((en : Int) != 0) = true := by rw [bne_iff_ne]; omega
    have HRz : Hid (R = CompPost U p q lb w ⟨en, d7, half, turn, taken⟩) := by
      show _ = _
      rw [HR.out, if_neg h0]
    clear h0
    go_wp2_with fail
    rw [HRz.out]
    have hk9 : Kept (fun k => U k ∧ k ≠ lb) w w4 := ⟨HK4.out.os, HK4.out.tape, HK4.out.output, HK4.out.size, fun k hk => HK4.out.block k hk.1⟩
    exact ⟨rfl, HD4.out, HL4.out, hk9⟩
end Go.Proofs.Ytcdgaeenfhpnkaa
/- Package log: Open. -/
set_option linter.unusedVariables false
set_option linter.unusedSimpArgs false
set_option maxRecDepth 100000
namespace Go.Proofs.Ytcdgaeenfhpnkaa
open Go Go.RowKit CrcMath
attribute [local go_sem] Oper.semAt_some

structure OS where
  out : List (List Nat)
  half : Nat
  turn : Nat
  taken : Nat
def OS.step (d : DD) (s : OS) (h : Nat) : OS :=
  if 0 < (recsF (secs d (h * (d.L.length / 2)) (d.L.length / 2))).out.length ∧ (s.out.length = 0 ∨ s.turn < (recsF (secs d (h * (d.L.length / 2)) (d.L.length / 2))).turn) then
    ⟨(recsF (secs d (h * (d.L.length / 2)) (d.L.length / 2))).out, h, (recsF (secs d (h * (d.L.length / 2)) (d.L.length / 2))).turn, (recsF (secs d (h * (d.L.length / 2)) (d.L.length / 2))).taken⟩
  else s
def OS.from_ (d : DD) (j : Nat) : OS := (List.range j).foldl (OS.step d) ⟨[], 0, 1, 0⟩
theorem OS.from_succ (d : DD) (j : Nat) : OS.from_ d (j + 1) = (OS.from_ d j).step d j := by
  unfold OS.from_
  rw [List.range_succ, List.foldl_append]
  rfl
/-- what Open answers on a disk that is up -/
def OpenP (U : Nat → Prop) (p q : Nat) (d : DD) (w : World) (e : Ending) (w' : World) : Prop :=
  ∃ v, e = .returned (.tuple #[.pointer (some ⟨w.heap.size, 0, none⟩), v, .int .i64 0]) ∧ OutOk w' (w.heap.size + 1) w'.heap.size v (OS.from_ d 2).out ∧ LogAt w' w.heap.size p (OS.from_ d 2).half (OS.from_ d 2).turn (OS.from_ d 2).taken ∧ Below w.heap.size w w'
theorem open_down (U : Nat → Prop) (p q : Nat) (d : DD) (w : World) (hd : HD w U p q d) (hdn : d.down = true) :
    Calls Try.prog 48 #[.pointer (some ⟨p, 0, none⟩)] w fun e w' => e = .returned (.tuple #[.pointer none, .slice none 0 0, .int .i64 101]) ∧ w' = w := by
  have Hd := Lib.hid hd
  have Hdn := Lib.hid hdn
  clear hd hdn
  go_enter Try.func48, Try.ntmps48
  go_wp2_with (first
    | (go_at_call 24; (with_reducible refine (down_any U p q d w Hd.out).mono ?_)
       rintro e w1 ⟨he, hw⟩
       obtain rfl := hw.symm
       rw [Hdn.out] at he
       subst he))
  refine bodyPost_ret (results_tmp3 rfl _ _ _) rfl ?_
  exact ⟨rfl, rfl⟩
theorem grown_setj (W : World) (b j : Nat) (v : Value) : W.grownBy (W.setCell ⟨b, j, none⟩ v) (some b) :=
  ⟨rfl, rfl, rfl, (KeepsWalks.setCell W _ v).size, fun k _ hk => Below.heap_setCell _ _ _ k (fun e => hk (by rw [e]))⟩
theorem OutOk.setj {W : World} {base Bo b : Nat} {v : Value} {out : List (List Nat)} (j : Nat) (u : Value) (h : OutOk W base Bo v out) (hb : b < base) : OutOk (W.setCell ⟨b, j, none⟩ u) base Bo v out :=
  h.keep (fun _ _ h1 => h1.kept (grown_setj W b j u) (by
    rcases h1.2 with ⟨rfl, _⟩ | ⟨g, cap, cur, rfl, hg, _⟩
    · exact .inl rfl
    · exact .inr (by simp [Value.ownBlock]; omega))) (fun g _ _ hg _ => Below.heap_setCell _ _ _ _ (by show g ≠ b; omega))
theorem HD.some_c {w : World} {U : Nat → Prop} {p q : Nat} {d : DD} (h : HD w U p q d) : ∃ c, HDc w (fun _ => False) p q c d ∧ c < w.heap.size := by
  obtain ⟨c, h⟩ := h
  cases hcut : d.cut with
  | none => exact ⟨p, ⟨h.ok, (fun _ hk => hk.elim), h.pq, id, id, (by have h1 := h.hp; rw [hcut] at h1 ⊢; exact h1), h.hq, fun a b e => by rw [hcut] at e; cases e⟩, (Array.getElem?_eq_some_iff.1 h.hp).1⟩
  | some ab =>
    obtain ⟨a, b⟩ := ab
    obtain ⟨h1, h2, h3, h4⟩ := h.hc a b hcut
    refine ⟨c, ⟨h.ok, (fun _ hk => hk.elim), h.pq, id, id, h.hp, h.hq, fun a' b' e => ?_⟩, (Array.getElem?_eq_some_iff.1 h4).1⟩
    obtain ⟨g1, g2, _, g4⟩ := h.hc a' b' e
    exact ⟨g1, g2, id, g4⟩
set_option maxHeartbeats 4000000 in
theorem open_up (U : Nat → Prop) (p q : Nat) (d : DD) (w : World) (hd : HD w U p q d) (hdn : d.down = false) :
    Calls Try.prog 48 #[.pointer (some ⟨p, 0, none⟩)] w (OpenP U p q d w) := by
  have hlen : d.L.length ≤ 256 := by obtain ⟨c, h⟩ := hd; exact h.ok.2.1
  have Hd := Lib.hid hd
  have Hdn := Lib.hid hdn
  clear hd hdn
  go_enter Try.func48, Try.ntmps48
  go_wp2_with (first
    | (go_at_call 24; (with_reducible refine (down_any U p q d w Hd.out).mono ?_)
       rintro e w1 ⟨he, hw⟩
       obtain rfl := hw.symm
       rw [Hdn.out] at he
       subst he))
  go_loopg [6, 16] 2 (fun k v i wr => ∃ j : Nat, k + j = 2 ∧ i = .int .i64 j ∧ Below w.heap.size w wr ∧ OutOk wr (w.heap.size + 1) wr.heap.size v (OS.from_ d j).out ∧ LogAt wr w.heap.size p (OS.from_ d j).half (OS.from_ d j).turn (OS.from_ d j).taken)
  case atStart =>
    have hb : Below w.heap.size w (w.alloc (.cells #[.pointer (some ⟨p, 0, none⟩), .int .i64 0, .int .i64 1, .int .i64 0] 109)) := (Below.refl _ _).alloc (Nat.le_refl _) _
    exact ⟨0, rfl, rfl, hb, ⟨[], World.ownsRow_nil _ _ _ _, fun j r hj => by simp [OS.from_] at hj⟩, heap_alloc_new w _⟩
  case round =>
    obtain ⟨j, hj, rfl, hbl, ho, hl⟩ := hrel
    by_cases hlt : j < 2
    · obtain ⟨s, hs⟩ : ∃ s, s = OS.from_ d j := ⟨_, rfl⟩
      obtain ⟨r, hr⟩ : ∃ r, r = recsF (secs d (j * (d.L.length / 2)) (d.L.length / 2)) := ⟨_, rfl⟩
      rw [← hs] at ho hl
      have hnext : OS.from_ d (j + 1) = if 0 < r.out.length ∧ (s.out.length = 0 ∨ s.turn < r.turn) then ⟨r.out, j, r.turn, r.taken⟩ else s := by
        rw [OS.from_succ, OS.step, ← hs, ← hr]
      obtain ⟨A0, c0, rfl⟩ : ∃ A0 c0, u6 = Value.slice A0 s.out.length c0 := by
        obtain ⟨vs, h1, _⟩ := ho
        exact own_shape h1
      have hdw := Hd.out.below hbl
      obtain ⟨c, hdc, hcl⟩ := hdw.some_c
      have HDC := Lib.hid hdc
      have HDW := Lib.hid hdw
      have Ho := Lib.hid ho
      have Hl := Lib.hid hl
      have Hbl := Lib.hid hbl
      have Hr0 := Lib.hid hr
      have hji : (j : Int) < 2 := by omega
      have e1 : wrap64 ((j : Int) * ((d.L.length : Int) / 2)) = ((j * (d.L.length / 2) : Nat) : Int) := by
        have hm : j * (d.L.length / 2) ≤ 256 := by
          have : j = 0 ∨ j = 1 := by omega
          rcases this with rfl | rfl <;> omega
        have e0 : (j : Int) * ((d.L.length : Int) / 2) = ((j * (d.L.length / 2) : Nat) : Int) := by simp
        rw [e0]
        unfold wrap64
        omega
      have hfm : j * (d.L.length / 2) + d.L.length / 2 ≤ d.L.length := by
        have : j = 0 ∨ j = 1 := by omega
        rcases this with rfl | rfl <;> omega
      have Hcall : Hid (Calls Try.prog 68 #[.pointer (some ⟨p, 0, none⟩), .int .i64 (wrap64 ((j : Int) * ((d.L.length : Int) / 2))), .int .i64 ((d.L.length : Int) / 2)] wr (RecsPost wr r)) := by
        show Calls _ _ _ _ _
        have e2 : (d.L.length : Int) / 2 = ((d.L.length / 2 : Nat) : Int) := by simp
        rw [e1, e2, Hr0.out]
        exact callsIn_wide.1 (records_any 0 p q c d (j * (d.L.length / 2)) (d.L.length / 2) wr HDC.out hcl Hdn.out hfm)
      clear hdc hcl hdw ho hl hbl hr hs e1 hfm hlt
      by_cases k1 : 0 < r.out.length
      · have T1 : decide ((0 : Int) < (r.out.length : Int)) = true := decide_eq_true (by omega)
        have T1' : (0 : Int) < (r.out.length : Int) := by omega
        by_cases k2 : s.out.length = 0
        · have T2 : ((s.out.length : Int) == 0) = true := by rw [beq_iff_eq]; omega
          have HN : Hid (OS.from_ d (j + 1) = ⟨r.out, j, r.turn, r.taken⟩) := by show _ = _; rw [hnext, if_pos ⟨k1, .inl k2⟩]
          clear hnext k1 k2
          go_wp2_with (first
            | (go_at_call 69; (with_reducible refine (size_any U p q w.heap.size s.half s.turn s.taken d wr HDW.out Hl.out).mono ?_)
               rintro e w2 ⟨rfl, hw2⟩
               obtain rfl := hw2.symm)
            | (go_at_call 68; (with_reducible refine Hcall.out.mono ?_)
               rintro e w3 ⟨v3, rfl, ho3, hb3, hsm3⟩
               obtain ⟨A3, c3, rfl⟩ : ∃ A3 c3, v3 = Value.slice A3 r.out.length c3 := by
                 obtain ⟨vs, h1, _⟩ := ho3
                 exact own_shape h1
               have hl3 := Hl.out.below hb3
               have z1 := cell_of_row w3 w.heap.size 1 _ _ _ hl3
               have z2 := cell_of_row w3 w.heap.size 2 _ _ _ hl3
               have z3 := cell_of_row w3 w.heap.size 3 _ _ _ hl3
               have f1 := frozen_of_row w3 w.heap.size 1 _ _ hl3
               have f2 := frozen_of_row w3 w.heap.size 2 _ _ hl3
               have f3 := frozen_of_row w3 w.heap.size 3 _ _ hl3
               simp at z1 z2 z3
               have Ho3 := Lib.hid ho3
               have Hl3 := Lib.hid hl3
               have Hb3 := Lib.hid hb3
               clear ho3 hl3 hb3 hsm3))
          go_roundg (gk - 1)
          case measure => omega
          case rel =>
            have hwz : w.heap.size + 1 ≤ wr.heap.size := (Array.getElem?_eq_some_iff.1 Hl.out).1
            refine ⟨j + 1, by omega, by go_num, ((((Hbl.out.trans (Hb3.out.mono Hbl.out.size)).setCell (p := ⟨w.heap.size, 1, none⟩) (Nat.le_refl _) _).setCell (p := ⟨w.heap.size, 2, none⟩) (Nat.le_refl _) _).setCell (p := ⟨w.heap.size, 3, none⟩) (Nat.le_refl _) _), ?_, ?_⟩
            · rw [HN.out]
              have h := ((((Ho3.out.less hwz).setj (b := w.heap.size) 1 (.int .i64 j) (by omega)).setj (b := w.heap.size) 2 (.int .i64 r.turn) (by omega)).setj (b := w.heap.size) 3 (.int .i64 r.taken) (by omega))
              exact h.more (by simp [World.setCell])
            · rw [HN.out]
              exact heap_set_same (j := 3) _ (heap_set_same (j := 2) _ (heap_set_same (j := 1) _ Hl3.out))
        · have T2 : ((s.out.length : Int) == 0) = false := by rw [beq_eq_false_iff_ne]; omega
          by_cases k3 : s.turn < r.turn
          · have T3 : decide (s.turn < r.turn) = true := decide_eq_true k3
            have HN : Hid (OS.from_ d (j + 1) = ⟨r.out, j, r.turn, r.taken⟩) := by show _ = _; rw [hnext, if_pos ⟨k1, .inr k3⟩]
            clear hnext k1 k2 k3
            go_wp2_with (first
              | (go_at_call 69; (with_reducible refine (size_any U p q w.heap.size s.half s.turn s.taken d wr HDW.out Hl.out).mono ?_)
                 rintro e w2 ⟨rfl, hw2⟩
                 obtain rfl := hw2.symm)
              | (go_at_call 68; (with_reducible refine Hcall.out.mono ?_)
                 rintro e w3 ⟨v3, rfl, ho3, hb3, hsm3⟩
                 obtain ⟨A3, c3, rfl⟩ : ∃ A3 c3, v3 = Value.slice A3 r.out.length c3 := by
                   obtain ⟨vs, h1, _⟩ := ho3
                   exact own_shape h1
                 have hl3 := Hl.out.below hb3
                 have z1 := cell_of_row w3 w.heap.size 1 _ _ _ hl3
                 have z2 := cell_of_row w3 w.heap.size 2 _ _ _ hl3
                 have z3 := cell_of_row w3 w.heap.size 3 _ _ _ hl3
                 have f1 := frozen_of_row w3 w.heap.size 1 _ _ hl3
                 have f2 := frozen_of_row w3 w.heap.size 2 _ _ hl3
                 have f3 := frozen_of_row w3 w.heap.size 3 _ _ hl3
                 simp at z1 z2 z3
                 have Ho3 := Lib.hid ho3
                 have Hl3 := Lib.hid hl3
                 have Hb3 := Lib.hid hb3
                 clear ho3 hl3 hb3 hsm3))
            go_roundg (gk - 1)
            case measure => omega
            case rel =>
              have hwz : w.heap.size + 1 ≤ wr.heap.size := (Array.getElem?_eq_some_iff.1 Hl.out).1
              refine ⟨j + 1, by omega, by go_num, ((((Hbl.out.trans (Hb3.out.mono Hbl.out.size)).setCell (p := ⟨w.heap.size, 1, none⟩) (Nat.le_refl _) _).setCell (p := ⟨w.heap.size, 2, none⟩) (Nat.le_refl _) _).setCell (p := ⟨w.heap.size, 3, none⟩) (Nat.le_refl _) _), ?_, ?_⟩
              · rw [HN.out]
                have h := ((((Ho3.out.less hwz).setj (b := w.heap.size) 1 (.int .i64 j) (by omega)).setj (b := w.heap.size) 2 (.int .i64 r.turn) (by omega)).setj (b := w.heap.size) 3 (.int .i64 r.taken) (by omega))
                exact h.more (by simp [World.setCell])
              · rw [HN.out]
                exact heap_set_same (j := 3) _ (heap_set_same (j := 2) _ (heap_set_same (j := 1) _ Hl3.out))
          · have T3 : decide (s.turn < r.turn) = false := decide_eq_false k3
            have HN : Hid (OS.from_ d (j + 1) = s) := by show _ = _; rw [hnext, if_neg (by omega)]
            clear hnext k1 k2 k3
            go_wp2_with (first
              | (go_at_call 69; (with_reducible refine (size_any U p q w.heap.size s.half s.turn s.taken d wr HDW.out Hl.out).mono ?_)
                 rintro e w2 ⟨rfl, hw2⟩
                 obtain rfl := hw2.symm)
              | (go_at_call 68; (with_reducible refine Hcall.out.mono ?_)
                 rintro e w3 ⟨v3, rfl, ho3, hb3, hsm3⟩
                 obtain ⟨A3, c3, rfl⟩ : ∃ A3 c3, v3 = Value.slice A3 r.out.length c3 := by
                   obtain ⟨vs, h1, _⟩ := ho3
                   exact own_shape h1
                 have hl3 := Hl.out.below hb3
                 have z1 := cell_of_row w3 w.heap.size 1 _ _ _ hl3
                 have z2 := cell_of_row w3 w.heap.size 2 _ _ _ hl3
                 have z3 := cell_of_row w3 w.heap.size 3 _ _ _ hl3
                 have f1 := frozen_of_row w3 w.heap.size 1 _ _ hl3
                 have f2 := frozen_of_row w3 w.heap.size 2 _ _ hl3
                 have f3 := frozen_of_row w3 w.heap.size 3 _ _ hl3
                 simp at z1 z2 z3
                 have Ho3 := Lib.hid ho3
                 have Hl3 := Lib.hid hl3
                 have Hb3 := Lib.hid hb3
                 clear ho3 hl3 hb3 hsm3))
            go_roundg (gk - 1)
            case measure => omega
            case rel =>
              refine ⟨j + 1, by omega, by go_num, Hbl.out.trans (Hb3.out.mono Hbl.out.size), ?_, ?_⟩
              · rw [HN.out]; exact (Ho.out.below Hb3.out (Nat.le_refl _)).more Hb3.out.size
              · rw [HN.out]; exact Hl3.out
      · have T1 : decide ((0 : Int) < (r.out.length : Int)) = false := decide_eq_false (by omega)
        have T1' : decide (0 < r.out.length) = false := decide_eq_false k1
        have T1n : ¬ 0 < r.out.length := k1
        have HN : Hid (OS.from_ d (j + 1) = s) := by show _ = _; rw [hnext, if_neg (fun h => k1 h.1)]
        clear hnext k1
        go_wp2_with (first
          | (go_at_call 69; (with_reducible refine (size_any U p q w.heap.size s.half s.turn s.taken d wr HDW.out Hl.out).mono ?_)
             rintro e w2 ⟨rfl, hw2⟩
             obtain rfl := hw2.symm)
          | (go_at_call 68; (with_reducible refine Hcall.out.mono ?_)
             rintro e w3 ⟨v3, rfl, ho3, hb3, hsm3⟩
             obtain ⟨A3, c3, rfl⟩ : ∃ A3 c3, v3 = Value.slice A3 r.out.length c3 := by
               obtain ⟨vs, h1, _⟩ := ho3
               exact own_shape h1
             have hl3 := Hl.out.below hb3
             have z1 := cell_of_row w3 w.heap.size 1 _ _ _ hl3
             have z2 := cell_of_row w3 w.heap.size 2 _ _ _ hl3
             have z3 := cell_of_row w3 w.heap.size 3 _ _ _ hl3
             have f1 := frozen_of_row w3 w.heap.size 1 _ _ hl3
             have f2 := frozen_of_row w3 w.heap.size 2 _ _ hl3
             have f3 := frozen_of_row w3 w.heap.size 3 _ _ hl3
             simp at z1 z2 z3
             have Ho3 := Lib.hid ho3
             have Hl3 := Lib.hid hl3
             have Hb3 := Lib.hid hb3
             clear ho3 hl3 hb3 hsm3))
        go_roundg (gk - 1)
        case measure => omega
        case rel =>
          refine ⟨j + 1, by omega, by go_num, Hbl.out.trans (Hb3.out.mono Hbl.out.size), ?_, ?_⟩
          · rw [HN.out]; exact (Ho.out.below Hb3.out (Nat.le_refl _)).more Hb3.out.size
          · rw [HN.out]; exact Hl3.out
    · obtain rfl : j = 2 := by omega
      go_wp2_with fail
      refine bodyPost_ret (results_tmp3 rfl _ _ _) rfl ?_
      exact ⟨_, rfl, ho, hl, hbl⟩
end Go.Proofs.Ytcdgaeenfhpnkaa
