/- Package log: size, Room, Turn. -/
import Derived.Test.YtcdgaeenfhpnkaaPk11
set_option linter.unusedVariables false
set_option linter.unusedSimpArgs false
set_option maxRecDepth 100000
namespace Go.Proofs.Ytcdgaeenfhpnkaa
open Go Go.RowKit CrcMath
attribute [local go_sem] Oper.semAt_some

/-- a log in memory -/
def LogAt (w : World) (lb p half turn taken : Nat) : Prop := w.heap[lb]? = some (.cells #[.pointer (some ⟨p, 0, none⟩), .int .i64 half, .int .i64 turn, .int .i64 taken] 109)
theorem LogAt.below {w w' : World} {lb p half turn taken : Nat} (h : LogAt w lb p half turn taken) (hb : Below w.heap.size w w') : LogAt w' lb p half turn taken :=
  (hb.block lb (Array.getElem?_eq_some_iff.1 h).1).trans h
theorem size_any (U : Nat → Prop) (p q lb half turn taken : Nat) (d : DD) (w : World) (hd : HD w U p q d) (hl : LogAt w lb p half turn taken) :
    Calls Try.prog 69 #[.pointer (some ⟨lb, 0, none⟩)] w fun e w' => e = .returned (.int .i64 (d.L.length / 2 : Nat)) ∧ w' = w := by
  have c0 := cell_of_row w lb 0 _ _ _ hl
  simp at c0
  have hlen : d.L.length ≤ 256 := by obtain ⟨c, h⟩ := hd; exact h.ok.2.1
  have Hd := Lib.hid hd
  clear hd hl
  go_enter Try.func69, Try.ntmps69
  go_wp2_with (first
    | (go_at_call 82; (with_reducible refine (many_any U p q d w Hd.out).mono ?_)
       rintro e w1 ⟨rfl, rfl⟩))
  go_ret
  exact ⟨by simp, rfl⟩
theorem room_any (U : Nat → Prop) (p q lb half turn taken : Nat) (d : DD) (w : World) (hd : HD w U p q d) (hl : LogAt w lb p half turn taken) (ht : taken ≤ 1000) :
    Calls Try.prog 73 #[.pointer (some ⟨lb, 0, none⟩)] w fun e w' => e = .returned (.int .i64 ((d.L.length / 2 : Nat) - (taken : Int))) ∧ Below w.heap.size w w' := by
  have c3 := cell_of_row w lb 3 _ _ _ hl
  simp at c3
  have hlen : d.L.length ≤ 256 := by obtain ⟨c, h⟩ := hd; exact h.ok.2.1
  have Hd := Lib.hid hd
  have Hl := Lib.hid hl
  clear hd hl
  go_enter Try.func73, Try.ntmps73
  go_wp2_with fail
  refine sk (fun w' => w'.cell? ⟨lb, 3, none⟩ = some (.int .i64 taken)) 8 ?_ (fun hHeld => ?_)
  · (first | exact c3 | exact hHeld)
  refine tk 0 3 hHeld ?_
  refine tk 2 5 hHeld ?_
  refine tk 3 6 hHeld ?_
  refine tk 4 7 hHeld ?_
  refine tk 5 8 hHeld ?_
  refine bk 1 4 (fun K hK => ?_)
  go_simp
  (go_at_call 69; (with_reducible refine (size_any U p q lb half turn taken d _ (Hd.out.below (Below.refl _ _).drew) (Hl.out.below (Below.refl _ _).drew)).mono ?_))
  rintro e w1 ⟨rfl, rfl⟩
  refine hK.out _ _ ?_ (fun hHeld' => ?_)
  · (first | exact c3 | exact hHeld)
  clear hK K hHeld
  have hHeld := hHeld'
  clear hHeld'
  simp only [List.set_cons_zero, List.set_cons_succ]
  refine tk 6 9 hHeld ?_
  refine tk 7 2 hHeld ?_
  refine wpAnyH_done (by kernel_rfl) ?_ _
  refine NoPanic.normal ?_
  go_wp2_with fail
  go_ret
  have hw : IntKind.i64.wrap ((d.L.length : Int) / 2 - (taken : Int)) = (d.L.length : Int) / 2 - (taken : Int) := IntWalk.i64_in _ (by omega)
  refine ⟨?_, (Below.refl _ _).drew⟩
  simp [hw]
end Go.Proofs.Ytcdgaeenfhpnkaa
/- Package log: Add. -/
set_option linter.unusedVariables false
set_option linter.unusedSimpArgs false
set_option maxRecDepth 100000
namespace Go.Proofs.Ytcdgaeenfhpnkaa
open Go Go.RowKit CrcMath
attribute [local go_sem] Oper.semAt_some

/-- what Add answers, and what it leaves: errno, disk, taken -/
def addF (d : DD) (half turn taken : Nat) (b : List Nat) : Nat × DD × Nat :=
  if ¬ (1 ≤ b.length ∧ b.length ≤ 448) then (1, d, taken)
  else if d.L.length / 2 < taken + needsN b then (5, d, taken)
  else if (wrF (half * (d.L.length / 2) + taken) turn b d (List.range (needsN b))).1 = 0 then (0, (wrF (half * (d.L.length / 2) + taken) turn b d (List.range (needsN b))).2, taken + needsN b)
  else ((wrF (half * (d.L.length / 2) + taken) turn b d (List.range (needsN b))).1, (wrF (half * (d.L.length / 2) + taken) turn b d (List.range (needsN b))).2, taken)
def AddPost (U : Nat → Prop) (p q lb half turn : Nat) (w : World) (r : Nat × DD × Nat) (e : Ending) (w' : World) : Prop :=
  e = .returned (.int .i64 r.1) ∧ HD w' U p q r.2.1 ∧ LogAt w' lb p half turn r.2.2 ∧ Kept (fun k => U k ∧ k ≠ lb) w w'
theorem AddPost.still {U : Nat → Prop} {p q lb half turn en taken : Nat} {w w' : World} {d : DD} (hd : HD w U p q d) (hl : LogAt w lb p half turn taken) (hb : Below w.heap.size w w') : AddPost U p q lb half turn w (en, d, taken) (.returned (.int .i64 en)) w' :=
  ⟨rfl, hd.below hb, hl.below hb, Kept.of hb (fun k hk => hd.old k hk.1)⟩
theorem HD.setj {w : World} {U : Nat → Prop} {p q b : Nat} {d : DD} (j : Nat) (u : Value) (h : HD w U p q d) (hb : U b) : HD (w.setCell ⟨b, j, none⟩ u) U p q d := by
  obtain ⟨c, h⟩ := h
  refine ⟨c, ⟨h.ok, fun x hx => by simpa [World.setCell] using h.old x hx, h.pq, h.up, h.uq, heap_set_other u h.hp (fun e => h.up (e ▸ hb)), heap_set_other u h.hq (fun e => h.uq (e ▸ hb)), fun a c' e => ?_⟩⟩
  obtain ⟨h1, h2, h3, h4⟩ := h.hc a c' e
  exact ⟨h1, h2, h3, heap_set_other u h4 (fun e => h3 (e ▸ hb))⟩
set_option maxHeartbeats 2000000 in
theorem add_arg (U : Nat → Prop) (p q lb half turn taken n c : Nat) (A : Option Addr) (d : DD) (w : World) (hd : HD w U p q d) (hl : LogAt w lb p half turn taken) (hn : ¬ (1 ≤ n ∧ n ≤ 448)) (hn2 : n ≤ 9223372036854775807) :
    Calls Try.prog 51 #[.pointer (some ⟨lb, 0, none⟩), .slice A n c] w (AddPost U p q lb half turn w (1, d, taken)) := by
  have hdec : decide (1 ≤ n ∧ n ≤ 448) = false := decide_eq_false hn
  have Hd := Lib.hid hd
  have Hl := Lib.hid hl
  have Hdec := Lib.hid hdec
  clear hd hl hdec hn
  go_enter Try.func51, Try.ntmps51
  go_wp2_with (first
    | (go_at_call 71; (with_reducible refine (right_any A n c w hn2).mono ?_)
       rintro e w1 ⟨he, rfl⟩
       rw [Hdec.out] at he
       subst he))
  go_ret
  exact AddPost.still Hd.out Hl.out (Below.refl _ _)
set_option maxHeartbeats 2000000 in
theorem add_full (U : Nat → Prop) (p q lb half turn taken n c : Nat) (A : Option Addr) (d : DD) (w : World) (hd : HD w U p q d) (hl : LogAt w lb p half turn taken) (ht : taken ≤ 1000) (hn : 1 ≤ n ∧ n ≤ 448) (hf : d.L.length / 2 < taken + (n + 55) / 56) :
    Calls Try.prog 51 #[.pointer (some ⟨lb, 0, none⟩), .slice A n c] w (AddPost U p q lb half turn w (5, d, taken)) := by
  have hdec : decide (1 ≤ n ∧ n ≤ 448) = true := decide_eq_true hn
  have t1 : ((d.L.length / 2 : Nat) : Int) - (taken : Int) < (((n + 55) / 56 : Nat) : Int) := by omega
  have Hd := Lib.hid hd
  have Hl := Lib.hid hl
  have Hdec := Lib.hid hdec
  clear hd hl hdec hf
  go_enter Try.func51, Try.ntmps51
  go_wp2_with (first
    | (go_at_call 71; (with_reducible refine (right_any A n c w (by omega)).mono ?_)
       rintro e w1 ⟨he, rfl⟩
       rw [Hdec.out] at he
       subst he)
    | (go_at_call 72; (with_reducible refine (needs_any A n c _ (by omega)).mono ?_)
       rintro e w1 ⟨rfl, rfl⟩)
    | (go_at_call 73; (with_reducible refine (room_any U p q lb half turn taken d _ Hd.out Hl.out ht).mono ?_)
       rintro e w2 ⟨rfl, hb2⟩
       have Hb2 := Lib.hid hb2
       clear hb2))
  go_ret
  exact AddPost.still Hd.out Hl.out Hb2.out
set_option maxHeartbeats 4000000 in
theorem add_go (U : Nat → Prop) (p q lb half turn taken g o n c : Nat) (b : List Nat) (d : DD) (w : World) (hd : HD w U p q d) (hl : LogAt w lb p half turn taken) (hUl : U lb) (ht : taken ≤ 1000) (hh : half ≤ 1) (htu : turn < 65536) (hn : 1 ≤ n ∧ n ≤ 448)
    (hr : Rd w w.heap.size 1 (some ⟨g, o, none⟩) n (b.map bv)) (hUg : U g) (hb : ∀ x ∈ b, x < 256) (hnc : n ≤ c) (hc : c ≤ maxLen) (hw8 : d.writes + 8 < 1000000) (hf : ¬ d.L.length / 2 < taken + (n + 55) / 56) (en : Nat) (d7 : DD)
    (hwr : wrF (half * (d.L.length / 2) + taken) turn b d (List.range (needsN b)) = (en, d7)) :
    Calls Try.prog 51 #[.pointer (some ⟨lb, 0, none⟩), .slice (some ⟨g, o, none⟩) n c] w (AddPost U p q lb half turn w (if en = 0 then (0, d7, taken + needsN b) else (en, d7, taken))) := by
  have hdec : decide (1 ≤ n ∧ n ≤ 448) = true := decide_eq_true hn
  have hlen : d.L.length ≤ 256 := by obtain ⟨c, h⟩ := hd; exact h.ok.2.1
  have t1 : ¬ ((d.L.length / 2 : Nat) : Int) - (taken : Int) < (((n + 55) / 56 : Nat) : Int) := by omega
  obtain ⟨R, hR⟩ : ∃ R, R = AddPost U p q lb half turn w (if en = 0 then (0, d7, taken + needsN b) else (en, d7, taken)) := ⟨_, rfl⟩
  rw [← hR]
  have HR := Lib.hid hR
  have Hd := Lib.hid hd
  have Hl := Lib.hid hl
  have Hdec := Lib.hid hdec
  have Hr := Lib.hid hr
  have Hwr := Lib.hid hwr
  have Hf := Lib.hid hf
  clear hR hd hl hdec hr hwr hf
  go_enter Try.func51, Try.ntmps51
  go_wp2_with (first
    | (go_at_call 71; (with_reducible refine (right_any (some ⟨g, o, none⟩) n c w (by omega)).mono ?_)
       rintro e w1 ⟨he, hw⟩
       obtain rfl := hw.symm
       rw [Hdec.out] at he
       subst he)
    | (go_at_call 72; (with_reducible refine (needs_any (some ⟨g, o, none⟩) n c _ (by omega)).mono ?_)
       rintro e w1 ⟨rfl, hw⟩
       obtain rfl := hw.symm)
    | (go_at_call 73; (with_reducible refine (room_any U p q lb half turn taken d _ Hd.out Hl.out ht).mono ?_)
       rintro e w2 ⟨rfl, hb2⟩
       have Hb2 := Lib.hid hb2
       clear hb2))
  have hl2 := Hl.out.below Hb2.out
  have hd2 := Hd.out.below Hb2.out
  have c1 := cell_of_row w2 lb 1 _ _ _ hl2
  have c2 := cell_of_row w2 lb 2 _ _ _ hl2
  have c3 := cell_of_row w2 lb 3 _ _ _ hl2
  simp at c1 c2 c3
  have Hl2 := Lib.hid hl2
  have Hd2 := Lib.hid hd2
  clear hl2 hd2 t1
  have Hcall : Hid (Calls Try.prog 74 #[.pointer (some ⟨lb, 0, none⟩), .int .i64 (IntKind.i64.wrap (IntKind.i64.wrap ((half : Int) * ((d.L.length : Int) / 2)) + (taken : Int))), .int .i64 turn, .slice (some ⟨g, o, none⟩) n c] w2.drew (WrPost U p q w2.drew (en, d7))) := by
    show Calls _ _ _ _ _
    have hf := Hf.out
    have e0 : (half : Int) * ((d.L.length : Int) / 2) = ((half * (d.L.length / 2) : Nat) : Int) := by simp
    have hm : half * (d.L.length / 2) ≤ 128 := by
      have : half = 0 ∨ half = 1 := by omega
      rcases this with rfl | rfl <;> omega
    have e1 : IntKind.i64.wrap ((half * (d.L.length / 2) : Nat) : Int) = ((half * (d.L.length / 2) : Nat) : Int) := IntWalk.i64_in _ (by omega)
    have e2 : IntKind.i64.wrap (((half * (d.L.length / 2) : Nat) : Int) + (taken : Int)) = ((half * (d.L.length / 2) + taken : Nat) : Int) := by
      rw [IntWalk.i64_in _ (by omega)]; omega
    rw [e0, e1, e2, ← Hwr.out]
    have hbd : Below w.heap.size w w2.drew := Hb2.out.drew
    exact callsIn_wide.1 (write_log 0 U p q lb (half * (d.L.length / 2) + taken) turn g o n c (.int .i64 half) (.int .i64 turn) (.int .i64 taken) b d w2.drew (Hd.out.below hbd) (Hl.out.below hbd) hUl ((Hr.out.below hbd).more hbd.size) hUg hb (by omega) hnc (by omega) hc htu (by omega) hw8)
  have Hw2s : Hid (w2.drew.heap.size = w2.heap.size) := rfl
  refine sk (fun w' => w'.cell? ⟨lb, 1, none⟩ = some (.int .i64 half) ∧ w'.cell? ⟨lb, 2, none⟩ = some (.int .i64 turn) ∧ w'.cell? ⟨lb, 3, none⟩ = some (.int .i64 taken)) 20 ?_ (fun hHeld => ?_)
  · (first | exact ⟨c1, c2, c3⟩ | exact hHeld | exact HSw.out)
  refine tk 0 14 hHeld ?_
  refine tk 1 15 hHeld ?_
  refine tk 2 16 hHeld ?_
  refine tk 3 17 hHeld ?_
  refine tk 4 18 hHeld ?_
  refine tk 5 19 hHeld ?_
  refine tk 8 22 hHeld ?_
  refine tk 9 23 hHeld ?_
  refine tk 10 24 hHeld ?_
  refine tk 11 25 hHeld ?_
  refine tk 13 27 hHeld ?_
  refine tk 14 28 hHeld ?_
  refine tk 15 29 hHeld ?_
  refine tk 16 30 hHeld ?_
  refine tk 17 31 hHeld ?_
  refine bk 6 20 (fun K hK => ?_)
  go_simp
  (go_at_call 69; (with_reducible refine (size_any U p q lb half turn taken d _ (Hd2.out.below (Below.refl _ _).drew) (Hl2.out.below (Below.refl _ _).drew)).mono ?_))
  rintro e w3 ⟨rfl, rfl⟩
  refine hK.out _ _ ?_ (fun hHeld' => ?_)
  · (first | exact ⟨c1, c2, c3⟩ | exact hHeld | exact HSw.out)
  clear hK K hHeld
  have hHeld := hHeld'
  clear hHeld'
  simp only [List.set_cons_zero, List.set_cons_succ]
  refine tk 7 21 hHeld ?_
  refine tk 12 26 hHeld ?_
  refine bk 18 32 (fun K hK => ?_)
  go_simp
  (go_at_call 74; (with_reducible refine Hcall.out.mono ?_))
  rintro e w4 ⟨rfl, hd4, hk4⟩
  have hl4 : LogAt w4 lb p half turn taken := (hk4.block lb hUl).trans (Hl2.out.below (Below.refl _ _).drew)
  have z1 := cell_of_row w4 lb 1 _ _ _ hl4
  have z2 := cell_of_row w4 lb 2 _ _ _ hl4
  have z3 := cell_of_row w4 lb 3 _ _ _ hl4
  have f3 := frozen_of_row w4 lb 3 _ _ hl4
  simp at z1 z2 z3
  have HSw : Hid (w4.cell? ⟨lb, 1, none⟩ = some (.int .i64 half) ∧ w4.cell? ⟨lb, 2, none⟩ = some (.int .i64 turn) ∧ w4.cell? ⟨lb, 3, none⟩ = some (.int .i64 taken)) := ⟨z1, z2, z3⟩
  have HL4 := Lib.hid hl4
  have HD4 := Lib.hid hd4
  have HK4 : Hid (Kept U w w4) := (Kept.of Hb2.out.drew Hd.out.old).trans hk4
  clear hl4 hd4 hk4 z1 z2
  dsimp only
  refine hK.out _ _ ?_ (fun hHeld' => ?_)
  · (first | exact ⟨c1, c2, c3⟩ | exact hHeld | exact HSw.out)
  clear hK K hHeld
  have hHeld := hHeld'
  clear hHeld'
  simp only [List.set_cons_zero, List.set_cons_succ]
  refine tk 19 5 hHeld ?_
  refine wpAnyH_done (by kernel_rfl) ?_ _
  refine NoPanic.normal ?_
  by_cases h0 : en = 0
  · have tz : ((en : Int) != 0) = false := by rw [h0]; rfl
    have HRz : Hid (R = AddPost U p q lb half turn w (0, d7, taken + (n + 55) / 56)) := by
      show _ = _
      rw [HR.out, if_pos h0, needsN, show b.length = n from by have := Hr.out.1; simpa using this]
    clear h0
    go_wp2_with fail
    refine sk (fun _ => True) 10 ?_ (fun hHeld => ?_)
    · (trivial)
    refine tk 0 36 hHeld ?_
    refine tk 1 37 hHeld ?_
    refine tk 2 38 hHeld ?_
    refine tk 4 40 hHeld ?_
    refine wpAnyH_ready (rs := [3, 5]) (by kernel_rfl) (by simp) ?_
    refine (consH 3 39 #[true, true, true, true, true, false, false, false, false, false] rfl rfl rfl (by rfl) (fun K hK => ?_) (consH 5 41 #[true, true, true, false, true, true, false, false, false, false] rfl rfl rfl (by rfl) (fun K hK => ?_) AllReadyH.nil))
    · go_simp
      refine hK.out _ _ ?_ (fun hHeld' => ?_)
      · (trivial)
      clear hK K hHeld
      have hHeld := hHeld'
      clear hHeld'
      simp only [List.set_cons_zero, List.set_cons_succ]
      refine bk 5 41 (fun K hK => ?_)
      go_simp
      (go_at_call 72; (with_reducible refine (needs_any (some ⟨g, o, none⟩) n c _ (by omega)).mono ?_))
      rintro e w6 ⟨rfl, rfl⟩
      refine hK.out _ _ ?_ (fun hHeld' => ?_)
      · (trivial)
      clear hK K hHeld
      have hHeld := hHeld'
      clear hHeld'
      simp only [List.set_cons_zero, List.set_cons_succ]
      refine tk 6 42 hHeld ?_
      refine tk 7 43 hHeld ?_
      refine tk 8 44 hHeld ?_
      refine bn 9 (fun K hK => ?_)
      go_simp
      first | refine hK.out undef _ ?_ (fun hHeld' => ?_) | refine hK.out _ _ ?_ (fun hHeld' => ?_)
      · (trivial)
      clear hK K hHeld
      have hHeld := hHeld'
      clear hHeld'
      try simp only [List.set_cons_zero, List.set_cons_succ]
      refine wpAnyH_done (by kernel_rfl) ?_ _
      refine NoPanic.normal ?_
      go_wp2_with fail
      have hw : IntKind.i64.wrap ((taken : Int) + ((n : Int) + 55) / 56) = ((taken + (n + 55) / 56 : Nat) : Int) := by
        rw [IntWalk.i64_in _ (by omega)]; omega
      rw [HRz.out, hw]
      have hl9 : LogAt (w4.setCell ⟨lb, 3, none⟩ (.int .i64 ((taken + (n + 55) / 56 : Nat) : Int))) lb p half turn (taken + (n + 55) / 56) := by
        have h := heap_set_same (j := 3) (.int .i64 ((taken + (n + 55) / 56 : Nat) : Int)) HL4.out
        exact h
      have hk9 : Kept (fun k => U k ∧ k ≠ lb) w w4 := ⟨HK4.out.os, HK4.out.tape, HK4.out.output, HK4.out.size, fun k hk => HK4.out.block k hk.1⟩
      exact ⟨rfl, (HD4.out.setj 3 _ hUl).below (Below.refl _ _).drew, hl9.below (Below.refl _ _).drew, (hk9.setCell (p := ⟨lb, 3, none⟩) (fun h => h.2 rfl) _).trans ⟨rfl, rfl, rfl, Nat.le_refl _, fun _ _ => rfl⟩⟩
    · go_simp
      (go_at_call 72; (with_reducible refine (needs_any (some ⟨g, o, none⟩) n c _ (by omega)).mono ?_))
      rintro e w6 ⟨rfl, rfl⟩
      refine hK.out _ _ ?_ (fun hHeld' => ?_)
      · (trivial)
      clear hK K hHeld
      have hHeld := hHeld'
      clear hHeld'
      simp only [List.set_cons_zero, List.set_cons_succ]
      refine bk 3 39 (fun K hK => ?_)
      go_simp
      refine hK.out _ _ ?_ (fun hHeld' => ?_)
      · (trivial)
      clear hK K hHeld
      have hHeld := hHeld'
      clear hHeld'
      simp only [List.set_cons_zero, List.set_cons_succ]
      refine tk 6 42 hHeld ?_
      refine tk 7 43 hHeld ?_
      refine tk 8 44 hHeld ?_
      refine bn 9 (fun K hK => ?_)
      go_simp
      first | refine hK.out undef _ ?_ (fun hHeld' => ?_) | refine hK.out _ _ ?_ (fun hHeld' => ?_)
      · (trivial)
      clear hK K hHeld
      have hHeld := hHeld'
      clear hHeld'
      try simp only [List.set_cons_zero, List.set_cons_succ]
      refine wpAnyH_done (by kernel_rfl) ?_ _
      refine NoPanic.normal ?_
      go_wp2_with fail
      have hw : IntKind.i64.wrap ((taken : Int) + ((n : Int) + 55) / 56) = ((taken + (n + 55) / 56 : Nat) : Int) := by
        rw [IntWalk.i64_in _ (by omega)]; omega
      rw [HRz.out, hw]
      have hl9 : LogAt (w4.setCell ⟨lb, 3, none⟩ (.int .i64 ((taken + (n + 55) / 56 : Nat) : Int))) lb p half turn (taken + (n + 55) / 56) := by
        have h := heap_set_same (j := 3) (.int .i64 ((taken + (n + 55) / 56 : Nat) : Int)) HL4.out
        exact h
      have hk9 : Kept (fun k => U k ∧ k ≠ lb) w w4 := ⟨HK4.out.os, HK4.out.tape, HK4.out.output, HK4.out.size, fun k hk => HK4.out.block k hk.1⟩
      exact ⟨rfl, (HD4.out.setj 3 _ hUl).below (Below.refl _ _).drew, hl9.below (Below.refl _ _).drew, (hk9.setCell (p := ⟨lb, 3, none⟩) (fun h => h.2 rfl) _).trans ⟨rfl, rfl, rfl, Nat.le_refl _, fun _ _ => rfl⟩⟩
  · have tz : ((en : Int) != 0) = true := by rw [bne_iff_ne]; omega
    have HRz : Hid (R = AddPost U p q lb half turn w (en, d7, taken)) := by
      show _ = _
      rw [HR.out, if_neg h0]
    clear h0
    go_wp2_with fail
    rw [HRz.out]
    have hk9 : Kept (fun k => U k ∧ k ≠ lb) w w4 := ⟨HK4.out.os, HK4.out.tape, HK4.out.output, HK4.out.size, fun k hk => HK4.out.block k hk.1⟩
    exact ⟨rfl, HD4.out, HL4.out, hk9⟩
end Go.Proofs.Ytcdgaeenfhpnkaa
