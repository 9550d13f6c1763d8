/- The document's log: Room, Add, Compact. -/
import Derived.Test.YtcdgaeenfhpnkaaPk44
set_option linter.unusedVariables false
set_option linter.unusedSimpArgs false
set_option maxRecDepth 100000
namespace Go.Proofs.Ytcdgaeenfhpnkaa.Cr
open Go Go.RowKit CrcMath
attribute [local go_sem] Oper.semAt_some

set_option maxHeartbeats 4000000 in
theorem rroom_any (lb p g half turn taken n : Nat) (U : Nat → Prop) (r : RD) (w : World) (h : HT w U p g r) (hl : RLogAt w lb p half turn taken) (hn : n = r.d.L.length / 2) (hn2 : n ≤ 128) (ht : taken ≤ 1000) :
    Calls Try.prog 89 #[.pointer (some ⟨lb, 0, none⟩)] w fun e w' => e = .returned (.int .i64 ((n : Int) - (taken : Int))) ∧ Below w.heap.size w w' := by
  have c0 := cell_of_row w lb 0 _ _ _ hl
  have c3 := cell_of_row w lb 3 _ _ _ hl
  simp at c0 c3
  have H := Lib.hid h
  have Hn := Lib.hid hn
  clear h hn
  go_enter Try.func89, Try.ntmps89
  go_wp2_with fail
  refine sk (fun w' => Below w.heap.size w w' ∧ w'.cell? ⟨lb, 0, none⟩ = some (.pointer (some ⟨p, 0, none⟩)) ∧ w'.cell? ⟨lb, 3, none⟩ = some (.int .i64 taken)) 11 ?_ (fun hHeld => ?_)
  · (first | exact ⟨(Below.refl _ _).drew, c0, c3⟩ | exact hHeld)
  refine tk 0 3 hHeld ?_
  refine tk 1 4 hHeld ?_
  refine tk 2 5 hHeld ?_
  refine tk 3 6 hHeld ?_
  refine tk 5 8 hHeld ?_
  refine tk 6 9 hHeld ?_
  refine tk 7 10 hHeld ?_
  refine tk 8 11 hHeld ?_
  refine bk 4 7 (fun K hK => ?_)
  go_simp
  (go_at_call 91; (with_reducible refine (rsize_n Hn.out (H.out.below (Below.refl _ _).drew)).mono ?_))
  rintro e w3 ⟨rfl, rfl⟩
  dsimp only
  refine hK.out _ _ ?_ (fun hHeld' => ?_)
  · (first | exact ⟨(Below.refl _ _).drew, c0, c3⟩ | exact hHeld)
  clear hK K hHeld
  have hHeld := hHeld'
  clear hHeld'
  simp only [List.set_cons_zero, List.set_cons_succ]
  refine tk 9 12 hHeld ?_
  refine tk 10 2 hHeld ?_
  refine wpAnyH_done (by kernel_rfl) ?_ _
  refine NoPanic.normal ?_
  have HW : Hid (Below w.heap.size w w.drew) := (Below.refl _ _).drew
  clear hHeld
  go_wp2_with fail
  go_ret
  refine ⟨?_, HW.out⟩
  show Ending.returned (.int .i64 (IntKind.i64.wrap _)) = _
  rw [IntWalk.i64_in _ (by omega)]
theorem needs_n {b : List Nat} {n : Nat} (h : b.length = n) : needsN b = (n + 55) / 56 := by unfold needsN; rw [h]
set_option maxHeartbeats 4000000 in
theorem radd_full (lb p g half turn taken n c : Nat) (U : Nat → Prop) (A : Option Addr) (r : RD) (w : World) (h : HT w U p g r) (hl : RLogAt w lb p half turn taken) (ht : taken ≤ 1000) (hn : 1 ≤ n ∧ n ≤ 448) (hf : r.d.L.length / 2 < taken + (n + 55) / 56) :
    Calls Try.prog 78 #[.pointer (some ⟨lb, 0, none⟩), .slice A n c] w fun e w' => e = .returned (.int .i64 5) ∧ Below w.heap.size w w' := by
  obtain ⟨m, hm⟩ : ∃ m, m = r.d.L.length / 2 := ⟨_, rfl⟩
  have hm2 : m ≤ 128 := by have := h.ok.2.1; omega
  obtain ⟨sn, hsn⟩ : ∃ sn, sn = (n + 55) / 56 := ⟨_, rfl⟩
  have y1 : (m : Int) - (taken : Int) < (sn : Int) := by omega
  have z1 : ((n : Int) == 0) = false := beq_eq_false_iff_ne.2 (by omega)
  have z2 : decide ((448 : Int) < (n : Int)) = false := decide_eq_false (by omega)
  have H := Lib.hid h
  have Hl := Lib.hid hl
  have Hm := Lib.hid hm
  have Hsn := Lib.hid hsn
  clear h hl hm hsn hf
  go_enter Try.func78, Try.ntmps78
  go_wp2_with (first
    | (go_at_call 88; (with_reducible refine (sectors_any _ n c _ (by omega)).mono ?_)
       rintro e w2 ⟨rfl, hw2⟩
       obtain rfl := hw2.symm
       rw [← Hsn.out])
    | (go_at_call 89; (with_reducible refine (rroom_any lb p g half turn taken m U r _ H.out Hl.out Hm.out hm2 ht).mono ?_)
       rintro e w2 ⟨rfl, hb2⟩
       have HB2 := Lib.hid hb2
       clear hb2))
  go_ret
  exact ⟨rfl, HB2.out⟩
def RAddP (p g lb half turn taken : Nat) (x : Nat × RD) (w : World) (e : Ending) (w' : World) : Prop :=
  e = .returned (.int .i64 x.1) ∧ HT w' (Off2 w' p g) p g x.2 ∧ RLogAt w' lb p half turn taken ∧ Chg (X3 p g lb) w w'
set_option maxHeartbeats 8000000 in
theorem radd_go (lb p g half turn taken n c base en : Nat) (A : Option Addr) (b : List Nat) (r r7 : RD) (w : World) (h : HT w (Off2 w p g) p g r) (hl : RLogAt w lb p half turn taken) (hh : half ≤ 1) (ht : taken ≤ 1000) (htu : turn < 65536) (hf : ¬ r.d.L.length / 2 < taken + (n + 55) / 56)
    (ho : w.ownsRow base 5 1 (.slice A n c) n (b.map bv)) (hb : fineB b) (hw8 : r.d.writes + 8 < 1000000) (hwr : wrR (half * (r.d.L.length / 2) + taken) turn b r (List.range (needsN b)) = (en, r7)) :
    Calls Try.prog 78 #[.pointer (some ⟨lb, 0, none⟩), .slice A n c] w (RAddP p g lb half turn (if en = 0 then taken + (n + 55) / 56 else taken) (en, r7) w) := by
  have hbl : b.length = n := by have := own_len ho; rw [List.length_map] at this; omega
  have hn : 1 ≤ n ∧ n ≤ 448 := by have := hb.1; have := hb.2.1; omega
  obtain ⟨m, hm⟩ : ∃ m, m = r.d.L.length / 2 := ⟨_, rfl⟩
  have hm2 : m ≤ 128 := by have := h.ok.2.1; omega
  obtain ⟨sn, hsn⟩ : ∃ sn, sn = (n + 55) / 56 := ⟨_, rfl⟩
  have hsn8 : sn ≤ 8 := by omega
  have y1 : ¬ (m : Int) - (taken : Int) < (sn : Int) := by omega
  have z1 : ((n : Int) == 0) = false := beq_eq_false_iff_ne.2 (by omega)
  have z2 : decide ((448 : Int) < (n : Int)) = false := decide_eq_false (by omega)
  have hfit : half * (r.d.L.length / 2) + taken + needsN b ≤ r.d.L.length := by
    rw [needs_n hbl, ← hsn, ← hm]
    have := half_two (S := m) hh
    omega
  obtain ⟨R, hR⟩ : ∃ R, R = RAddP p g lb half turn (if en = 0 then taken + (n + 55) / 56 else taken) (en, r7) w := ⟨_, rfl⟩
  rw [← hR]
  rw [← hsn] at hR
  have HR := Lib.hid hR
  have H := Lib.hid h
  have Hl := Lib.hid hl
  have Hm := Lib.hid hm
  have Hsn := Lib.hid hsn
  have Ho := Lib.hid ho
  have Hb := Lib.hid hb
  have Hwr := Lib.hid hwr
  have Hfit := Lib.hid hfit
  clear h hl hm hsn hf hR ho hb hwr hfit
  go_enter Try.func78, Try.ntmps78
  go_wp2_with (first
    | (go_at_call 88; (with_reducible refine (sectors_any _ n c _ (by omega)).mono ?_)
       rintro e w2 ⟨rfl, hw2⟩
       obtain rfl := hw2.symm
       rw [← Hsn.out])
    | (go_at_call 89; (with_reducible refine (rroom_any lb p g half turn taken m _ r _ H.out Hl.out Hm.out hm2 ht).mono ?_)
       rintro e w2 ⟨rfl, hb2⟩
       have HB2 := Lib.hid hb2
       clear hb2))
  have hl2 := Hl.out.below HB2.out
  have c1 := cell_of_row w2 lb 1 _ _ _ hl2
  have c2 := cell_of_row w2 lb 2 _ _ _ hl2
  have c3 := cell_of_row w2 lb 3 _ _ _ hl2
  simp at c1 c2 c3
  have HBd : Hid (Below w.heap.size w w2.drew) := HB2.out.drew
  clear hl2 y1
  refine sk (fun w' => w'.cell? ⟨lb, 1, none⟩ = some (.int .i64 half) ∧ w'.cell? ⟨lb, 2, none⟩ = some (.int .i64 turn) ∧ w'.cell? ⟨lb, 3, none⟩ = some (.int .i64 taken)) 16 ?_ (fun hHeld => ?_)
  · (first | exact ⟨c1, c2, c3⟩ | exact hHeld | exact HSw.out)
  refine tk 0 19 hHeld ?_
  refine tk 1 20 hHeld ?_
  refine tk 2 21 hHeld ?_
  refine tk 3 22 hHeld ?_
  refine tk 4 23 hHeld ?_
  refine tk 5 24 hHeld ?_
  refine tk 6 25 hHeld ?_
  refine tk 7 26 hHeld ?_
  refine tk 8 27 hHeld ?_
  refine tk 9 28 hHeld ?_
  refine tk 10 29 hHeld ?_
  refine tk 11 30 hHeld ?_
  refine tk 12 31 hHeld ?_
  refine tk 13 32 hHeld ?_
  refine bk 14 33 (fun K hK => ?_)
  go_simp
  have hcall := rwr_any lb p g half taken turn n c base _ A b r w2.drew (half, turn, taken) ((H.out.below HBd.out).off) (Hl.out.below HBd.out) hh rfl Hfit.out htu (own_below Ho.out HBd.out) Hb.out hw8
  rw [Hwr.out] at hcall
  (go_at_call 90; (with_reducible refine hcall.mono ?_))
  clear hcall
  rintro e w4 ⟨rfl, ht4, hc4⟩
  have hl4 : RLogAt w4 lb p half turn taken := (hc4.at_ (Hl.out.below HBd.out).lt ((H.out.below HBd.out).lne (Hl.out.below HBd.out))).trans (Hl.out.below HBd.out)
  have z3 := cell_of_row w4 lb 1 _ _ _ hl4
  have z4 := cell_of_row w4 lb 2 _ _ _ hl4
  have z5 := cell_of_row w4 lb 3 _ _ _ hl4
  have f3 := frozen_of_row w4 lb 3 _ _ hl4
  simp at z3 z4 z5
  have HSw : Hid (w4.cell? ⟨lb, 1, none⟩ = some (.int .i64 half) ∧ w4.cell? ⟨lb, 2, none⟩ = some (.int .i64 turn) ∧ w4.cell? ⟨lb, 3, none⟩ = some (.int .i64 taken)) := ⟨z3, z4, z5⟩
  have HL4 := Lib.hid hl4
  have HT4 := Lib.hid ht4
  have HC4 : Hid (Chg (X3 p g lb) w w4) := (Chg.of HBd.out).trans (hc4.mono (fun k hk => by rcases hk with e | e; exact .inl e; exact .inr (.inl e)))
  clear hl4 ht4 hc4 z3 z4
  dsimp only
  refine hK.out _ _ ?_ (fun hHeld' => ?_)
  · (first | exact ⟨c1, c2, c3⟩ | exact hHeld | exact HSw.out)
  clear hK K hHeld
  have hHeld := hHeld'
  clear hHeld'
  simp only [List.set_cons_zero, List.set_cons_succ]
  refine tk 15 5 hHeld ?_
  refine wpAnyH_done (by kernel_rfl) ?_ _
  refine NoPanic.normal ?_
  clear hHeld
  by_cases h0 : en = 0
  · have tz : ((en : Int) == 0) = true := by rw [h0]; rfl
    have HRz : Hid (R = RAddP p g lb half turn (taken + sn) (0, r7) w) := by
      show _ = _
      rw [HR.out, if_pos h0, h0]
    have Hen := Lib.hid h0
    clear h0
    go_wp2_with fail
    refine sk (fun _ => True) 11 ?_ (fun hHeld => ?_)
    · (trivial)
    refine tk 0 36 hHeld ?_
    refine tk 1 37 hHeld ?_
    refine tk 2 38 hHeld ?_
    refine tk 3 39 hHeld ?_
    refine tk 5 41 hHeld ?_
    refine wpAnyH_ready (rs := [4, 6]) (by kernel_rfl) (by simp) ?_
    refine (consH 4 40 #[true, true, true, true, true, true, false, false, false, false, false] rfl rfl rfl (by rfl) (fun K hK => ?_) (consH 6 42 #[true, true, true, true, false, true, true, false, false, false, false] rfl rfl rfl (by rfl) (fun K hK => ?_) AllReadyH.nil))
    · go_simp
      refine hK.out _ _ ?_ (fun hHeld' => ?_)
      · (trivial)
      clear hK K hHeld
      have hHeld := hHeld'
      clear hHeld'
      simp only [List.set_cons_zero, List.set_cons_succ]
      refine bk 6 42 (fun K hK => ?_)
      go_simp
      (go_at_call 88; (with_reducible refine (sectors_any _ n c _ (by omega)).mono ?_))
      rintro e w6 ⟨rfl, rfl⟩
      rw [← Hsn.out]
      refine hK.out _ _ ?_ (fun hHeld' => ?_)
      · (trivial)
      clear hK K hHeld
      have hHeld := hHeld'
      clear hHeld'
      simp only [List.set_cons_zero, List.set_cons_succ]
      refine tk 7 43 hHeld ?_
      refine tk 8 44 hHeld ?_
      refine tk 9 45 hHeld ?_
      refine bn 10 (fun K hK => ?_)
      go_simp
      first | refine hK.out undef _ ?_ (fun hHeld' => ?_) | refine hK.out _ _ ?_ (fun hHeld' => ?_)
      · (trivial)
      clear hK K hHeld
      have hHeld := hHeld'
      clear hHeld'
      try simp only [List.set_cons_zero, List.set_cons_succ]
      refine wpAnyH_done (by kernel_rfl) ?_ _
      refine NoPanic.normal ?_
      go_wp2_with fail
      rw [HRz.out, Hen.out]
      have hw : IntKind.i64.wrap ((taken : Int) + (sn : Int)) = ((taken + sn : Nat) : Int) := by
        rw [IntWalk.i64_in _ (by omega)]; omega
      rw [hw]
      have hl9 : RLogAt (w4.setCell ⟨lb, 3, none⟩ (.int .i64 ((taken + sn : Nat) : Int))) lb p half turn (taken + sn) := by
        have h := heap_set_same (j := 3) (.int .i64 ((taken + sn : Nat) : Int)) HL4.out
        exact h
      have hd := (Below.refl (w4.setCell ⟨lb, 3, none⟩ (.int .i64 ((taken + sn : Nat) : Int))).heap.size (w4.setCell ⟨lb, 3, none⟩ (.int .i64 ((taken + sn : Nat) : Int)))).drew
      exact ⟨rfl, ((HT4.out.set HL4.out (by decide) 3 _).below hd).off, hl9.below hd, (chg_set HC4.out (.inr (.inr rfl))).trans (Chg.of hd)⟩
    · go_simp
      (go_at_call 88; (with_reducible refine (sectors_any _ n c _ (by omega)).mono ?_))
      rintro e w6 ⟨rfl, rfl⟩
      rw [← Hsn.out]
      refine hK.out _ _ ?_ (fun hHeld' => ?_)
      · (trivial)
      clear hK K hHeld
      have hHeld := hHeld'
      clear hHeld'
      simp only [List.set_cons_zero, List.set_cons_succ]
      refine bk 4 40 (fun K hK => ?_)
      go_simp
      refine hK.out _ _ ?_ (fun hHeld' => ?_)
      · (trivial)
      clear hK K hHeld
      have hHeld := hHeld'
      clear hHeld'
      simp only [List.set_cons_zero, List.set_cons_succ]
      refine tk 7 43 hHeld ?_
      refine tk 8 44 hHeld ?_
      refine tk 9 45 hHeld ?_
      refine bn 10 (fun K hK => ?_)
      go_simp
      first | refine hK.out undef _ ?_ (fun hHeld' => ?_) | refine hK.out _ _ ?_ (fun hHeld' => ?_)
      · (trivial)
      clear hK K hHeld
      have hHeld := hHeld'
      clear hHeld'
      try simp only [List.set_cons_zero, List.set_cons_succ]
      refine wpAnyH_done (by kernel_rfl) ?_ _
      refine NoPanic.normal ?_
      go_wp2_with fail
      rw [HRz.out, Hen.out]
      have hw : IntKind.i64.wrap ((taken : Int) + (sn : Int)) = ((taken + sn : Nat) : Int) := by
        rw [IntWalk.i64_in _ (by omega)]; omega
      rw [hw]
      have hl9 : RLogAt (w4.setCell ⟨lb, 3, none⟩ (.int .i64 ((taken + sn : Nat) : Int))) lb p half turn (taken + sn) := by
        have h := heap_set_same (j := 3) (.int .i64 ((taken + sn : Nat) : Int)) HL4.out
        exact h
      have hd := (Below.refl (w4.setCell ⟨lb, 3, none⟩ (.int .i64 ((taken + sn : Nat) : Int))).heap.size (w4.setCell ⟨lb, 3, none⟩ (.int .i64 ((taken + sn : Nat) : Int)))).drew
      exact ⟨rfl, ((HT4.out.set HL4.out (by decide) 3 _).below hd).off, hl9.below hd, (chg_set HC4.out (.inr (.inr rfl))).trans (Chg.of hd)⟩
  · have tz : ((en : Int) == 0) = false := beq_eq_false_iff_ne.2 (by omega)
    have HRz : Hid (R = RAddP p g lb half turn taken (en, r7) w) := by
      show _ = _
      rw [HR.out, if_neg h0]
    clear h0
    go_wp2_with fail
    rw [HRz.out]
    exact ⟨rfl, HT4.out, HL4.out, HC4.out⟩
set_option maxHeartbeats 4000000 in
theorem rcomp_full (lb p g half turn taken n c : Nat) (U : Nat → Prop) (A : Option Addr) (r : RD) (w : World) (h : HT w U p g r) (hl : RLogAt w lb p half turn taken) (hn : 1 ≤ n ∧ n ≤ 448) (hf : r.d.L.length / 2 < (n + 55) / 56) :
    Calls Try.prog 79 #[.pointer (some ⟨lb, 0, none⟩), .slice A n c] w fun e w' => e = .returned (.int .i64 5) ∧ Below w.heap.size w w' := by
  obtain ⟨m, hm⟩ : ∃ m, m = r.d.L.length / 2 := ⟨_, rfl⟩
  have hm2 : m ≤ 128 := by have := h.ok.2.1; omega
  obtain ⟨sn, hsn⟩ : ∃ sn, sn = (n + 55) / 56 := ⟨_, rfl⟩
  have y0 : m < sn := by omega
  have y1 : (m : Int) < (sn : Int) := by omega
  have z1 : ((n : Int) == 0) = false := beq_eq_false_iff_ne.2 (by omega)
  have z2 : decide ((448 : Int) < (n : Int)) = false := decide_eq_false (by omega)
  have c0 := cell_of_row w lb 0 _ _ _ hl
  simp at c0
  have H := Lib.hid h
  have Hl := Lib.hid hl
  have Hm := Lib.hid hm
  have Hsn := Lib.hid hsn
  have HW : Hid (Below w.heap.size w w.drew) := (Below.refl _ _).drew
  clear h hl hm hsn hf
  go_enter Try.func79, Try.ntmps79
  go_wp2_with fail
  refine sk (fun w' => w'.cell? ⟨lb, 0, none⟩ = some (.pointer (some ⟨p, 0, none⟩))) 15 ?_ (fun hHeld => ?_)
  · (first | exact c0 | exact hHeld)
  refine tk 0 14 hHeld ?_
  refine tk 2 16 hHeld ?_
  refine tk 3 17 hHeld ?_
  refine tk 4 18 hHeld ?_
  refine tk 5 19 hHeld ?_
  refine bk 1 15 (fun K hK => ?_)
  go_simp
  (go_at_call 88; (with_reducible refine (sectors_any _ n c _ (by omega)).mono ?_))
  rw [← Hsn.out]
  rintro e w6 ⟨rfl, rfl⟩
  dsimp only
  refine hK.out _ _ ?_ (fun hHeld' => ?_)
  · (first | exact c0 | exact hHeld)
  clear hK K hHeld
  have hHeld := hHeld'
  clear hHeld'
  simp only [List.set_cons_zero, List.set_cons_succ]
  refine bk 6 20 (fun K hK => ?_)
  go_simp
  (go_at_call 91; (with_reducible refine (rsize_n Hm.out (H.out.below (Below.refl _ _).drew)).mono ?_))
  rintro e w3 ⟨rfl, rfl⟩
  dsimp only
  refine hK.out _ _ ?_ (fun hHeld' => ?_)
  · (first | exact c0 | exact hHeld)
  clear hK K hHeld
  have hHeld := hHeld'
  clear hHeld'
  simp only [List.set_cons_zero, List.set_cons_succ]
  refine tk 7 21 hHeld ?_
  refine tk 8 22 hHeld ?_
  refine tn 9 23 hHeld ?_
  refine tn 10 24 hHeld ?_
  refine tn 11 25 hHeld ?_
  refine tn 12 26 hHeld ?_
  refine tn 13 27 hHeld ?_
  refine tk 14 28 hHeld ?_
  refine wpAnyH_done (by kernel_rfl) ?_ _
  refine NoPanic.normal ?_
  clear hHeld
  go_wp2_with fail
  go_ret
  exact ⟨rfl, HW.out⟩
set_option maxHeartbeats 8000000 in
theorem rcomp_go (lb p g half turn taken n c base en : Nat) (A : Option Addr) (b : List Nat) (r r7 : RD) (w : World) (h : HT w (Off2 w p g) p g r) (hl : RLogAt w lb p half turn taken) (hh : half ≤ 1) (htu : turn < 65535) (hf : ¬ r.d.L.length / 2 < (n + 55) / 56)
    (ho : w.ownsRow base 5 1 (.slice A n c) n (b.map bv)) (hb : fineB b) (hw8 : r.d.writes + 8 < 1000000) (hwr : wrR ((1 - half) * (r.d.L.length / 2)) (turn + 1) b r (List.range (needsN b)) = (en, r7)) :
    Calls Try.prog 79 #[.pointer (some ⟨lb, 0, none⟩), .slice A n c] w (RAddP p g lb (if en = 0 then 1 - half else half) (if en = 0 then turn + 1 else turn) (if en = 0 then (n + 55) / 56 else taken) (en, r7) w) := by
  have hbl : b.length = n := by have := own_len ho; rw [List.length_map] at this; omega
  have hn : 1 ≤ n ∧ n ≤ 448 := by have := hb.1; have := hb.2.1; omega
  obtain ⟨m, hm⟩ : ∃ m, m = r.d.L.length / 2 := ⟨_, rfl⟩
  have hm2 : m ≤ 128 := by have := h.ok.2.1; omega
  obtain ⟨sn, hsn⟩ : ∃ sn, sn = (n + 55) / 56 := ⟨_, rfl⟩
  have hsn8 : sn ≤ 8 := by omega
  have y0 : ¬ m < sn := by omega
  have y1 : ¬ (m : Int) < (sn : Int) := by omega
  have y2 : decide ((65535 : Int) ≤ (turn : Int)) = false := decide_eq_false (by omega)
  have Htu := Lib.hid htu
  have z1 : ((n : Int) == 0) = false := beq_eq_false_iff_ne.2 (by omega)
  have z2 : decide ((448 : Int) < (n : Int)) = false := decide_eq_false (by omega)
  obtain ⟨ot, hot⟩ : ∃ ot, ot = 1 - half := ⟨_, rfl⟩
  have hot1 : ot ≤ 1 := by omega
  have hotI : (1 : Int) - (half : Int) = (ot : Int) := by omega
  have hfit : ot * (r.d.L.length / 2) + 0 + needsN b ≤ r.d.L.length := by
    rw [needs_n hbl, ← hsn, ← hm]
    have := half_two (S := m) hot1
    omega
  obtain ⟨R, hR⟩ : ∃ R, R = RAddP p g lb (if en = 0 then 1 - half else half) (if en = 0 then turn + 1 else turn) (if en = 0 then (n + 55) / 56 else taken) (en, r7) w := ⟨_, rfl⟩
  rw [← hR]
  rw [← hsn, ← hot] at hR
  rw [← hot] at hwr
  have c0 := cell_of_row w lb 0 _ _ _ hl
  have c1 := cell_of_row w lb 1 _ _ _ hl
  have c2 := cell_of_row w lb 2 _ _ _ hl
  simp at c0 c1 c2
  have HR := Lib.hid hR
  have H := Lib.hid h
  have Hl := Lib.hid hl
  have Hm := Lib.hid hm
  have Hsn := Lib.hid hsn
  have Ho := Lib.hid ho
  have Hb := Lib.hid hb
  have Hwr := Lib.hid hwr
  have Hfit := Lib.hid hfit
  have HBd : Hid (Below w.heap.size w w.drew.drew) := ((Below.refl _ _).drew).drew
  have Hot := Lib.hid hotI
  clear h hl hm hsn hf hR ho hb hwr hfit hot hotI htu
  go_enter Try.func79, Try.ntmps79
  go_wp2_with fail
  refine sk (fun w' => w'.cell? ⟨lb, 0, none⟩ = some (.pointer (some ⟨p, 0, none⟩)) ∧ w'.cell? ⟨lb, 1, none⟩ = some (.int .i64 half) ∧ w'.cell? ⟨lb, 2, none⟩ = some (.int .i64 turn)) 15 ?_ (fun hHeld => ?_)
  · (first | exact ⟨c0, c1, c2⟩ | exact hHeld)
  refine tk 0 14 hHeld ?_
  refine tk 2 16 hHeld ?_
  refine tk 3 17 hHeld ?_
  refine tk 4 18 hHeld ?_
  refine tk 5 19 hHeld ?_
  refine bk 1 15 (fun K hK => ?_)
  go_simp
  (go_at_call 88; (with_reducible refine (sectors_any _ n c _ (by omega)).mono ?_))
  rw [← Hsn.out]
  rintro e w6 ⟨rfl, rfl⟩
  dsimp only
  refine hK.out _ _ ?_ (fun hHeld' => ?_)
  · (first | exact ⟨c0, c1, c2⟩ | exact hHeld)
  clear hK K hHeld
  have hHeld := hHeld'
  clear hHeld'
  simp only [List.set_cons_zero, List.set_cons_succ]
  refine bk 6 20 (fun K hK => ?_)
  go_simp
  (go_at_call 91; (with_reducible refine (rsize_n Hm.out (H.out.below (Below.refl _ _).drew)).mono ?_))
  rintro e w3 ⟨rfl, rfl⟩
  dsimp only
  refine hK.out _ _ ?_ (fun hHeld' => ?_)
  · (first | exact ⟨c0, c1, c2⟩ | exact hHeld)
  clear hK K hHeld
  have hHeld := hHeld'
  clear hHeld'
  simp only [List.set_cons_zero, List.set_cons_succ]
  refine tk 7 21 hHeld ?_
  refine tk 8 22 hHeld ?_
  refine tk 9 23 hHeld ?_
  refine tk 10 24 hHeld ?_
  refine tk 11 25 hHeld ?_
  refine tk 12 26 hHeld ?_
  refine tk 13 27 hHeld ?_
  refine tk 14 28 hHeld ?_
  refine wpAnyH_done (by kernel_rfl) ?_ _
  refine NoPanic.normal ?_
  clear hHeld
  go_wp2_with fail
  refine sk (fun w' => w'.cell? ⟨lb, 1, none⟩ = some (.int .i64 half) ∧ w'.cell? ⟨lb, 2, none⟩ = some (.int .i64 turn)) 14 ?_ (fun hHeld => ?_)
  · (first | exact ⟨c1, c2⟩ | exact hHeld | exact HSw.out)
  refine tk 0 29 hHeld ?_
  refine tk 1 30 hHeld ?_
  refine tk 2 31 hHeld ?_
  refine tk 3 32 hHeld ?_
  refine tk 4 33 hHeld ?_
  refine tk 5 34 hHeld ?_
  refine tk 6 35 hHeld ?_
  refine tk 7 36 hHeld ?_
  refine tk 8 37 hHeld ?_
  refine tk 9 38 hHeld ?_
  refine tk 10 39 hHeld ?_
  refine tk 11 40 hHeld ?_
  refine bk 12 41 (fun K hK => ?_)
  go_simp
  have hcall : Calls Try.prog 90 #[.pointer (some ⟨lb, 0, none⟩), .int .i64 (IntKind.i64.wrap (1 - (half : Int))), .int .i64 0, .int .i64 (IntKind.i64.wrap ((turn : Int) + 1)), .slice A n c] w.drew.drew fun e w' => e = .returned (.int .i64 en) ∧ HT w' (Off2 w' p g) p g r7 ∧ Chg (X2 p g) w.drew.drew w' := by
    have htu := Htu.out
    have e1 : IntKind.i64.wrap (1 - (half : Int)) = (ot : Int) := by rw [Hot.out]; exact IntWalk.i64_in _ (by omega)
    have e2 : IntKind.i64.wrap ((turn : Int) + 1) = ((turn + 1 : Nat) : Int) := by rw [IntWalk.i64_in _ (by omega)]; omega
    rw [e1, e2]
    have h := rwr_any lb p g ot 0 (turn + 1) n c base (ot * (r.d.L.length / 2)) A b r w.drew.drew (half, turn, taken) ((H.out.below HBd.out).off) (Hl.out.below HBd.out) hot1 (by omega) (by have := Hfit.out; omega) (by omega) (own_below Ho.out HBd.out) Hb.out hw8
    rw [Hwr.out] at h
    exact h
  (go_at_call 90; (with_reducible refine hcall.mono ?_))
  clear hcall
  rintro e w4 ⟨rfl, ht4, hc4⟩
  have hl4 : RLogAt w4 lb p half turn taken := (hc4.at_ (Hl.out.below HBd.out).lt ((H.out.below HBd.out).lne (Hl.out.below HBd.out))).trans (Hl.out.below HBd.out)
  have z3 := cell_of_row w4 lb 1 _ _ _ hl4
  have z4 := cell_of_row w4 lb 2 _ _ _ hl4
  have z5 := cell_of_row w4 lb 3 _ _ _ hl4
  have f1 := frozen_of_row w4 lb 1 _ _ hl4
  have f2 := frozen_of_row w4 lb 2 _ _ hl4
  have f3 := frozen_of_row w4 lb 3 _ _ hl4
  simp at z3 z4 z5
  have HSw : Hid (w4.cell? ⟨lb, 1, none⟩ = some (.int .i64 half) ∧ w4.cell? ⟨lb, 2, none⟩ = some (.int .i64 turn)) := ⟨z3, z4⟩
  have HL4 := Lib.hid hl4
  have HT4 := Lib.hid ht4
  have HC4 : Hid (Chg (X3 p g lb) w w4) := (Chg.of HBd.out).trans (hc4.mono (fun k hk => by rcases hk with e | e; exact .inl e; exact .inr (.inl e)))
  clear hl4 ht4 hc4
  dsimp only
  refine hK.out _ _ ?_ (fun hHeld' => ?_)
  · (first | exact ⟨c1, c2⟩ | exact hHeld | exact HSw.out)
  clear hK K hHeld
  have hHeld := hHeld'
  clear hHeld'
  simp only [List.set_cons_zero, List.set_cons_succ]
  refine tk 13 5 hHeld ?_
  refine wpAnyH_done (by kernel_rfl) ?_ _
  refine NoPanic.normal ?_
  clear hHeld
  by_cases h0 : en = 0
  · have tz : ((en : Int) == 0) = true := by rw [h0]; rfl
    have HRz : Hid (R = RAddP p g lb ot (turn + 1) sn (0, r7) w) := by
      show _ = _
      rw [HR.out, if_pos h0, if_pos h0, if_pos h0, h0]
    have Hen := Lib.hid h0
    clear h0
    go_wp2_with (first
      | (go_at_call 88; (with_reducible refine (sectors_any _ n c _ (by omega)).mono ?_)
         rintro e w6 ⟨rfl, hw6⟩
         obtain rfl := hw6.symm
         rw [← Hsn.out]))
    rw [HRz.out, Hen.out]
    have htu := Htu.out
    have e1 : (1 : Int) - (half : Int) = (ot : Int) := Hot.out
    have e2 : wrap64 ((turn : Int) + 1) = ((turn + 1 : Nat) : Int) := by
      rw [IntWalk.wrap64_in _ (by omega)]; omega
    rw [e1, e2]
    have hl9 : RLogAt (((w4.setCell ⟨lb, 1, none⟩ (.int .i64 (ot : Int))).setCell ⟨lb, 2, none⟩ (.int .i64 ((turn + 1 : Nat) : Int))).setCell ⟨lb, 3, none⟩ (.int .i64 (sn : Int))) lb p ot (turn + 1) sn :=
      heap_set_same (j := 3) _ (heap_set_same (j := 2) _ (heap_set_same (j := 1) _ HL4.out))
    exact ⟨rfl, ((HT4.out.set HL4.out (by decide) 1 _).set (heap_set_same (j := 1) _ HL4.out) (by decide) 2 _).set (heap_set_same (j := 2) _ (heap_set_same (j := 1) _ HL4.out)) (by decide) 3 _, hl9, chg_set (chg_set (chg_set HC4.out (.inr (.inr rfl))) (.inr (.inr rfl))) (.inr (.inr rfl))⟩
  · have tz : ((en : Int) == 0) = false := beq_eq_false_iff_ne.2 (by omega)
    have HRz : Hid (R = RAddP p g lb half turn taken (en, r7) w) := by
      show _ = _
      rw [HR.out, if_neg h0, if_neg h0, if_neg h0]
    clear h0
    go_wp2_with fail
    rw [HRz.out]
    exact ⟨rfl, HT4.out, HL4.out, HC4.out⟩
end Go.Proofs.Ytcdgaeenfhpnkaa.Cr
