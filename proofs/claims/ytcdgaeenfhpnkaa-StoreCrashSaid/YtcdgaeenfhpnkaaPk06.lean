/- Package log: tell. -/
import Derived.Test.YtcdgaeenfhpnkaaPk05
import Derived.IntWalk
set_option linter.unusedVariables false
set_option linter.unusedSimpArgs false
set_option maxRecDepth 100000
namespace Go.Proofs.Ytcdgaeenfhpnkaa
open Go Go.RowKit CrcMath

theorem Rd.mid {w : World} {B b o n : Nat} {l : List Nat} (h : Rd w B 1 (some ⟨b, o, none⟩) n (l.map bv)) (a m : Nat) (hm : a + m ≤ n) : Rd w B 1 (some ⟨b, o + a, none⟩) m (((l.drop a).take m).map bv) := by
  have hl : l.length = n := by have := h.1; simpa using this
  refine ⟨by simp; omega, fun hpos => ?_⟩
  obtain ⟨b', o', e, hb, hc⟩ := h.2 (by omega)
  injection e with e
  injection e with e1 e2
  subst e1 e2
  refine ⟨b, o + a, rfl, hb, fun j u hu => ?_⟩
  rw [List.getElem?_map, List.getElem?_take] at hu
  split at hu
  · rw [List.getElem?_drop] at hu
    have := hc (a + j) u (by rw [List.getElem?_map]; exact hu)
    rwa [← Nat.add_assoc] at this
  · simp at hu
theorem Rd.kept {U : Nat → Prop} {w w' : World} {B b o n : Nat} {xs : List Value} (h : Rd w B 1 (some ⟨b, o, none⟩) n xs) (hk : Kept U w w') (hb : U b) : Rd w' B 1 (some ⟨b, o, none⟩) n xs :=
  ⟨h.1, fun hn => by
    obtain ⟨b', o', e, hlt, hc⟩ := h.2 hn
    have e' := e
    injection e' with e'
    injection e' with e1 e2
    subst e1 e2
    exact ⟨b, o, rfl, hlt, fun j u hu => (World.cell?_of_block (hk.block b hb)).trans (hc j u hu)⟩⟩
def pcV (p : Pc) (g : Nat) (c : Nat) : Value := .agg #[.int .i64 p.turn, .int .i64 p.which, .int .i64 p.of_, .slice (some ⟨g, 6, none⟩) p.bytes.length c]
def pc0 : Value := .agg #[.int .i64 0, .int .i64 0, .int .i64 0, .slice none 0 0]
def TellPost (w : World) (s : List Nat) (e : Ending) (w' : World) : Prop :=
  Below w.heap.size w w' ∧
  ((tellF s = none ∧ e = .returned (.tuple #[pc0, .bool false])) ∨
   (∃ p g c, tellF s = some p ∧ e = .returned (.tuple #[pcV p g c, .bool true]) ∧ w.heap.size ≤ g ∧ Rd w' w'.heap.size 1 (some ⟨g, 6, none⟩) p.bytes.length (p.bytes.map bv)))
theorem tell_no (w w' : World) (s : List Nat) (hb : Below w.heap.size w w') (h : tellF s = none) : TellPost w s (.returned (.tuple #[pc0, .bool false])) w' := ⟨hb, .inl ⟨h, rfl⟩⟩

set_option maxHeartbeats 4000000 in
theorem tell_87 (A : Option Addr) (n c B : Nat) (s : List Nat) (w : World) (hr : Rd w B 1 A n (s.map bv)) (hB : B ≤ w.heap.size) (hb : ∀ c ∈ s, c < 256) (hn : n = 64) (hc : n ≤ c) (ho : opens s = true) (b0 b1 b2 b3 b4 b5 : Nat) (hb0 : b0 = (s.take 62).getD 0 0) (hb1 : b1 = (s.take 62).getD 1 0) (hb2 : b2 = (s.take 62).getD 2 0) (hb3 : b3 = (s.take 62).getD 3 0) (hb4 : b4 = (s.take 62).getD 4 0) (hb5 : b5 = (s.take 62).getD 5 0) (h87 : ¬ b0 = 87) :
    Calls Try.prog 94 #[.slice A n c] w (TellPost w s) := by
  subst hn
  have hl : s.length = 64 := by have := hr.1; simpa using this
  obtain ⟨i0, hi, hz0, hz1, hz2⟩ := info_parts info_u8
  obtain ⟨b, hbe⟩ : ∃ b, b = s.take 62 := ⟨_, rfl⟩
  have hbl : b.length = 62 := by rw [hbe, List.length_take, hl]; rfl
  have hb256 : ∀ x ∈ b, x < 256 := fun x hx => hb x (List.mem_of_mem_take (by rw [← hbe]; exact hx))
  have HT : Hid (tellF s = tellB b) := by show _ = _; rw [tellF, if_pos ho, hbe]
  replace hb0 : b0 = b.getD 0 0 := by rw [hb0, hbe]
  replace hb1 : b1 = b.getD 1 0 := by rw [hb1, hbe]
  replace hb2 : b2 = b.getD 2 0 := by rw [hb2, hbe]
  replace hb3 : b3 = b.getD 3 0 := by rw [hb3, hbe]
  replace hb4 : b4 = b.getD 4 0 := by rw [hb4, hbe]
  replace hb5 : b5 = b.getD 5 0 := by rw [hb5, hbe]
  have Ho := Lib.hid ho
  have Hbl := Lib.hid hbl
  have Hbe := Lib.hid hbe
  have Hl := Lib.hid hl
  have nth : ∀ i, i < 62 → (b.map bv)[i]? = some (.int .u8 ((b.getD i 0 : Nat) : Int)) := fun i hi => by
    rw [List.getElem?_map, List.getD_eq_getElem?_getD, List.getElem?_eq_getElem (by omega)]; rfl
  have lt : ∀ i, b.getD i 0 < 256 := fun i => by
    rw [List.getD_eq_getElem?_getD]
    cases h : b[i]? with
    | none => show 0 < 256; omega
    | some x => exact hb256 x (List.mem_of_getElem? h)
  have e0 := Lib.hid (nth 0 (by omega))
  have e1 := Lib.hid (nth 1 (by omega))
  have e2 := Lib.hid (nth 2 (by omega))
  have e3 := Lib.hid (nth 3 (by omega))
  have e4 := Lib.hid (nth 4 (by omega))
  have e5 := Lib.hid (nth 5 (by omega))
  have l0 := lt 0
  have l1 := lt 1
  have l2 := lt 2
  have l3 := lt 3
  have l4 := lt 4
  have l5 := lt 5
  have HTB : Hid (tellB b = if b0 ≠ 87 then none
    else if b1 * 256 + b2 = 0 ∨ 8 < b4 ∨ b4 ≤ b3 ∨ b5 = 0 ∨ 56 < b5 then none
    else if b3 + 1 < b4 ∧ b5 ≠ 56 then none
    else if (b.drop (6 + b5)).all (fun x => x == 0) then some ⟨b1 * 256 + b2, b3, b4, (b.drop 6).take b5⟩
    else none) := by show _ = _; rw [hb0, hb1, hb2, hb3, hb4, hb5]; rfl
  rw [← hb0] at e0 l0
  rw [← hb1] at e1 l1
  rw [← hb2] at e2 l2
  rw [← hb3] at e3 l3
  rw [← hb4] at e4 l4
  rw [← hb5] at e5 l5
  clear hl ho hbe hbl nth lt hb0 hb1 hb2 hb3 hb4 hb5
  have t87 : ((b0 : Int) != 87) = true := by rw [bne_iff_ne]; omega
  have H87 := Lib.hid h87
  clear h87
  go_enter Try.func94, Try.ntmps94
  go_wp2_with (first
    | (go_at_call 101; (with_reducible refine (open_any A 64 c B s _ (hr.alloc hB _) (by rw [World.size_alloc]; omega) hb (by omega) hc).mono ?_)
       rintro e w1 hp
       unfold OpenPost at hp
       rw [Ho.out] at hp
       obtain ⟨A1, n1, cc, he, hown1, hb1⟩ := hp
       have hn1 : n1 = 62 := by have := own_len hown1; simp [Hl.out] at this; omega
       subst hn1
       subst he
       rw [Hl.out, show (if true then s.take (64 - 2) else []) = b from Hbe.out.symm] at hown1
       have hbw : Below w.heap.size w w1 := ((Below.refl _ w).alloc (Nat.le_refl _) _).trans (hb1.mono (by rw [World.size_alloc]; omega))
       have hw1 := hbw.size
       have hR : w1.heap[w.heap.size]? = some (.cells #[.int .i64 0, .int .i64 0, .int .i64 0, .slice none 0 0] 132) := (hb1.block w.heap.size (by rw [World.size_alloc]; omega)).trans (heap_alloc_new w _)
       have r0 := cell_of_row w1 w.heap.size 0 _ _ _ hR
       have r1 := cell_of_row w1 w.heap.size 1 _ _ _ hR
       have r2 := cell_of_row w1 w.heap.size 2 _ _ _ hR
       have r3 := cell_of_row w1 w.heap.size 3 _ _ _ hR
       simp at r0 r1 r2 r3
       have q0 := frozen_of_row w1 w.heap.size 0 _ _ hR
       have q1 := frozen_of_row w1 w.heap.size 1 _ _ hR
       have q2 := frozen_of_row w1 w.heap.size 2 _ _ hR
       have q3 := frozen_of_row w1 w.heap.size 3 _ _ hR
       have HR := Lib.hid hR
       clear hR
       obtain ⟨hcc, g, rfl, hg0, hg1, hcell, _⟩ := own_some hown1 (by omega)
       have hgw : w.heap.size < g := by rw [World.size_alloc] at hg0; omega
       have c0 : w1.cell? ⟨g, 0, none⟩ = some (.int .u8 b0) := hcell 0 _ (e0.out)
       have c1 : w1.cell? ⟨g, 1, none⟩ = some (.int .u8 b1) := hcell 1 _ (e1.out)
       have c2 : w1.cell? ⟨g, 2, none⟩ = some (.int .u8 b2) := hcell 2 _ (e2.out)
       have c3 : w1.cell? ⟨g, 3, none⟩ = some (.int .u8 b3) := hcell 3 _ (e3.out)
       have c4 : w1.cell? ⟨g, 4, none⟩ = some (.int .u8 b4) := hcell 4 _ (e4.out)
       have c5 : w1.cell? ⟨g, 5, none⟩ = some (.int .u8 b5) := hcell 5 _ (e5.out)
       have Hcell := Lib.hid hcell
       have Hrd : Hid (Rd w1 w1.heap.size 1 (some ⟨g, 0, none⟩) 62 (b.map bv)) := Rd.of_own hown1
       have HBw := Lib.hid hbw
       clear hown1 hb1 hbw hcell hg0)
    | fail)
  have HN : Hid (tellF s = none) := by show _ = _; rw [HT.out, HTB.out, if_pos H87.out]
  refine bodyPost_ret (v := .tuple #[pc0, .bool false]) ?_ rfl ?_
  · simp [results, Try.results94, go_sem, r0, r1, r2, r3]
    rfl
  · exact tell_no _ _ _ ((((HBw.out.setCell (p := ⟨w.heap.size, 0, none⟩) (Nat.le_refl _) _).setCell (p := ⟨w.heap.size, 1, none⟩) (Nat.le_refl _) _).setCell (p := ⟨w.heap.size, 2, none⟩) (Nat.le_refl _) _).setCell (p := ⟨w.heap.size, 3, none⟩) (Nat.le_refl _) _) HN.out
set_option maxHeartbeats 32000000 in
theorem tell_rest (A : Option Addr) (n c B : Nat) (s : List Nat) (w : World) (hr : Rd w B 1 A n (s.map bv)) (hB : B ≤ w.heap.size) (hb : ∀ c ∈ s, c < 256) (hn : n = 64) (hc : n ≤ c) (ho : opens s = true) (b0 b1 b2 b3 b4 b5 : Nat) (hb0 : b0 = (s.take 62).getD 0 0) (hb1 : b1 = (s.take 62).getD 1 0) (hb2 : b2 = (s.take 62).getD 2 0) (hb3 : b3 = (s.take 62).getD 3 0) (hb4 : b4 = (s.take 62).getD 4 0) (hb5 : b5 = (s.take 62).getD 5 0) (h87 : b0 = 87) :
    Calls Try.prog 94 #[.slice A n c] w (TellPost w s) := by
  subst hn
  have hl : s.length = 64 := by have := hr.1; simpa using this
  obtain ⟨i0, hi, hz0, hz1, hz2⟩ := info_parts info_u8
  obtain ⟨b, hbe⟩ : ∃ b, b = s.take 62 := ⟨_, rfl⟩
  have hbl : b.length = 62 := by rw [hbe, List.length_take, hl]; rfl
  have hb256 : ∀ x ∈ b, x < 256 := fun x hx => hb x (List.mem_of_mem_take (by rw [← hbe]; exact hx))
  have HT : Hid (tellF s = tellB b) := by show _ = _; rw [tellF, if_pos ho, hbe]
  replace hb0 : b0 = b.getD 0 0 := by rw [hb0, hbe]
  replace hb1 : b1 = b.getD 1 0 := by rw [hb1, hbe]
  replace hb2 : b2 = b.getD 2 0 := by rw [hb2, hbe]
  replace hb3 : b3 = b.getD 3 0 := by rw [hb3, hbe]
  replace hb4 : b4 = b.getD 4 0 := by rw [hb4, hbe]
  replace hb5 : b5 = b.getD 5 0 := by rw [hb5, hbe]
  have Ho := Lib.hid ho
  have Hbl := Lib.hid hbl
  have Hbe := Lib.hid hbe
  have Hl := Lib.hid hl
  have nth : ∀ i, i < 62 → (b.map bv)[i]? = some (.int .u8 ((b.getD i 0 : Nat) : Int)) := fun i hi => by
    rw [List.getElem?_map, List.getD_eq_getElem?_getD, List.getElem?_eq_getElem (by omega)]; rfl
  have lt : ∀ i, b.getD i 0 < 256 := fun i => by
    rw [List.getD_eq_getElem?_getD]
    cases h : b[i]? with
    | none => show 0 < 256; omega
    | some x => exact hb256 x (List.mem_of_getElem? h)
  have e0 := Lib.hid (nth 0 (by omega))
  have e1 := Lib.hid (nth 1 (by omega))
  have e2 := Lib.hid (nth 2 (by omega))
  have e3 := Lib.hid (nth 3 (by omega))
  have e4 := Lib.hid (nth 4 (by omega))
  have e5 := Lib.hid (nth 5 (by omega))
  have l0 := lt 0
  have l1 := lt 1
  have l2 := lt 2
  have l3 := lt 3
  have l4 := lt 4
  have l5 := lt 5
  have HTB : Hid (tellB b = if b0 ≠ 87 then none
    else if b1 * 256 + b2 = 0 ∨ 8 < b4 ∨ b4 ≤ b3 ∨ b5 = 0 ∨ 56 < b5 then none
    else if b3 + 1 < b4 ∧ b5 ≠ 56 then none
    else if (b.drop (6 + b5)).all (fun x => x == 0) then some ⟨b1 * 256 + b2, b3, b4, (b.drop 6).take b5⟩
    else none) := by show _ = _; rw [hb0, hb1, hb2, hb3, hb4, hb5]; rfl
  rw [← hb0] at e0 l0
  rw [← hb1] at e1 l1
  rw [← hb2] at e2 l2
  rw [← hb3] at e3 l3
  rw [← hb4] at e4 l4
  rw [← hb5] at e5 l5
  clear hl ho hbe hbl nth lt hb0 hb1 hb2 hb3 hb4 hb5
  have t87 : ((b0 : Int) != 87) = false := by rw [h87]; rfl
  have H87 := Lib.hid h87
  clear h87
  go_enter Try.func94, Try.ntmps94
  go_wp2_with (first
    | (go_at_call 101; (with_reducible refine (open_any A 64 c B s _ (hr.alloc hB _) (by rw [World.size_alloc]; omega) hb (by omega) hc).mono ?_)
       rintro e w1 hp
       unfold OpenPost at hp
       rw [Ho.out] at hp
       obtain ⟨A1, n1, cc, he, hown1, hb1⟩ := hp
       have hn1 : n1 = 62 := by have := own_len hown1; simp [Hl.out] at this; omega
       subst hn1
       subst he
       rw [Hl.out, show (if true then s.take (64 - 2) else []) = b from Hbe.out.symm] at hown1
       have hbw : Below w.heap.size w w1 := ((Below.refl _ w).alloc (Nat.le_refl _) _).trans (hb1.mono (by rw [World.size_alloc]; omega))
       have hw1 := hbw.size
       have hR : w1.heap[w.heap.size]? = some (.cells #[.int .i64 0, .int .i64 0, .int .i64 0, .slice none 0 0] 132) := (hb1.block w.heap.size (by rw [World.size_alloc]; omega)).trans (heap_alloc_new w _)
       have r0 := cell_of_row w1 w.heap.size 0 _ _ _ hR
       have r1 := cell_of_row w1 w.heap.size 1 _ _ _ hR
       have r2 := cell_of_row w1 w.heap.size 2 _ _ _ hR
       have r3 := cell_of_row w1 w.heap.size 3 _ _ _ hR
       simp at r0 r1 r2 r3
       have q0 := frozen_of_row w1 w.heap.size 0 _ _ hR
       have q1 := frozen_of_row w1 w.heap.size 1 _ _ hR
       have q2 := frozen_of_row w1 w.heap.size 2 _ _ hR
       have q3 := frozen_of_row w1 w.heap.size 3 _ _ hR
       have HR := Lib.hid hR
       clear hR
       obtain ⟨hcc, g, rfl, hg0, hg1, hcell, _⟩ := own_some hown1 (by omega)
       have hgw : w.heap.size < g := by rw [World.size_alloc] at hg0; omega
       have c0 : w1.cell? ⟨g, 0, none⟩ = some (.int .u8 b0) := hcell 0 _ (e0.out)
       have c1 : w1.cell? ⟨g, 1, none⟩ = some (.int .u8 b1) := hcell 1 _ (e1.out)
       have c2 : w1.cell? ⟨g, 2, none⟩ = some (.int .u8 b2) := hcell 2 _ (e2.out)
       have c3 : w1.cell? ⟨g, 3, none⟩ = some (.int .u8 b3) := hcell 3 _ (e3.out)
       have c4 : w1.cell? ⟨g, 4, none⟩ = some (.int .u8 b4) := hcell 4 _ (e4.out)
       have c5 : w1.cell? ⟨g, 5, none⟩ = some (.int .u8 b5) := hcell 5 _ (e5.out)
       have Hcell := Lib.hid hcell
       have Hrd : Hid (Rd w1 w1.heap.size 1 (some ⟨g, 0, none⟩) 62 (b.map bv)) := Rd.of_own hown1
       have HBw := Lib.hid hbw
       clear hown1 hb1 hbw hcell hg0)
    | fail)
  have wb1 : IntKind.i64.wrap (b1 : Int) = (b1 : Int) := IntWalk.i64_in _ (by omega)
  have wb2 : IntKind.i64.wrap (b2 : Int) = (b2 : Int) := IntWalk.i64_in _ (by omega)
  have wb3 : IntKind.i64.wrap (b3 : Int) = (b3 : Int) := IntWalk.i64_in _ (by omega)
  have wb4 : IntKind.i64.wrap (b4 : Int) = (b4 : Int) := IntWalk.i64_in _ (by omega)
  have wbs : IntKind.i64.wrap ((b1 : Int) * 256) = (b1 : Int) * 256 := IntWalk.i64_in _ (by omega)
  obtain ⟨t, ht⟩ : ∃ t, t = b1 * 256 + b2 := ⟨_, rfl⟩
  have wbo : bits .or .i64 ((b1 : Int) * 256) (b2 : Int) = (t : Int) := by rw [ht]; exact or_byte b1 b2 (by omega) l2
  have Ht := Lib.hid ht
  have htl : t < 65536 := by omega
  clear ht
  have hSA : ∀ o, Below w1.heap.size w1 (w1.drew.alloc o) ∧ (w1.drew.alloc o).cell? ⟨g, 1, none⟩ = some (.int .u8 b1) ∧ (w1.drew.alloc o).cell? ⟨g, 2, none⟩ = some (.int .u8 b2) ∧ (w1.drew.alloc o).cell? ⟨g, 3, none⟩ = some (.int .u8 b3) ∧ (w1.drew.alloc o).cell? ⟨g, 4, none⟩ = some (.int .u8 b4) := fun o =>
    ⟨((Below.refl _ _).drew).alloc (Nat.le_refl _) _, (World.cell?_alloc_lt _ _ _ hg1).trans c1, (World.cell?_alloc_lt _ _ _ hg1).trans c2, (World.cell?_alloc_lt _ _ _ hg1).trans c3, (World.cell?_alloc_lt _ _ _ hg1).trans c4⟩
  have HSA := Lib.hid hSA
  clear hSA
  refine sk (fun w' => Below w1.heap.size w1 w' ∧ w'.cell? ⟨g, 1, none⟩ = some (.int .u8 b1) ∧ w'.cell? ⟨g, 2, none⟩ = some (.int .u8 b2) ∧ w'.cell? ⟨g, 3, none⟩ = some (.int .u8 b3) ∧ w'.cell? ⟨g, 4, none⟩ = some (.int .u8 b4)) 21 ?_ (fun hHeld => ?_)
  · (first | exact ⟨(Below.refl _ _).drew, c1, c2, c3, c4⟩ | exact HSA.out _)
  refine tk 0 29 hHeld ?_
  refine tk 1 30 hHeld ?_
  refine tk 2 31 hHeld ?_
  refine tk 3 32 hHeld ?_
  refine tk 4 33 hHeld ?_
  refine tk 5 34 hHeld ?_
  refine tk 6 35 hHeld ?_
  refine tk 7 36 hHeld ?_
  refine tk 8 37 hHeld ?_
  refine tk 9 38 hHeld ?_
  refine tk 10 39 hHeld ?_
  refine tk 11 40 hHeld ?_
  refine tk 12 41 hHeld ?_
  refine tk 13 42 hHeld ?_
  refine tk 14 43 hHeld ?_
  refine tk 15 44 hHeld ?_
  refine tk 16 45 hHeld ?_
  refine tk 17 46 hHeld ?_
  refine tk 18 47 hHeld ?_
  refine bk 19 6 (fun K hK => ?_)
  go_simp
  refine hK.out _ _ ?_ (fun hHeld' => ?_)
  · (first | exact ⟨(Below.refl _ _).drew, c1, c2, c3, c4⟩ | exact HSA.out _)
  clear hK K hHeld
  have hHeld := hHeld'
  clear hHeld'
  simp only [List.set_cons_zero, List.set_cons_succ]
  refine bn 20 (fun K hK => ?_)
  go_simp
  first | refine hK.out undef _ ?_ (fun hHeld' => ?_) | refine hK.out _ _ ?_ (fun hHeld' => ?_)
  · (first | exact ⟨(Below.refl _ _).drew, c1, c2, c3, c4⟩ | exact HSA.out _)
  clear hK K hHeld
  have hHeld := hHeld'
  clear hHeld'
  try simp only [List.set_cons_zero, List.set_cons_succ]
  refine wpAnyH_done (by kernel_rfl) ?_ _
  refine NoPanic.normal ?_
  obtain ⟨wP, hwP⟩ : ∃ W, W = (w1.alloc (.cells #[.int .i64 t, .int .i64 b3, .int .i64 b4, .slice none 0 0] 132)).drew := ⟨_, rfl⟩
  rw [← hwP]
  have hbP : Below w1.heap.size w1 wP := by rw [hwP]; exact ((Below.refl _ _).alloc (Nat.le_refl _) _).drew
  have hP : wP.heap[w1.heap.size]? = some (.cells #[.int .i64 t, .int .i64 b3, .int .i64 b4, .slice none 0 0] 132) := by rw [hwP]; exact heap_alloc_new w1 _
  have HP := Lib.hid hP
  have HBp : Hid (Below w.heap.size w wP) := HBw.out.trans (hbP.mono HBw.out.size)
  have p0 := cell_of_row wP w1.heap.size 0 _ _ _ hP
  have p1 := cell_of_row wP w1.heap.size 1 _ _ _ hP
  have p2 := cell_of_row wP w1.heap.size 2 _ _ _ hP
  have p3 := cell_of_row wP w1.heap.size 3 _ _ _ hP
  simp at p0 p1 p2 p3
  have pf := frozen_of_row wP w1.heap.size 3 _ _ hP
  have hRl : w.heap.size < w1.heap.size := (Array.getElem?_eq_some_iff.1 HR.out).1
  have hR : wP.heap[w.heap.size]? = some (.cells #[.int .i64 0, .int .i64 0, .int .i64 0, .slice none 0 0] 132) := (hbP.block _ hRl).trans HR.out
  clear r0 r1 r2 r3 q0 q1 q2 q3
  have r0 := cell_of_row wP w.heap.size 0 _ _ _ hR
  have r1 := cell_of_row wP w.heap.size 1 _ _ _ hR
  have r2 := cell_of_row wP w.heap.size 2 _ _ _ hR
  have r3 := cell_of_row wP w.heap.size 3 _ _ _ hR
  simp at r0 r1 r2 r3
  have q0 := frozen_of_row wP w.heap.size 0 _ _ hR
  have q1 := frozen_of_row wP w.heap.size 1 _ _ hR
  have q2 := frozen_of_row wP w.heap.size 2 _ _ hR
  have q3 := frozen_of_row wP w.heap.size 3 _ _ hR
  have HR2 := Lib.hid hR
  have d5 := (hbP.cell (p := ⟨g, 5, none⟩) hg1).trans c5
  have Hcl : Hid (∀ j u, (b.map bv)[j]? = some u → wP.cell? ⟨g, j, none⟩ = some u) := fun j u hu => (hbP.cell (p := ⟨g, j, none⟩) hg1).trans (Hcell.out j u hu)
  have HrdP : Hid (Rd wP wP.heap.size 1 (some ⟨g, 0, none⟩) 62 (b.map bv)) := (Hrd.out.below hbP).more hbP.size
  have hgP : g < wP.heap.size := Nat.lt_of_lt_of_le hg1 hbP.size
  have hWP : w1.heap.size < wP.heap.size := (Array.getElem?_eq_some_iff.1 hP).1
  have hneP : w.heap.size ≠ w1.heap.size := by omega
  have HT2 : Hid (tellF s = if t = 0 ∨ 8 < b4 ∨ b4 ≤ b3 ∨ b5 = 0 ∨ 56 < b5 then none
      else if b3 + 1 < b4 ∧ b5 ≠ 56 then none
      else if (b.drop (6 + b5)).all (fun x => x == 0) then some ⟨t, b3, b4, (b.drop 6).take b5⟩ else none) := by
    show _ = _
    rw [HT.out, HTB.out, if_neg (by rw [H87.out]; simp), Ht.out]
  clear hwP hbP hP hR c1 c2 c3 c4 c5 c0 wb1 wb2 wb3 wb4 wbs wbo hHeld HT HTB Hrd
  have sp : (tellF s = none ∧ (((t : Int) == 0) = true ∨
      ((t : Int) == 0) = false ∧ (decide ((8 : Int) < (b4 : Int)) = true ∨
      decide ((8 : Int) < (b4 : Int)) = false ∧ (decide (b4 ≤ b3) = true ∨
      decide (b4 ≤ b3) = false ∧ (((b5 : Int) == 0) = true ∨
      ((b5 : Int) == 0) = false ∧ (decide ((56 : Int) < (b5 : Int)) = true ∨
      decide ((56 : Int) < (b5 : Int)) = false ∧ decide ((b3 : Int) < (b4 : Int) - 1) = true ∧ ((b5 : Int) != 56) = true)))))) ∨
      ((tellF s = if (b.drop (6 + b5)).all (fun x => x == 0) then some ⟨t, b3, b4, (b.drop 6).take b5⟩ else none) ∧ (1 ≤ b5 ∧ b5 ≤ 56) ∧ (((t : Int) == 0) = false ∧ decide ((8 : Int) < (b4 : Int)) = false ∧ decide (b4 ≤ b3) = false ∧ ((b5 : Int) == 0) = false ∧ decide ((56 : Int) < (b5 : Int)) = false) ∧
        (decide ((b3 : Int) < (b4 : Int) - 1) = false ∨ decide ((b3 : Int) < (b4 : Int) - 1) = true ∧ ((b5 : Int) != 56) = false)) := by
    have h2 := HT2.out
    by_cases k0 : t = 0
    · exact .inl ⟨by rw [h2, if_pos (by omega)], .inl (by rw [beq_iff_eq]; omega)⟩
    have T0 : ((t : Int) == 0) = false := by rw [beq_eq_false_iff_ne]; omega
    by_cases k1 : 8 < b4
    · exact .inl ⟨by rw [h2, if_pos (by omega)], .inr ⟨T0, .inl (decide_eq_true (by omega))⟩⟩
    have T1 : decide ((8 : Int) < (b4 : Int)) = false := decide_eq_false (by omega)
    by_cases k2 : b4 ≤ b3
    · exact .inl ⟨by rw [h2, if_pos (by omega)], .inr ⟨T0, .inr ⟨T1, .inl (decide_eq_true k2)⟩⟩⟩
    have T2 : decide (b4 ≤ b3) = false := decide_eq_false k2
    by_cases k3 : b5 = 0
    · exact .inl ⟨by rw [h2, if_pos (by omega)], .inr ⟨T0, .inr ⟨T1, .inr ⟨T2, .inl (by rw [beq_iff_eq]; omega)⟩⟩⟩⟩
    have T3 : ((b5 : Int) == 0) = false := by rw [beq_eq_false_iff_ne]; omega
    by_cases k4 : 56 < b5
    · exact .inl ⟨by rw [h2, if_pos (by omega)], .inr ⟨T0, .inr ⟨T1, .inr ⟨T2, .inr ⟨T3, .inl (decide_eq_true (by omega))⟩⟩⟩⟩⟩
    have T4 : decide ((56 : Int) < (b5 : Int)) = false := decide_eq_false (by omega)
    rw [if_neg (by omega)] at h2
    by_cases k5 : b3 + 1 < b4 ∧ b5 ≠ 56
    · exact .inl ⟨by rw [h2, if_pos k5], .inr ⟨T0, .inr ⟨T1, .inr ⟨T2, .inr ⟨T3, .inr ⟨T4, decide_eq_true (by omega), by rw [bne_iff_ne]; omega⟩⟩⟩⟩⟩⟩
    rw [if_neg k5] at h2
    refine .inr ⟨h2, by omega, ⟨T0, T1, T2, T3, T4⟩, ?_⟩
    by_cases k6 : b3 + 1 < b4
    · exact .inr ⟨decide_eq_true (by omega), by rw [bne_eq_false_iff_eq]; omega⟩
    · exact .inl (decide_eq_false (by omega))
  clear HT2
  rcases sp with ⟨hn, sp⟩ | ⟨HT4, ⟨k3', k4'⟩, ⟨T0, T1, T2, T3, T4⟩, sp⟩
  · have HN : Hid (tellF s = none) := hn
    clear hn
    rcases sp with T0 | ⟨T0, T1 | ⟨T1, T2 | ⟨T2, T3 | ⟨T3, T4 | ⟨T4, T5, T6⟩⟩⟩⟩⟩
    all_goals
      go_wp2_with fail
      refine bodyPost_ret (v := .tuple #[pc0, .bool false]) ?_ rfl ?_
      · simp [results, Try.results94, go_sem, r0, r1, r2, r3]
        rfl
      · exact tell_no _ _ _ ((((HBp.out.setCell (p := ⟨w.heap.size, 0, none⟩) (Nat.le_refl _) _).setCell (p := ⟨w.heap.size, 1, none⟩) (Nat.le_refl _) _).setCell (p := ⟨w.heap.size, 2, none⟩) (Nat.le_refl _) _).setCell (p := ⟨w.heap.size, 3, none⟩) (Nat.le_refl _) _) HN.out
  have HT4 := Lib.hid HT4
  rcases sp with T5 | ⟨T5, T6⟩
  all_goals
    have HL5 : Hid (((b.drop 6).take b5).length = b5) := by show _ = _; rw [List.length_take, List.length_drop, Hbl.out]; omega
    have Hlen : Hid ((b.drop (6 + b5)).length = 56 - b5) := by show _ = _; rw [List.length_drop, Hbl.out]; omega
    by_cases hcap : cc = 6 + b5
    · have h56 : b5 = 56 := by omega
      have hz : 62 - (6 + b5) = 0 := by omega
      have H56 := Lib.hid h56
      clear h56
      have HZ : (b.drop (6 + b5)).all (fun x => x == 0) = true := by rw [List.eq_nil_of_length_eq_zero (l := b.drop (6 + b5)) (by rw [Hlen.out, H56.out])]; rfl
      have HZ' := Lib.hid HZ
      clear HZ
      skip
      all_goals
        go_wp2_with fail
        go_loopg [92] 0 (fun k i wr => i = .int .i64 0 ∧ wr = wP)
        case atStart => exact ⟨rfl, rfl⟩
        case round =>
          obtain ⟨rfl, rfl⟩ := hrel
          have HZ := HZ'.out
          have HA : Hid (tellF s = some ⟨t, b3, b4, (b.drop 6).take b5⟩) := by show _ = _; rw [HT4.out, if_pos HZ]
          clear HZ
          go_wp2_with fail
          refine bodyPost_ret (v := .tuple #[pcV ⟨t, b3, b4, (b.drop 6).take b5⟩ g (b5), .bool true]) ?_ rfl ?_
          · simp [results, Try.results94, go_sem, r0, r1, r2, r3, pcV, HL5.out]
          · have hk : Kept (fun k => k ≠ w1.heap.size ∧ k ≠ w.heap.size) wr (((((wr.setCell ⟨w1.heap.size, 3, none⟩ (.slice (some ⟨g, 6, none⟩) b5 (b5))).setCell ⟨w.heap.size, 0, none⟩ (.int .i64 t)).setCell ⟨w.heap.size, 1, none⟩ (.int .i64 b3)).setCell ⟨w.heap.size, 2, none⟩ (.int .i64 b4)).setCell ⟨w.heap.size, 3, none⟩ (.slice (some ⟨g, 6, none⟩) b5 (b5))) :=
              (((((Kept.refl _ wr).setCell (p := ⟨w1.heap.size, 3, none⟩) (fun h => h.1 rfl) _).setCell (p := ⟨w.heap.size, 0, none⟩) (fun h => h.2 rfl) _).setCell (p := ⟨w.heap.size, 1, none⟩) (fun h => h.2 rfl) _).setCell (p := ⟨w.heap.size, 2, none⟩) (fun h => h.2 rfl) _).setCell (p := ⟨w.heap.size, 3, none⟩) (fun h => h.2 rfl) _
            refine ⟨HBp.out.trans (hk.below (fun k hk => ⟨by omega, by omega⟩)), .inr ⟨_, g, b5, HA.out, rfl, by omega, ?_⟩⟩
            have hm := (HrdP.out.mid 6 b5 (by omega)).kept hk ⟨by omega, by omega⟩
            have hm2 := hm.more hk.size
            simpa [HL5.out] using hm2
    · skip
      all_goals
        go_wp2_with fail
        go_loopg [92] (56 - b5) (fun k i wr => ∃ j : Nat, k + j = 56 - b5 ∧ i = .int .i64 j ∧ wr = wP ∧ ((b.drop (6 + b5)).take j).all (fun x => x == 0) = true)
        case atStart => exact ⟨0, by omega, rfl, rfl, rfl⟩
        case round =>
          obtain ⟨j, hj, rfl, rfl, hz⟩ := hrel
          have HZj := Lib.hid hz
          clear hz
          by_cases hlt : j < 56 - b5
          · have hi0 : (0 : Int) ≤ (j : Int) := by omega
            have hi1 : j < 62 - (6 + b5) := by omega
            have hjl : j < (b.drop (6 + b5)).length := by rw [Hlen.out]; exact hlt
            obtain ⟨x, hx⟩ : ∃ x, x = (b.drop (6 + b5))[j] := ⟨_, rfl⟩
            have hxb : b[6 + b5 + j]? = some x := by rw [hx, List.getElem_drop, ← List.getElem?_eq_getElem]
            have hx256 : x < 256 := hb256 x (List.mem_of_getElem? hxb)
            have cx : wr.cell? ⟨g, 6 + b5 + j, none⟩ = some (.int .u8 x) := Hcl.out _ _ (by rw [List.getElem?_map, hxb]; rfl)
            have Hs : Hid (((b.drop (6 + b5)).take (j + 1)).all (fun x => x == 0) = (((b.drop (6 + b5)).take j).all (fun x => x == 0) && (x == 0))) := by
              show _ = _
              rw [List.take_succ_eq_append_getElem hjl, List.all_append, ← hx]; simp
            have Hx : Hid (x ∈ b.drop (6 + b5)) := by show _ ∈ _; rw [hx]; exact List.getElem_mem _
            clear hx hxb hjl
            by_cases hx0 : x = 0
            · have tx : ((x : Int) != 0) = false := by rw [hx0]; rfl
              have H0 : Hid (((b.drop (6 + b5)).take (j + 1)).all (fun x => x == 0) = true) := by show _ = _; rw [Hs.out, HZj.out, hx0]; rfl
              clear hx0
              go_wp2_with fail
              go_roundg (gk - 1)
              case measure => omega
              case rel => exact ⟨j + 1, by omega, by go_num, rfl, H0.out⟩
            · have tx : ((x : Int) != 0) = true := by rw [bne_iff_ne]; omega
              have HN : Hid (tellF s = none) := by
                show _ = _
                rw [HT4.out, if_neg]
                intro h
                rw [List.all_eq_true] at h
                have := h x Hx.out
                simp at this
                exact hx0 this
              clear hx0
              go_wp2_with fail
              refine bodyPost_ret (v := .tuple #[pc0, .bool false]) ?_ rfl ?_
              · simp [results, Try.results94, go_sem, r0, r1, r2, r3]
                rfl
              · exact tell_no _ _ _ ((((HBp.out.setCell (p := ⟨w.heap.size, 0, none⟩) (Nat.le_refl _) _).setCell (p := ⟨w.heap.size, 1, none⟩) (Nat.le_refl _) _).setCell (p := ⟨w.heap.size, 2, none⟩) (Nat.le_refl _) _).setCell (p := ⟨w.heap.size, 3, none⟩) (Nat.le_refl _) _) HN.out
          · have HZ : (b.drop (6 + b5)).all (fun x => x == 0) = true := by
              have h := HZj.out
              rwa [List.take_of_length_le (by rw [Hlen.out]; omega)] at h
            have hge : ¬ j < 62 - (6 + b5) := by omega
            have HA : Hid (tellF s = some ⟨t, b3, b4, (b.drop 6).take b5⟩) := by show _ = _; rw [HT4.out, if_pos HZ]
            clear HZ
            go_wp2_with fail
            refine bodyPost_ret (v := .tuple #[pcV ⟨t, b3, b4, (b.drop 6).take b5⟩ g (cc - 6), .bool true]) ?_ rfl ?_
            · simp [results, Try.results94, go_sem, r0, r1, r2, r3, pcV, HL5.out]
            · have hk : Kept (fun k => k ≠ w1.heap.size ∧ k ≠ w.heap.size) wr (((((wr.setCell ⟨w1.heap.size, 3, none⟩ (.slice (some ⟨g, 6, none⟩) b5 (cc - 6))).setCell ⟨w.heap.size, 0, none⟩ (.int .i64 t)).setCell ⟨w.heap.size, 1, none⟩ (.int .i64 b3)).setCell ⟨w.heap.size, 2, none⟩ (.int .i64 b4)).setCell ⟨w.heap.size, 3, none⟩ (.slice (some ⟨g, 6, none⟩) b5 (cc - 6))) :=
                (((((Kept.refl _ wr).setCell (p := ⟨w1.heap.size, 3, none⟩) (fun h => h.1 rfl) _).setCell (p := ⟨w.heap.size, 0, none⟩) (fun h => h.2 rfl) _).setCell (p := ⟨w.heap.size, 1, none⟩) (fun h => h.2 rfl) _).setCell (p := ⟨w.heap.size, 2, none⟩) (fun h => h.2 rfl) _).setCell (p := ⟨w.heap.size, 3, none⟩) (fun h => h.2 rfl) _
              refine ⟨HBp.out.trans (hk.below (fun k hk => ⟨by omega, by omega⟩)), .inr ⟨_, g, cc - 6, HA.out, rfl, by omega, ?_⟩⟩
              have hm := (HrdP.out.mid 6 b5 (by omega)).kept hk ⟨by omega, by omega⟩
              have hm2 := hm.more hk.size
              simpa [HL5.out] using hm2
set_option maxHeartbeats 1000000 in
theorem tell_shut (A : Option Addr) (n c B : Nat) (s : List Nat) (w : World) (hr : Rd w B 1 A n (s.map bv)) (hB : B ≤ w.heap.size) (hb : ∀ c ∈ s, c < 256) (hn : n = 64) (hc : n ≤ c) (ho : opens s = false) :
    Calls Try.prog 94 #[.slice A n c] w (TellPost w s) := by
  subst hn
  have hl : s.length = 64 := by have := hr.1; simpa using this
  have HN : Hid (tellF s = none) := by show _ = _; rw [tellF, if_neg (by rw [ho]; simp)]
  have Ho := Lib.hid ho
  have Hl := Lib.hid hl
  clear ho hl
  go_enter Try.func94, Try.ntmps94
  go_wp2_with (first
    | (go_at_call 101; (with_reducible refine (open_any A 64 c B s _ (hr.alloc hB _) (by rw [World.size_alloc]; omega) hb (by omega) hc).mono ?_)
       rintro e w1 hp
       unfold OpenPost at hp
       rw [Ho.out] at hp
       obtain ⟨A1, n1, cc, he, hown1, hb1⟩ := hp
       subst he
       have hbw : Below w.heap.size w w1 := ((Below.refl _ w).alloc (Nat.le_refl _) _).trans (hb1.mono (by rw [World.size_alloc]; omega))
       have hR : w1.heap[w.heap.size]? = some (.cells #[.int .i64 0, .int .i64 0, .int .i64 0, .slice none 0 0] 132) := (hb1.block w.heap.size (by rw [World.size_alloc]; omega)).trans (heap_alloc_new w _)
       have r0 := cell_of_row w1 w.heap.size 0 _ _ _ hR
       have r1 := cell_of_row w1 w.heap.size 1 _ _ _ hR
       have r2 := cell_of_row w1 w.heap.size 2 _ _ _ hR
       have r3 := cell_of_row w1 w.heap.size 3 _ _ _ hR
       simp at r0 r1 r2 r3
       have q0 := frozen_of_row w1 w.heap.size 0 _ _ hR
       have q1 := frozen_of_row w1 w.heap.size 1 _ _ hR
       have q2 := frozen_of_row w1 w.heap.size 2 _ _ hR
       have q3 := frozen_of_row w1 w.heap.size 3 _ _ hR
       have HBw := Lib.hid hbw
       clear hown1 hb1 hbw hR)
    | fail)
  refine bodyPost_ret (v := .tuple #[pc0, .bool false]) ?_ rfl ?_
  · simp [results, Try.results94, go_sem, r0, r1, r2, r3]
    rfl
  · exact tell_no _ _ _ ((((HBw.out.setCell (p := ⟨w.heap.size, 0, none⟩) (Nat.le_refl _) _).setCell (p := ⟨w.heap.size, 1, none⟩) (Nat.le_refl _) _).setCell (p := ⟨w.heap.size, 2, none⟩) (Nat.le_refl _) _).setCell (p := ⟨w.heap.size, 3, none⟩) (Nat.le_refl _) _) HN.out
theorem tell_any (A : Option Addr) (n c B : Nat) (s : List Nat) (w : World) (hr : Rd w B 1 A n (s.map bv)) (hB : B ≤ w.heap.size) (hb : ∀ c ∈ s, c < 256) (hn : n = 64) (hc : n ≤ c) :
    Calls Try.prog 94 #[.slice A n c] w (TellPost w s) := by
  cases ho : opens s with
  | false => exact tell_shut A n c B s w hr hB hb hn hc ho
  | true =>
    by_cases h87 : (s.take 62).getD 0 0 = 87
    · exact tell_rest A n c B s w hr hB hb hn hc ho _ _ _ _ _ _ rfl rfl rfl rfl rfl rfl h87
    · exact tell_87 A n c B s w hr hB hb hn hc ho _ _ _ _ _ _ rfl rfl rfl rfl rfl rfl h87
end Go.Proofs.Ytcdgaeenfhpnkaa
