/- Write, of the reference's disk. -/
import Derived.Test.YtonbfolgdfkgnaaRefE
import Derived.IntWalk
set_option linter.unusedVariables false
set_option linter.unusedSimpArgs false
set_option maxRecDepth 100000
namespace Go.Proofs.Ytonbfolgdfkgnaa
open Go Go.RowKit

theorem heap_drew (w : World) : w.drew.heap = w.heap := rfl
theorem Kept.drew {U : Nat → Prop} {a w : World} (h : Kept U a w) : Kept U a w.drew := ⟨h.os, h.tape, h.output, h.size, h.block⟩
theorem bstr_app (a b : List Nat) : bstr a ++ bstr b = bstr (a ++ b) := by
  apply ByteArray.ext
  simp [bstr, ByteArray.data_append]
theorem bstr_take (a : List Nat) (k n : Nat) (h : a.length = n) (hk : k ≤ n) : (bstr a).extract 0 k = bstr (a.take k) := by
  apply ByteArray.ext
  simp [bstr, ByteArray.data_extract, List.map_take]
theorem bstr_drop (a : List Nat) (k n : Nat) (h : a.length = n) : (bstr a).extract k n = bstr (a.drop k) := by
  apply ByteArray.ext
  simp [bstr, ByteArray.data_extract, List.map_drop]
  rw [List.take_of_length_le (by simp; omega)]
def RWritePost (U : Nat → Prop) (p g : Nat) (w : World) (r : Nat × DD) (e : Ending) (w' : World) : Prop :=
  e = .returned (.int .i64 r.1) ∧ HR w' U p g r.2 ∧ Kept U w w'
theorem rwrite_down (U : Nat → Prop) (p g : Nat) (d : DD) (x : RX) (w : World) (i : Int) (v : Value) (h : HRc w U p g d x) (hd : d.down = true) :
    Calls Try.prog 19 #[.pointer (some ⟨p, 0, none⟩), .int .i64 i, v] w (RWritePost U p g w (101, d)) := by
  have c1 := cell_of_row w p 1 _ _ _ h.hp
  simp [hd] at c1
  go_enter Try.func19, Try.ntmps19
  go_wp2_with fail
  go_ret
  exact ⟨rfl, ⟨x, h⟩, Kept.refl _ _⟩
theorem rwrite_far (U : Nat → Prop) (p g : Nat) (d : DD) (x : RX) (w : World) (i : Int) (A : Option Addr) (n m : Nat) (h : HRc w U p g d x) (hd : d.down = false) (hi : ¬ (0 ≤ i ∧ i < d.L.length ∧ n ≤ 64)) :
    Calls Try.prog 19 #[.pointer (some ⟨p, 0, none⟩), .int .i64 i, .slice A n m] w (RWritePost U p g w (1, d)) := by
  have c1 := cell_of_row w p 1 _ _ _ h.hp
  have c0 := cell_of_row w p 0 _ _ _ h.hp
  simp [hd] at c1 c0
  have H : Hid (HR w U p g d) := ⟨x, h⟩
  have go : decide (i < 0) = true ∨ decide (i < 0) = false ∧ decide ((d.L.length : Int) ≤ i) = true ∨ decide (i < 0) = false ∧ decide ((d.L.length : Int) ≤ i) = false ∧ decide ((64 : Int) < (n : Int)) = true := by simp; omega
  clear hi h
  rcases go with g1 | ⟨g1, g2⟩ | ⟨g1, g2, g3⟩
  all_goals
    go_enter Try.func19, Try.ntmps19
    go_wp2_with fail
    go_ret
    exact ⟨rfl, H.out, Kept.refl _ _⟩
set_option maxHeartbeats 1000000 in
theorem rwrite_fine (U : Nat → Prop) (p g : Nat) (d : DD) (x : RX) (w : World) (k : Nat) (A : Option Addr) (n m : Nat) (b old : List Nat) (h : HRc w U p g d x) (hd : d.down = false) (hk : d.L[k]? = some old) (hr : Rd w w.heap.size 1 A n (b.map bv)) (hn : n ≤ 64) (hb : ∀ c ∈ b, c < 256) (hw : d.writes < 1000000) :
    Calls Try.prog 19 #[.pointer (some ⟨p, 0, none⟩), .int .i64 k, .slice A n m] w (RWritePost U p g w (d.write k b)) := by
  have hbl : b.length = n := by have := hr.1; simpa using this
  have hkl : k < d.L.length := (List.getElem?_eq_some_iff.1 hk).1
  have hl256 := h.ok.2.1
  have t1 : (0 : Int) ≤ (k : Int) := by omega
  have t2 : (k : Int) < (d.L.length : Int) := by omega
  have b1 : decide ((k : Int) < 0) = false := decide_eq_false (by omega)
  have b2 : decide (d.L.length ≤ k) = false := decide_eq_false (by omega)
  have b3 : decide ((64 : Int) < (n : Int)) = false := decide_eq_false (by omega)
  have hn' : (n : Int) ≤ 64 := by omega
  have c1 := cell_of_row w p 1 _ _ _ h.hp
  have c0 := cell_of_row w p 0 _ _ _ h.hp
  simp [hd] at c1 c0
  have kv : ∀ w', Below w.heap.size w w' → (convert 29 9 (.slice A n m)).run Try.prog w' = .ok (.string (bstr b)) w' := fun w' hw' => kcvR _ _ _ _ _ _ (hr.below hw')
  have H := Lib.hid h
  have Hd := Lib.hid hd
  have Hk := Lib.hid hk
  have Hbl := Lib.hid hbl
  clear h hd hk hbl hr
  go_enter Try.func19, Try.ntmps19
  go_wp2_with fail
  have hwr : IntKind.i64.wrap (64 - (n : Int)) = 64 - (n : Int) := IntWalk.i64_in _ (by omega)
  obtain ⟨Z, hZ⟩ : ∃ Z, Z = bstr (List.replicate (64 - n) 0) := ⟨_, rfl⟩
  have hap : bstr b ++ Z = bstr (pad b) := by rw [hZ, bstr_app, pad, Hbl.out]
  have hcs : (9223372036854775807 < (bstr b).size + Z.size) = False := by
    apply eq_false
    rw [hZ, bstr_size, bstr_size, Hbl.out, List.length_replicate]; omega
  have HZ := Lib.hid hZ
  clear hZ
  refine startH (fun w' => Below w.heap.size w w') 8 #[false, false, false, false, false, false, false, false] rfl rfl (by kernel_rfl) ?_ (fun hHeld => ?_)
  · (first | exact (Below.refl _ _).drew | assumption)
  refine takeH 0 28 #[true, false, false, false, false, false, false, false] (v := ?_) rfl rfl rfl (by kernel_rfl) (by kernel_rfl) (by kernel_rfl) (fun _ _ _ h => h) (Or.inl ⟨by rfl, ?_⟩) hHeld ?_
  rotate_left
  · (intro w' hSw; (try dsimp only at hSw); go_simp; (try with_reducible rfl))
  simp only [List.set_cons_zero, List.set_cons_succ]
  refine takeH 1 29 #[true, true, false, false, false, false, false, false] (v := ?_) rfl rfl rfl (by kernel_rfl) (by kernel_rfl) (by kernel_rfl) (fun _ _ _ h => h) (Or.inl ⟨by rfl, ?_⟩) hHeld ?_
  rotate_left
  · (intro w' hSw; (try dsimp only at hSw); go_simp; (try with_reducible rfl))
  simp only [List.set_cons_zero, List.set_cons_succ]
  refine takeH 2 30 #[true, true, true, false, false, false, false, false] (v := ?_) rfl rfl rfl (by kernel_rfl) (by kernel_rfl) (by kernel_rfl) (fun _ _ _ h => h) (Or.inl ⟨by rfl, ?_⟩) hHeld ?_
  rotate_left
  · (intro w' hSw; (try dsimp only at hSw); go_simp; (try with_reducible rfl))
  simp only [List.set_cons_zero, List.set_cons_succ]
  refine takeH 3 31 #[true, true, true, true, false, false, false, false] (v := ?_) rfl rfl rfl (by kernel_rfl) (by kernel_rfl) (by kernel_rfl) (fun _ _ _ h => h) (Or.inl ⟨by rfl, ?_⟩) hHeld ?_
  rotate_left
  · (intro w' hSw; (try dsimp only at hSw); go_simp; (try with_reducible rfl))
  simp only [List.set_cons_zero, List.set_cons_succ]
  refine takeH 4 32 #[true, true, true, true, true, false, false, false] (v := ?_) rfl rfl rfl (by kernel_rfl) (by kernel_rfl) (by kernel_rfl) (fun _ _ _ h => h) (Or.inl ⟨by rfl, ?_⟩) hHeld ?_
  rotate_left
  · (intro w' hSw; (try dsimp only at hSw); go_simp; (try with_reducible rfl))
  simp only [List.set_cons_zero, List.set_cons_succ]
  refine branchH 5 33 #[true, true, true, true, true, true, false, false] (by kernel_rfl) rfl rfl rfl (by rfl) (fun K hK => ?_)
  go_simp
  (go_at_call 26; (with_reducible refine (zeros_any _ _ (64 - n) (by omega) (by omega)).mono ?_))
  rintro e w2 ⟨rfl, hbn⟩
  unfold sv
  rw [← HZ.out]
  have hHn := hHeld.trans (hbn.mono hHeld.size)
  refine hK.out _ _ ?_ (fun hHeld' => ?_)
  · (first | exact (Below.refl _ _).drew | assumption)
  clear hK K hHeld
  have hHeld := hHeld'
  clear hHeld'
  simp only [List.set_cons_zero, List.set_cons_succ]
  refine takeH 6 34 #[true, true, true, true, true, true, true, false] (v := ?_) rfl rfl rfl (by kernel_rfl) (by kernel_rfl) (by kernel_rfl) (fun _ _ _ h => h) (Or.inl ⟨by rfl, ?_⟩) hHeld ?_
  rotate_left
  · (intro w' hSw; (try dsimp only at hSw); go_simp; (try with_reducible rfl))
  simp only [List.set_cons_zero, List.set_cons_succ]
  refine takeH 7 7 #[true, true, true, true, true, true, true, true] (v := ?_) rfl rfl rfl (by kernel_rfl) (by kernel_rfl) (by kernel_rfl) (fun _ _ _ h => h) (Or.inl ⟨by rfl, ?_⟩) hHeld ?_
  rotate_left
  · (intro w' hSw; (try dsimp only at hSw); go_simp; (try with_reducible rfl))
  simp only [List.set_cons_zero, List.set_cons_succ]
  refine wpAnyH_done (by kernel_rfl) ?_ _
  refine NoPanic.normal ?_
  clear hap hcs hwr kv c0 c1
  have h2 := H.out.below hHeld
  have hK2 : Kept U w w2 := Kept.of hHeld H.out.old
  have c0 := cell_of_row w2 p 0 _ _ _ h2.hp
  have c2 := cell_of_row w2 p 2 _ _ _ h2.hp
  have c3 := cell_of_row w2 p 3 _ _ _ h2.hp
  have c4 := cell_of_row w2 p 4 _ _ _ h2.hp
  have cs := row_str h2.hg k old Hk.out
  have fp := fun j => frozen_of_row w2 p j _ _ h2.hp
  have fg := fun j => frozen_of_row w2 g j _ _ h2.hg
  simp at c0 c2 c3 c4
  have hpg : p ≠ g := h2.pg
  have hgp : g ≠ p := h2.pg.symm
  have hc3 : 0 ≤ (k : Int) ∧ (k : Int) < d.L.length ∧ b.length ≤ 64 := ⟨t1, t2, by have := Hbl.out; omega⟩
  have hpl := pad_len b (by have := Hbl.out; omega)
  have hg : d.L.getD k [] = old := by rw [List.getD_eq_getElem?_getD, Hk.out]; rfl
  have hdn : ¬ d.down = true := by rw [Hd.out]; simp
  have H2 := Lib.hid h2
  have hset : ∀ s : List Nat, (d.L.map sv ++ x.rest).toArray.setIfInBounds k (.string (bstr s)) = ((d.L.set k s).map sv ++ x.rest).toArray := fun s => by
    apply Array.ext'
    simp only [Array.toList_setIfInBounds]
    rw [List.set_append_left _ _ (by simpa using hkl), List.map_set]; rfl
  have Hset := Lib.hid hset
  have hs2 : Hid (∀ k, U k → k < w2.heap.size) := fun q hq => h2.old q hq
  clear hset
  rcases hcut : d.cut with _ | ⟨_ | a0, m0⟩
  · have e : d.write k b = (0, { d with L := d.L.set k (pad b), writes := d.writes + 1 }) := by
      rw [DD.write, if_neg hdn, if_pos hc3, hcut]; rfl
    have E := Lib.hid e
    rw [h2.cn hcut] at c2
    have Hcut := Lib.hid hcut
    clear h2 hcut e hg hc3 hpl
    go_wp2_with fail
    go_ret
    rw [E.out]
    have h2 := H2.out
    refine ⟨rfl, ⟨x, ⟨ok_put h2.ok k (pad b) (pad_len b (by have := Hbl.out; omega)) (pad_lt b hb) _ _ _ (by omega) h2.ok.2.2.2.2, fun q hq => by simpa [World.setCell] using hs2.out q hq, h2.pg, h2.up, h2.ug, ?_, ?_, by simpa using h2.hc, h2.h64, h2.cn, h2.cs⟩⟩, (hK2.setCell (p := ⟨g, k, none⟩) h2.ug _).setCell (p := ⟨p, 4, none⟩) h2.up _⟩
    · have := heap_set_same (j := 4) (.int .i64 ((d.writes : Int) + 1)) (heap_set_other (b' := g) (j := k) (.string (bstr (pad b))) h2.hp h2.pg)
      simpa using this
    · have := heap_set_other (b' := p) (j := 4) (.int .i64 ((d.writes : Int) + 1)) (heap_set_same (j := k) (.string (bstr (pad b))) h2.hg) h2.pg.symm
      rw [Hset.out] at this
      exact this
  · have e : d.write k b = (101, { d with L := d.L.set k ((pad b).take m0 ++ old.drop m0), down := true, cut := none }) := by
      rw [DD.write, if_neg hdn, if_pos hc3, hcut]
      simp only [Int.toNat_natCast, hg]
    have E := Lib.hid e
    obtain ⟨e1, e2⟩ := h2.cs 0 m0 hcut
    rw [e1] at c2
    rw [e2] at c3
    have hm64 : m0 ≤ 64 := by have := h2.h64; omega
    have hm0 : (0 : Int) ≤ (m0 : Int) := by omega
    have hm1 : (m0 : Int) ≤ 64 := by omega
    have hol : old.length = 64 := (h2.ok.1 old (List.mem_of_getElem? Hk.out)).1
    have hob : ∀ c ∈ old, c < 256 := (h2.ok.1 old (List.mem_of_getElem? Hk.out)).2
    have x1 : (bstr (pad b)).extract 0 m0 = bstr ((pad b).take m0) := bstr_take _ m0 64 hpl hm64
    have x2 : (bstr old).extract m0 64 = bstr (old.drop m0) := bstr_drop _ m0 64 hol
    have s1 : (bstr (pad b)).size = 64 := by rw [bstr_size]; exact hpl
    have s2 : (bstr old).size = 64 := by rw [bstr_size]; exact hol
    have Hcut := Lib.hid hcut
    have Hpl := Lib.hid hpl
    have Hol := Lib.hid hol
    have Hob := Lib.hid hob
    have c1 := cell_of_row w2 p 1 _ _ _ h2.hp
    have c5 := cell_of_row w2 p 5 _ _ _ h2.hp
    have c6 := cell_of_row w2 p 6 _ _ _ h2.hp
    have c7 := cell_of_row w2 p 7 _ _ _ h2.hp
    simp at c1 c5 c6 c7 c2
    clear h2 hcut e hg hc3 hpl e1 e2 hol hob
    go_wp2_with fail
    obtain ⟨w5, hw5⟩ : ∃ W, W = ((w2.setCell ⟨p, 5, none⟩ (.int .i64 k)).setCell ⟨p, 6, none⟩ (.string (bstr old))).setCell ⟨p, 7, none⟩ (.string (bstr (pad b))) := ⟨_, rfl⟩
    rw [← hw5]
    have hp5 : w5.heap[p]? = some (.cells #[.slice (some ⟨g, 0, none⟩) d.L.length x.c, .bool d.down, .int .i64 x.after, .int .i64 x.bytes, .int .i64 d.writes, .int .i64 (k : Int), .string (bstr old), .string (bstr (pad b))] 49) := by
      rw [hw5]
      have := heap_set_same (j := 7) (.string (bstr (pad b))) (heap_set_same (j := 6) (.string (bstr old)) (heap_set_same (j := 5) (.int .i64 (k : Int)) H2.out.hp))
      simpa using this
    have hg5 : w5.heap[g]? = some (.cells (d.L.map sv ++ x.rest).toArray 9) := by
      rw [hw5]
      exact heap_set_other _ (heap_set_other _ (heap_set_other _ H2.out.hg hgp) hgp) hgp
    have hK5 : Kept U w w5 := by
      rw [hw5]
      exact ((hK2.setCell (p := ⟨p, 5, none⟩) H2.out.up _).setCell (p := ⟨p, 6, none⟩) H2.out.up _).setCell (p := ⟨p, 7, none⟩) H2.out.up _
    have hs5 : Hid (∀ k, U k → k < w5.heap.size) := fun q hq => by rw [hw5]; simpa [World.setCell] using hs2.out q hq
    have hb5 := (H2.out.cs 0 m0 Hcut.out).2
    clear hw5 c0 c1 c2 c3 c4 c5 c6 c7 cs fp fg
    have c0 := cell_of_row w5 p 0 _ _ _ hp5
    have c1 := cell_of_row w5 p 1 _ _ _ hp5
    have c2 := cell_of_row w5 p 2 _ _ _ hp5
    have c3 := cell_of_row w5 p 3 _ _ _ hp5
    have cs := row_str hg5 k old Hk.out
    have fp := fun j => frozen_of_row w5 p j _ _ hp5
    have fg := fun j => frozen_of_row w5 g j _ _ hg5
    rw [hb5] at c3
    simp at c0 c1 c2 c3
    have Hp5 := Lib.hid hp5
    have Hg5 := Lib.hid hg5
    have s3 : (bstr (List.take m0 (pad b))).size + (bstr (List.drop m0 old)).size = 64 := by
      rw [bstr_size, bstr_size, List.length_take, List.length_drop, Hpl.out, Hol.out]; omega
    have hap : bstr (List.take m0 (pad b)) ++ bstr (List.drop m0 old) = bstr (List.take m0 (pad b) ++ List.drop m0 old) := bstr_app _ _
    clear hp5 hg5 hb5
    go_still_tail 25, (by kernel_rfl)
    change wpList _ _ _ _ _ w5.drew
    go_wp2_with fail
    go_ret
    rw [E.out]
    have h2 := H2.out
    have hsl : (List.take m0 (pad b) ++ List.drop m0 old).length = 64 := by
      rw [List.length_append, List.length_take, List.length_drop, Hpl.out, Hol.out]; omega
    have hsb : ∀ c ∈ List.take m0 (pad b) ++ List.drop m0 old, c < 256 := fun c hc => by
      rcases List.mem_append.1 hc with hc | hc
      · exact pad_lt b hb c (List.mem_of_mem_take hc)
      · exact Hob.out c (List.mem_of_mem_drop hc)
    refine ⟨rfl, ⟨{ x with after := -1, torn := (k : Int), was := bstr old, meant := bstr (pad b) }, ⟨ok_put h2.ok k _ hsl hsb _ _ _ (by omega) (fun a b e => by cases e), fun q hq => by simpa [World.setCell] using hs5.out q hq, h2.pg, h2.up, h2.ug, ?_, ?_, by simpa using h2.hc, h2.h64, (fun _ => rfl), fun a b e => by cases e⟩⟩, ?_⟩
    · have := heap_set_same (j := 2) (.int .i64 (-1)) (heap_set_same (j := 1) (.bool true) (heap_set_other (b' := g) (j := k) (.string (bstr (List.take m0 (pad b) ++ List.drop m0 old))) Hp5.out h2.pg))
      rw [heap_drew]
      simpa using this
    · have := heap_set_other (b' := p) (j := 2) (.int .i64 (-1)) (heap_set_other (b' := p) (j := 1) (.bool true) (heap_set_same (j := k) (.string (bstr (List.take m0 (pad b) ++ List.drop m0 old))) Hg5.out) h2.pg.symm) h2.pg.symm
      rw [Hset.out] at this
      exact this
    · exact (((hK5.setCell (p := ⟨g, k, none⟩) h2.ug _).setCell (p := ⟨p, 1, none⟩) h2.up _).setCell (p := ⟨p, 2, none⟩) h2.up _).drew
  · have e : d.write k b = (0, { d with L := d.L.set k (pad b), writes := d.writes + 1, cut := some (a0, m0) }) := by
      rw [DD.write, if_neg hdn, if_pos hc3, hcut]; rfl
    have E := Lib.hid e
    obtain ⟨e1, e2⟩ := h2.cs (a0 + 1) m0 hcut
    rw [e1] at c2
    have Hcut := Lib.hid hcut
    have ha0 : ((a0 : Int) + 1 == 0) = false := by rw [beq_eq_false_iff_ne]; omega
    have ha1 : decide (0 < (a0 : Int) + 1) = true := decide_eq_true (by omega)
    have ha2 : (a0 : Int) + 1 ≤ 9223372036854775807 := by have := (h2.ok.2.2.2.2 _ _ hcut).2; omega
    have hok : Hid (∀ a b, some (a0, m0) = some (a, b) → b ≤ 64 ∧ a ≤ 9223372036854775807) := fun a b e => by
      injection e with e; injection e with e3 e4
      have := h2.ok.2.2.2.2 _ _ hcut
      omega
    have He2 := Lib.hid e2
    clear h2 hcut e hg hc3 hpl e1 e2
    go_wp2_with fail
    go_ret
    rw [E.out]
    have h2 := H2.out
    refine ⟨rfl, ⟨{ x with after := (a0 : Int) }, ⟨ok_put h2.ok k (pad b) (pad_len b (by have := Hbl.out; omega)) (pad_lt b hb) _ _ _ (by omega) hok.out, fun q hq => by simpa [World.setCell] using hs2.out q hq, h2.pg, h2.up, h2.ug, ?_, ?_, by simpa using h2.hc, h2.h64, (fun e => by cases e), fun a b e => ?_⟩⟩, ((hK2.setCell (p := ⟨g, k, none⟩) h2.ug _).setCell (p := ⟨p, 4, none⟩) h2.up _).setCell (p := ⟨p, 2, none⟩) h2.up _⟩
    · have := heap_set_same (j := 2) (.int .i64 (a0 : Int)) (heap_set_same (j := 4) (.int .i64 ((d.writes : Int) + 1)) (heap_set_other (b' := g) (j := k) (.string (bstr (pad b))) h2.hp h2.pg))
      simpa using this
    · have := heap_set_other (b' := p) (j := 2) (.int .i64 (a0 : Int)) (heap_set_other (b' := p) (j := 4) (.int .i64 ((d.writes : Int) + 1)) (heap_set_same (j := k) (.string (bstr (pad b))) h2.hg) h2.pg.symm) h2.pg.symm
      rw [Hset.out] at this
      exact this
    · injection e with e; injection e with e3 e4
      exact ⟨by show (a0 : Int) = (a : Int); omega, by have := He2.out; show x.bytes = b; omega⟩
/-- Write, of anything -/
theorem rwrite_any (U : Nat → Prop) (p g : Nat) (d : DD) (w : World) (i : Int) (A : Option Addr) (n m : Nat) (b : List Nat) (h : HR w U p g d) (hr : Rd w w.heap.size 1 A n (b.map bv)) (hb : ∀ c ∈ b, c < 256) (hw : d.writes < 1000000) :
    Calls Try.prog 19 #[.pointer (some ⟨p, 0, none⟩), .int .i64 i, .slice A n m] w (RWritePost U p g w (d.write i b)) := by
  obtain ⟨x, h⟩ := h
  have hbl : b.length = n := by have := hr.1; simpa using this
  by_cases hd : d.down = true
  · have e : d.write i b = (101, d) := by rw [DD.write, if_pos hd]
    rw [e]; exact rwrite_down U p g d x w i _ h hd
  · have hd' : d.down = false := by simpa using hd
    by_cases hi : 0 ≤ i ∧ i < d.L.length ∧ n ≤ 64
    · obtain ⟨k, rfl⟩ : ∃ k : Nat, i = (k : Int) := ⟨i.toNat, by omega⟩
      obtain ⟨old, hk⟩ : ∃ s, d.L[k]? = some s := ⟨_, List.getElem?_eq_getElem (by omega)⟩
      exact rwrite_fine U p g d x w k A n m b old h hd' hk hr hi.2.2 hb hw
    · have e : d.write i b = (1, d) := by rw [DD.write, if_neg hd, if_neg (by omega)]
      rw [e]; exact rwrite_far U p g d x w i A n m h hd' hi
end Go.Proofs.Ytonbfolgdfkgnaa
