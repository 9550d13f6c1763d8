/- Write, of package sector: the write that is cut; Write of anything. -/
import Derived.Test.YtcdgaeenfhpnkaaSecC
set_option linter.unusedVariables false
set_option linter.unusedSimpArgs false
set_option maxRecDepth 100000
namespace Go.Proofs.Ytcdgaeenfhpnkaa
open Go Go.RowKit

theorem wp_cpy_at {P : Program} {w : World} {o : Oper} {a : Act} {K : Act → World → Prop} {Q : Exit → Act → World → Prop} (d s : Operand) (dT sT : TypeId)
    (ho : o.op = .call { callee := .builtin .copy, args := #[d, s], argTypes := #[dT, sT] }) (elem : TypeId) (hu : P.underlying dT = some (.slice elem)) (hsz : (P.info? elem).map (·.size) = some 1)
    (g off dLen dCap : Nat) (ad : Addr) (sLen sCap : Nat) (hd : a.eval d = .slice (some ⟨g, off, none⟩) dLen dCap) (hs : a.eval s = .slice (some ad) sLen sCap)
    (cur : Array Value) (t : TypeId) (hg : w.heap[g]? = some (.cells cur t (0, 0))) (cs : List Value) (hn : cs.length = Nat.min sLen dLen)
    (hsrc : ∀ j v, cs[j]? = some v → w.cell? (ad.add j) = some v) (hfit : off + cs.length ≤ cur.size) (h1 : ∀ v ∈ cs, v.oneCell' = true)
    (row : List Value) (hrow : row = cur.toList.take off ++ (cs ++ cur.toList.drop (off + cs.length)))
    (h : K (a.put o.dst (goInt cs.length)) (w.setRow g row.toArray)) : Oper.wp P o a w K Q := by
  subst hrow
  have hrun := run_copy_row (P := P) w dT sT o.type elem g off dLen dCap ad sLen sCap cur t cs hu hsz hg hn hsrc hfit h1
  unfold Oper.wp
  simp [execOp, ho, resolve, invoke, builtin, hd, hs, hrun, Result.andThen]
  exact h

set_option maxHeartbeats 1000000 in
theorem write_torn (U : Nat → Prop) (p q c : Nat) (d : DD) (w : World) (k : Nat) (A : Option Addr) (n m : Nat) (b old : List Nat) (h : HDc w U p q c d) (hd : d.down = false) (m0 : Nat) (hc : d.cut = some (0, m0)) (hk : d.L[k]? = some old) (hr : Rd w w.heap.size 1 A n (b.map bv)) (hn : n ≤ 64) (hb : ∀ c ∈ b, c < 256) :
    Calls Try.prog 85 #[.pointer (some ⟨p, 0, none⟩), .int .i64 k, .slice A n m] w (WritePost U p q w (101, { d with L := d.L.set k ((pad b).take m0 ++ old.drop m0), down := true, cut := none })) := by
  have hbl : b.length = n := by have := hr.1; simpa using this
  have hkl : k < d.L.length := (List.getElem?_eq_some_iff.1 hk).1
  have c1 := cell_of_row w p 1 _ _ _ h.hp
  have c2 := cell_of_row w p 2 _ _ _ h.hp
  have c0 := cell_of_row w p 0 _ _ _ h.hp
  have c3 := cell_of_row w p 3 _ _ _ h.hp
  simp [hd, hc, cutP] at c1 c2 c0 c3
  obtain ⟨hcp, hcq, hcu, hch⟩ := h.hc _ _ hc
  have hch' : Hid (w.heap[c]? = some (.cells #[.int .i64 0, .int .i64 m0] 101)) := hch
  have hm64 : m0 ≤ 64 := (h.ok.2.2.2.2 _ _ hc).1
  have hm64i : (m0 : Int) ≤ 64 := by omega
  have hm0i : (0 : Int) ≤ (m0 : Int) := by omega
  clear hch
  have H : Hid (HDc w U p q c d) := h
  have H' : Hid (HD w U p q d) := ⟨c, h⟩
  have T : Hid (0 ≤ (k : Int) ∧ (k : Int) < d.L.length) := ⟨by omega, by omega⟩
  have h64 : ¬ (64 : Int) < (n : Int) := by omega
  have hl256 := h.ok.2.1
  have hd' := Lib.hid hd
  have hc' := Lib.hid hc
  have hk' := Lib.hid hk
  clear h hd hc hk
  go_enter Try.func85, Try.ntmps85
  go_wp2_with (first
    | (go_at_call 96; (with_reducible refine (has_yes U p q d _ _ H'.out T.out).mono ?_); rintro e w ⟨rfl, rfl⟩)
    | (with_reducible refine wpList_copy_splice rfl (.tmp 21) (.tmp 22) 27 27 rfl 5 Try.underlying27 ?f1 _ _ _ _ _ _ rfl rfl w.heap.size 0 z64 150 ?f0 (b.map bv) ?f2 ?f3 ?f4 (bv_one b) w.heap.size w ?f5 (Nat.le_refl _) ?_))
  case f0 => exact heap_alloc_new w _
  case f1 => kernel_rfl
  case f2 => simp only [List.length_map]; show _ = min n 64; omega
  case f3 =>
    intro hpos
    have hn0 : 0 < n := by
      first
        | omega
        | (simp at hpos; omega)
    obtain ⟨b', o', rfl, hlt, hcell⟩ := hr.2 hn0
    have hh : ∀ (o : Obj) (j : Nat) (v : Value), (b.map bv)[j]? = some v → (w.alloc o).cell? ((⟨b', o', none⟩ : Addr).add j) = some v := fun o j v hj => by rw [addr_add, World.cell?_alloc_lt _ _ _ hlt]; exact hcell j v hj
    first
      | exact ⟨rfl, _, rfl, hh _⟩
      | exact ⟨_, rfl, hh _⟩
      | exact ⟨_, rfl, fun j a ha => hh _ j (bv a) (by rw [List.getElem?_map, ha]; rfl)⟩
  case f4 => simp [z64]; omega
  case f5 => exact (Below.refl _ _).alloc (Nat.le_refl _) _
  intro w2 hg2 hb2
  rw [pad_splice b (by omega)] at hg2
  have hH2 := H.out.below hb2
  have c2' := cell_of_row w2 p 2 _ _ _ hH2.hp
  simp [hc'.out, cutP] at c2'
  have hg2' : Hid (w2.heap[w.heap.size]? = some (.cells ((pad b).map bv).toArray 150)) := hg2
  have c0' := cell_of_row w2 p 0 _ _ _ hH2.hp
  simp at c0'
  have hpl := pad_len b (by omega)
  have hth := there_of_row (k * 64) 64 hH2.hq (by rw [List.size_toArray, flat_len _ (fun s hs => (hH2.ok.1 s hs).1)]; have := T.out; omega)
  have hHt := Lib.hid hth
  have hH2h : Hid (HDc w2 U p q c d) := hH2
  have hq2 : p ≠ q := hH2.pq
  have hgq : w.heap.size ≠ q := fun e => by have h1 := (Array.getElem?_eq_some_iff.1 H.out.hq).1; omega
  have hch2 : w2.heap[c]? = some (.cells #[.int .i64 0, .int .i64 m0] 101) := by
    have h1 := (Array.getElem?_eq_some_iff.1 hch'.out).1
    rw [hb2.block c h1]; exact hch'.out
  have cc0 := cell_of_row w2 c 0 _ _ _ hch2
  have cc1 := cell_of_row w2 c 1 _ _ _ hch2
  simp at cc0 cc1
  have Hch2 := Lib.hid hch2
  clear c0 c1 c2 c3 hth hg2 hch2 hHt
  go_wp2_with fail
  obtain ⟨cs, hcs⟩ : ∃ cs, cs = ((pad b).take m0).map bv := ⟨_, rfl⟩
  have hcl : cs.length = m0 := by rw [hcs]; simp [hpl]; omega
  have hc1' : ∀ v ∈ cs, v.oneCell' = true := by rw [hcs]; exact bv_one _
  have hsrc : ∀ (W : World), W.heap = w2.heap → ∀ j v, cs[j]? = some v → W.cell? ((⟨w.heap.size, 0, none⟩ : Addr).add j) = some v := by
    intro W hW j v hj
    rw [addr_add, Nat.zero_add, cell_of_row W w.heap.size j ((pad b).map bv).toArray _ _ (by rw [hW]; exact hg2'.out)]
    rw [hcs, List.map_take, List.getElem?_take] at hj
    split at hj
    · simpa using hj
    · cases hj
  have hfl : (flat d.L).length = 64 * d.L.length := flat_len _ (fun s hs => (hH2h.out.ok.1 s hs).1)
  have hfit : k * 64 + cs.length ≤ (flat d.L).toArray.size := by rw [List.size_toArray, hfl, hcl]; omega
  obtain ⟨row, hrow⟩ : ∃ row, row = (flat d.L).toArray.toList.take (k * 64) ++ (cs ++ (flat d.L).toArray.toList.drop (k * 64 + cs.length)) := ⟨_, rfl⟩
  have hset : ∀ x, x ≠ q → (w2.drew.setRow q row.toArray).heap[x]? = w2.heap[x]? := fun x hx => setRow_other w2.drew q x _ hx
  have hAft : Hid ((w2.drew.setRow q row.toArray).cell? ⟨p, 0, none⟩ = some (.slice (some ⟨q, 0, none⟩) d.L.length d.L.length) ∧ (w2.drew.setRow q row.toArray).cell? ⟨p, 2, none⟩ = some (.pointer (some ⟨c, 0, none⟩)) ∧ (w2.drew.setRow q row.toArray).cell? ⟨c, 1, none⟩ = some (.int .i64 (m0 : Int))) := by
    refine ⟨?_, ?_, ?_⟩
    · rw [World.cell?_of_block (w := w2) (hset p hq2)]; exact c0'
    · rw [World.cell?_of_block (w := w2) (hset p hq2)]; exact c2'
    · rw [World.cell?_of_block (w := w2) (hset c hcq)]; exact cc1
  have hqh : Hid (w2.drew.heap[q]? = some (.cells (flat d.L).toArray 150)) := hH2h.out.hq
  have Hsrc := Lib.hid hsrc
  have Hrow := Lib.hid hrow
  have Hfit := Lib.hid hfit
  have Hcs := Lib.hid hcs
  have Hset := Lib.hid hset
  have hmin : Hid (cs.length = Nat.min 64 m0) := by show _ = min 64 m0; omega
  clear hsrc hrow hfit hcs hset hH2 hfl
  refine startH (fun w' => w'.cell? ⟨p, 0, none⟩ = some (.slice (some ⟨q, 0, none⟩) d.L.length d.L.length) ∧ w'.cell? ⟨p, 2, none⟩ = some (.pointer (some ⟨c, 0, none⟩)) ∧ w'.cell? ⟨c, 1, none⟩ = some (.int .i64 (m0 : Int))) 16 #[false, false, false, false, false, false, false, false, false, false, false, false, false, false, false, false] rfl rfl (by kernel_rfl) ?_ (fun hHeld => ?_)
  · (first | exact ⟨c0', c2', cc1⟩ | exact hAft.out | exact hHeld)
  refine takeH 0 39 #[true, false, false, false, false, false, false, false, false, false, false, false, false, false, false, false] (v := ?_) rfl rfl rfl (by kernel_rfl) (by kernel_rfl) (by kernel_rfl) (fun _ _ _ h => h) (Or.inl ⟨by rfl, ?_⟩) hHeld ?_
  rotate_left
  · (intro w' hSw; (try dsimp only at hSw); go_simp; (try with_reducible rfl))
  simp only [List.set_cons_zero, List.set_cons_succ]
  refine takeH 1 40 #[true, true, false, false, false, false, false, false, false, false, false, false, false, false, false, false] (v := ?_) rfl rfl rfl (by kernel_rfl) (by kernel_rfl) (by kernel_rfl) (fun _ _ _ h => h) (Or.inl ⟨by rfl, ?_⟩) hHeld ?_
  rotate_left
  · (intro w' hSw; (try dsimp only at hSw); go_simp; (try with_reducible rfl))
  simp only [List.set_cons_zero, List.set_cons_succ]
  refine takeH 2 41 #[true, true, true, false, false, false, false, false, false, false, false, false, false, false, false, false] (v := ?_) rfl rfl rfl (by kernel_rfl) (by kernel_rfl) (by kernel_rfl) (fun _ _ _ h => h) (Or.inl ⟨by rfl, ?_⟩) hHeld ?_
  rotate_left
  · (intro w' hSw; (try dsimp only at hSw); go_simp; (try with_reducible rfl))
  simp only [List.set_cons_zero, List.set_cons_succ]
  refine takeH 3 42 #[true, true, true, true, false, false, false, false, false, false, false, false, false, false, false, false] (v := ?_) rfl rfl rfl (by kernel_rfl) (by kernel_rfl) (by kernel_rfl) (fun _ _ _ h => h) (Or.inl ⟨by rfl, ?_⟩) hHeld ?_
  rotate_left
  · (intro w' hSw; (try dsimp only at hSw); go_simp; (try with_reducible rfl))
  simp only [List.set_cons_zero, List.set_cons_succ]
  refine takeH 4 43 #[true, true, true, true, true, false, false, false, false, false, false, false, false, false, false, false] (v := ?_) rfl rfl rfl (by kernel_rfl) (by kernel_rfl) (by kernel_rfl) (fun _ _ _ h => h) (Or.inl ⟨by rfl, ?_⟩) hHeld ?_
  rotate_left
  · (intro w' hSw; (try dsimp only at hSw); go_simp; (try with_reducible rfl))
  simp only [List.set_cons_zero, List.set_cons_succ]
  refine takeH 5 44 #[true, true, true, true, true, true, false, false, false, false, false, false, false, false, false, false] (v := ?_) rfl rfl rfl (by kernel_rfl) (by kernel_rfl) (by kernel_rfl) (fun _ _ _ h => h) (Or.inl ⟨by rfl, ?_⟩) hHeld ?_
  rotate_left
  · (intro w' hSw; (try dsimp only at hSw); go_simp; (try with_reducible rfl))
  simp only [List.set_cons_zero, List.set_cons_succ]
  refine takeH 6 45 #[true, true, true, true, true, true, true, false, false, false, false, false, false, false, false, false] (v := ?_) rfl rfl rfl (by kernel_rfl) (by kernel_rfl) (by kernel_rfl) (fun _ _ _ h => h) (Or.inl ⟨by rfl, ?_⟩) hHeld ?_
  rotate_left
  · (intro w' hSw; (try dsimp only at hSw); go_simp; (try with_reducible rfl))
  simp only [List.set_cons_zero, List.set_cons_succ]
  refine takeH 7 46 #[true, true, true, true, true, true, true, true, false, false, false, false, false, false, false, false] (v := ?_) rfl rfl rfl (by kernel_rfl) (by kernel_rfl) (by kernel_rfl) (fun _ _ _ h => h) (Or.inl ⟨by rfl, ?_⟩) hHeld ?_
  rotate_left
  · (intro w' hSw; (try dsimp only at hSw); go_simp; (try with_reducible rfl))
  simp only [List.set_cons_zero, List.set_cons_succ]
  refine takeH 8 47 #[true, true, true, true, true, true, true, true, true, false, false, false, false, false, false, false] (v := ?_) rfl rfl rfl (by kernel_rfl) (by kernel_rfl) (by kernel_rfl) (fun _ _ _ h => h) (Or.inl ⟨by rfl, ?_⟩) hHeld ?_
  rotate_left
  · (intro w' hSw; (try dsimp only at hSw); go_simp; (try with_reducible rfl))
  simp only [List.set_cons_zero, List.set_cons_succ]
  refine takeH 9 48 #[true, true, true, true, true, true, true, true, true, true, false, false, false, false, false, false] (v := ?_) rfl rfl rfl (by kernel_rfl) (by kernel_rfl) (by kernel_rfl) (fun _ _ _ h => h) (Or.inl ⟨by rfl, ?_⟩) hHeld ?_
  rotate_left
  · (intro w' hSw; (try dsimp only at hSw); go_simp; (try with_reducible rfl))
  simp only [List.set_cons_zero, List.set_cons_succ]
  refine takeH 10 49 #[true, true, true, true, true, true, true, true, true, true, true, false, false, false, false, false] (v := ?_) rfl rfl rfl (by kernel_rfl) (by kernel_rfl) (by kernel_rfl) (fun _ _ _ h => h) (Or.inl ⟨by rfl, ?_⟩) hHeld ?_
  rotate_left
  · (intro w' hSw; (try dsimp only at hSw); go_simp; (try with_reducible rfl))
  simp only [List.set_cons_zero, List.set_cons_succ]
  refine takeH 11 50 #[true, true, true, true, true, true, true, true, true, true, true, true, false, false, false, false] (v := ?_) rfl rfl rfl (by kernel_rfl) (by kernel_rfl) (by kernel_rfl) (fun _ _ _ h => h) (Or.inl ⟨by rfl, ?_⟩) hHeld ?_
  rotate_left
  · (intro w' hSw; (try dsimp only at hSw); go_simp; (try with_reducible rfl))
  simp only [List.set_cons_zero, List.set_cons_succ]
  refine takeH 12 51 #[true, true, true, true, true, true, true, true, true, true, true, true, true, false, false, false] (v := ?_) rfl rfl rfl (by kernel_rfl) (by kernel_rfl) (by kernel_rfl) (fun _ _ _ h => h) (Or.inl ⟨by rfl, ?_⟩) hHeld ?_
  rotate_left
  · (intro w' hSw; (try dsimp only at hSw); go_simp; (try with_reducible rfl))
  simp only [List.set_cons_zero, List.set_cons_succ]
  refine takeH 13 52 #[true, true, true, true, true, true, true, true, true, true, true, true, true, true, false, false] (v := ?_) rfl rfl rfl (by kernel_rfl) (by kernel_rfl) (by kernel_rfl) (fun _ _ _ h => h) (Or.inl ⟨by rfl, ?_⟩) hHeld ?_
  rotate_left
  · (intro w' hSw; (try dsimp only at hSw); go_simp; (try with_reducible rfl))
  simp only [List.set_cons_zero, List.set_cons_succ]
  refine takeH 14 53 #[true, true, true, true, true, true, true, true, true, true, true, true, true, true, true, false] (v := ?_) rfl rfl rfl (by kernel_rfl) (by kernel_rfl) (by kernel_rfl) (fun _ _ _ h => h) (Or.inl ⟨by rfl, ?_⟩) hHeld ?_
  rotate_left
  · (intro w' hSw; (try dsimp only at hSw); go_simp; (try with_reducible rfl))
  simp only [List.set_cons_zero, List.set_cons_succ]
  refine branchH 15 54 #[true, true, true, true, true, true, true, true, true, true, true, true, true, true, true, true] (by kernel_rfl) rfl rfl rfl (by rfl) (fun K hK => ?_)
  refine wp_cpy_at (.tmp 52) (.tmp 53) 27 27 rfl 5 Try.underlying27 (by kernel_rfl) q (k * 64) m0 64 ⟨w.heap.size, 0, none⟩ 64 64 rfl rfl (flat d.L).toArray 150 hqh.out cs hmin.out (Hsrc.out _ rfl) Hfit.out hc1' row Hrow.out ?_
  refine hK.out _ _ ?_ (fun hHeld' => ?_)
  · (first | exact ⟨c0', c2', cc1⟩ | exact hAft.out | exact hHeld)
  clear hK K hHeld
  have hHeld := hHeld'
  clear hHeld'
  simp only [List.set_cons_zero, List.set_cons_succ]
  refine wpAnyH_done (by kernel_rfl) ?_ _
  refine NoPanic.normal ?_
  obtain ⟨w3, hw3⟩ : ∃ W, W = w2.drew.setRow q row.toArray := ⟨_, rfl⟩
  have hsz3 : w3.heap.size = w2.heap.size := by rw [hw3]; show (Array.modify _ _ _).size = _; rw [Array.size_modify]; rfl
  have hp3 : w3.heap[p]? = some (.cells #[.slice (some ⟨q, 0, none⟩) d.L.length d.L.length, .bool d.down, cutP c d.cut, .int .i64 d.writes] 82) := by rw [hw3, Hset.out p hq2]; exact hH2h.out.hp
  have hq3 : w3.heap[q]? = some (.cells (flat (d.L.set k ((pad b).take m0 ++ old.drop m0))).toArray 150) := by
    have h1 := flat_splice d.L k old ((pad b).take m0) (fun s hs => (hH2h.out.ok.1 s hs).1) hk'.out (by simp [hpl]; omega)
    rw [List.length_take, hpl, show min m0 64 = m0 by omega] at h1
    rw [hw3, setRow_heap w2.drew q _ row.toArray _ _ hqh.out, ← h1, Hrow.out, Hcs.out]
    rfl
  have hK3 : Kept U w w3 := by
    refine (Kept.of hb2 H.out.old).trans ⟨by rw [hw3]; rfl, by rw [hw3]; rfl, by rw [hw3]; rfl, by rw [hsz3]; exact Nat.le_refl _, fun x hx => ?_⟩
    rw [hw3]
    exact Hset.out x (fun e => hH2h.out.uq (e ▸ hx))
  rw [← hw3]
  clear hHeld hAft c0' c2' cc0 cc1 hqh Hsrc Hrow Hfit Hcs Hset hmin hw3 hcl hc1'
  have c1 := cell_of_row w3 p 1 _ _ _ hp3
  have c2 := cell_of_row w3 p 2 _ _ _ hp3
  have f1 := frozen_of_row w3 p 1 _ _ hp3
  have f2 := frozen_of_row w3 p 2 _ _ hp3
  simp [hc'.out, cutP, hd'.out] at c1 c2
  have Hp := Lib.hid hp3
  have Hq := Lib.hid hq3
  clear hp3 hq3
  go_wp2_with fail
  go_ret
  have h2 := hH2h.out
  have hol : old.length = 64 := (h2.ok.1 old (List.mem_of_getElem? hk'.out)).1
  have hob := (h2.ok.1 old (List.mem_of_getElem? hk'.out)).2
  refine ⟨rfl, ⟨c, ⟨ok_put h2.ok k _ (by simp [hpl, hol]; omega) (fun x hx => ?_) _ _ _ h2.ok.2.2.2.1 (fun a b e => by cases e), fun x hx => ?_, h2.pq, h2.up, h2.uq, ?_, ?_, fun a b e => by cases e⟩⟩, (hK3.setCell (p := ⟨p, 1, none⟩) h2.up _).setCell (p := ⟨p, 2, none⟩) h2.up _⟩
  · rcases List.mem_append.1 hx with hx | hx
    · exact pad_lt b hb x (List.mem_of_mem_take hx)
    · exact hob x (List.mem_of_mem_drop hx)
  · have h1 := H.out.old x hx
    have h3 := hK3.size
    simp [World.setCell]; omega
  · have := heap_set_same (j := 2) (.pointer none) (heap_set_same (j := 1) (.bool true) Hp.out)
    simpa [cutP] using this
  · exact heap_set_other _ (heap_set_other _ Hq.out h2.pq.symm) h2.pq.symm

/-- Write, of anything -/
theorem write_any (U : Nat → Prop) (p q : Nat) (d : DD) (w : World) (i : Int) (A : Option Addr) (n m : Nat) (b : List Nat) (h : HD w U p q d) (hr : Rd w w.heap.size 1 A n (b.map bv)) (hb : ∀ c ∈ b, c < 256) (hw : d.writes < 1000000) :
    Calls Try.prog 85 #[.pointer (some ⟨p, 0, none⟩), .int .i64 i, .slice A n m] w (WritePost U p q w (d.write i b)) := by
  obtain ⟨c, h⟩ := h
  have hbl : b.length = n := by have := hr.1; simpa using this
  by_cases hd : d.down = true
  · have e : d.write i b = (101, d) := by rw [DD.write, if_pos hd]
    rw [e]; exact write_down U p q c d w i _ h hd
  · have hd' : d.down = false := by simpa using hd
    by_cases hi : 0 ≤ i ∧ i < d.L.length
    · by_cases hn : n ≤ 64
      · obtain ⟨k, rfl⟩ : ∃ k : Nat, i = (k : Int) := ⟨i.toNat, by omega⟩
        obtain ⟨old, hk⟩ : ∃ s, d.L[k]? = some s := ⟨_, List.getElem?_eq_getElem (by omega)⟩
        have hg : d.L.getD k [] = old := by rw [List.getD_eq_getElem?_getD, hk]; rfl
        have hc3 : 0 ≤ (k : Int) ∧ (k : Int) < d.L.length ∧ b.length ≤ 64 := ⟨hi.1, hi.2, by omega⟩
        rcases hcut : d.cut with _ | ⟨_ | a0, m0⟩
        · have e : d.write k b = (0, { d with L := d.L.set k (pad b), writes := d.writes + 1 }) := by
            rw [DD.write, if_neg hd, if_pos hc3, hcut]; rfl
          rw [e]; exact write_none U p q c d w k A n m b old h hd' hcut hk hr hn hb hw
        · have e : d.write k b = (101, { d with L := d.L.set k ((pad b).take m0 ++ old.drop m0), down := true, cut := none }) := by
            rw [DD.write, if_neg hd, if_pos hc3, hcut]
            simp only [Int.toNat_natCast, hg]
          rw [e]; exact write_torn U p q c d w k A n m b old h hd' m0 hcut hk hr hn hb
        · have e : d.write k b = (0, { d with L := d.L.set k (pad b), writes := d.writes + 1, cut := some (a0, m0) }) := by
            rw [DD.write, if_neg hd, if_pos hc3, hcut]; rfl
          rw [e]; exact write_some U p q c d w k A n m b old h hd' a0 m0 hcut hk hr hn hb hw
      · have e : d.write i b = (1, d) := by rw [DD.write, if_neg hd, if_neg (by omega)]
        rw [e]; exact write_long U p q c d w i A n m h hd' hi (by omega)
    · have e : d.write i b = (1, d) := by rw [DD.write, if_neg hd, if_neg (by omega)]
      rw [e]; exact write_far U p q c d w i _ h hd' hi
end Go.Proofs.Ytcdgaeenfhpnkaa
