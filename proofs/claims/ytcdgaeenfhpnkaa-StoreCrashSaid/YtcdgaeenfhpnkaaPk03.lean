/- Write, of package sector: contract. -/
import Derived.Test.YtcdgaeenfhpnkaaPk02
set_option linter.unusedVariables false
set_option linter.unusedSimpArgs false
set_option maxRecDepth 100000
namespace Go.Proofs.Ytcdgaeenfhpnkaa
open Go Go.RowKit

theorem branchN {P : Program} {ops : Array Oper} {Q : Exit → Act → World → Prop} {md : Region.Mode} {S : World → Prop} (i : Nat) (L : Array Bool) {o : Oper} {fuel : Nat} {listed : Array Bool} {l : List Value} {ds : List Deferred} {w : World}
    (hr : Region.ready md ops listed = [i]) (ho : ops[i]? = some o) (hd : o.dst = none) (hL : listed.setIfInBounds i true = L) (hg : Region.wanted o (yielded ops l.toArray) = true)
    (h : ∀ K' : Act → World → Prop, Shut (∀ v w, S w → (S w → wpAnyH P md ops Q S fuel L ⟨l.toArray, ds⟩ w) → K' (Act.put ⟨l.toArray, ds⟩ none v) w) → Oper.wp P o ⟨l.toArray, ds⟩ w K' Q) :
    wpAnyH P md ops Q S (fuel + 1) listed ⟨l.toArray, ds⟩ w := by
  subst hL
  refine wpAnyH_ready hr (by simp) (AllReadyH.cons ho (fun K hK => ?_) AllReadyH.nil)
  rw [if_pos hg]
  refine h K fun v w hS hW => hK.out _ _ hS fun hS' => ?_
  have := hW hS'
  exact this
theorem bn {P : Program} {ops : Array Oper} {Q : Exit → Act → World → Prop} {md : Region.Mode} {S : World → Prop} (i : Nat) {o : Oper} {fuel : Nat} {listed : Array Bool} {l : List Value} {ds : List Deferred} {w : World}
    (h : ∀ K' : Act → World → Prop, Shut (∀ v w, S w → (S w → wpAnyH P md ops Q S fuel (listed.setIfInBounds i true) ⟨l.toArray, ds⟩ w) → K' (Act.put ⟨l.toArray, ds⟩ none v) w) → Oper.wp P o ⟨l.toArray, ds⟩ w K' Q)
    (hr : Region.ready md ops listed = [i] := by kernel_rfl) (ho : ops[i]? = some o := by rfl) (hd : o.dst = none := by rfl) (hg : Region.wanted o (yielded ops l.toArray) = true := by rfl) : wpAnyH P md ops Q S (fuel + 1) listed ⟨l.toArray, ds⟩ w := branchN i _ hr ho hd rfl hg h

theorem heap_setCells_other (b : Nat) : ∀ (vs : List Value) (o : Nat) (w : World) (k : Nat), k ≠ b → (w.setCells b o vs).heap[k]? = w.heap[k]?
  | [], _, _, _, _ => rfl
  | v :: r, o, w, k, h => by
    rw [World.setCells, heap_setCells_other b r (o + 1) _ k h]
    exact Below.heap_setCell _ _ _ _ h
theorem os_setCells (b : Nat) : ∀ (vs : List Value) (o : Nat) (w : World), (w.setCells b o vs).os = w.os
  | [], _, _ => rfl
  | v :: r, o, w => by rw [World.setCells, os_setCells b r (o + 1) _]; rfl
theorem tape_setCells (b : Nat) : ∀ (vs : List Value) (o : Nat) (w : World), (w.setCells b o vs).tape = w.tape
  | [], _, _ => rfl
  | v :: r, o, w => by rw [World.setCells, tape_setCells b r (o + 1) _]; rfl
theorem output_setCells (b : Nat) : ∀ (vs : List Value) (o : Nat) (w : World), (w.setCells b o vs).output = w.output
  | [], _, _ => rfl
  | v :: r, o, w => by rw [World.setCells, output_setCells b r (o + 1) _]; rfl
theorem size_setCells (b : Nat) : ∀ (vs : List Value) (o : Nat) (w : World), (w.setCells b o vs).heap.size = w.heap.size
  | [], _, _ => rfl
  | v :: r, o, w => by
    rw [World.setCells, size_setCells b r (o + 1) _]
    simp [World.setCell]
theorem splice_cons (cur : Array Value) (o : Nat) (v : Value) (r : List Value) (h : o + (v :: r).length ≤ cur.size) : splice (cur.setIfInBounds o v).toList (o + 1) r = splice cur.toList o (v :: r) := by
  simp only [List.length_cons] at h
  simp only [Array.toList_setIfInBounds, splice, List.length_cons]
  have ho : o < cur.toList.length := by simp; omega
  rw [List.take_succ_eq_append_getElem (by simpa using ho), List.take_set_of_le (by omega), List.drop_set_of_lt (by omega)]
  simp
  rw [show o + 1 + r.length = o + (r.length + 1) by omega]
theorem heap_setCells_same (b : Nat) (t : TypeId) (fr : Nat × Nat) : ∀ (vs : List Value) (o : Nat) (w : World) (cur : Array Value), w.heap[b]? = some (.cells cur t fr) → o + vs.length ≤ cur.size → (w.setCells b o vs).heap[b]? = some (.cells (splice cur.toList o vs).toArray t fr)
  | [], o, w, cur, h, _ => by
    simp [World.setCells, splice, h]
  | v :: r, o, w, cur, h, hl => by
    rw [World.setCells]
    have := heap_setCells_same b t fr r (o + 1) _ _ (heap_set_same (j := o) v h) (by simp only [List.length_cons] at hl; simp; omega)
    rw [this, splice_cons cur o v r hl]

theorem there_of_row {w : World} {q : Nat} {cs : Array Value} {t : TypeId} (o n : Nat) (h : w.heap[q]? = some (.cells cs t (0, 0))) (hn : o + n ≤ cs.size) : w.there q o n := fun j hj => by
  constructor
  · rw [cell_of_row _ _ _ _ _ _ h]
    simp; omega
  · exact frozen_of_row _ _ _ _ _ h
theorem flat_splice : ∀ (L : List (List Nat)) (k : Nat) (old ys : List Nat), (∀ s ∈ L, s.length = 64) → L[k]? = some old → ys.length ≤ 64 →
    splice (flat L) (k * 64) (ys.map bv) = flat (L.set k (ys ++ old.drop ys.length))
  | [], k, old, ys, _, h, _ => by simp at h
  | a :: L, 0, old, ys, hL, h, hy => by
    simp only [List.getElem?_cons_zero, Option.some.injEq] at h
    subst h
    have ha : a.length = 64 := hL a (by simp)
    have e : ∀ (a : List Nat) (L : List (List Nat)), flat (a :: L) = a.map bv ++ flat L := fun a L => by simp [flat]
    rw [List.set_cons_zero, e, e]
    simp only [splice, Nat.zero_mul, List.take_zero, List.nil_append, Nat.zero_add, List.length_map, List.map_append, List.append_assoc, List.map_drop]
    rw [List.drop_append_of_le_length (by simp; omega)]
  | a :: L, k + 1, old, ys, hL, h, hy => by
    have ha : a.length = 64 := hL a (by simp)
    have e : ∀ (a : List Nat) (L : List (List Nat)), flat (a :: L) = a.map bv ++ flat L := fun a L => by simp [flat]
    simp only [List.getElem?_cons_succ] at h
    have ih := flat_splice L k old ys (fun s hs => hL s (by simp [hs])) h hy
    rw [List.set_cons_succ, e, e, ← ih]
    unfold splice
    rw [List.take_append, List.drop_append]
    rw [List.take_of_length_le (by simp; omega), List.drop_eq_nil_of_le (by simp; omega)]
    simp only [List.length_map, ha, List.append_assoc, List.nil_append]
    rw [show (k + 1) * 64 - 64 = k * 64 by omega, show (k + 1) * 64 + ys.length - 64 = k * 64 + ys.length by omega]

def pad (b : List Nat) : List Nat := b ++ List.replicate (64 - b.length) 0
theorem pad_len (b : List Nat) (h : b.length ≤ 64) : (pad b).length = 64 := by simp [pad]; omega
theorem pad_lt (b : List Nat) (h : ∀ c ∈ b, c < 256) : ∀ c ∈ pad b, c < 256 := by
  intro c hc
  simp only [pad, List.mem_append] at hc
  rcases hc with hc | hc
  · exact h c hc
  · have := (List.mem_replicate.1 hc).2; omega
def z64 : List Value := List.replicate 64 (.int .u8 0)
theorem pad_splice (b : List Nat) (h : b.length ≤ 64) : splice z64 0 (b.map bv) = (pad b).map bv := by
  have e : List.drop b.length (List.replicate 64 (Value.int .u8 0)) = List.replicate (64 - b.length) (.int .u8 0) := List.drop_replicate
  unfold splice pad z64
  rw [List.take_zero, List.nil_append, Nat.zero_add, List.length_map, e, List.map_append, List.map_replicate]
  rfl
theorem wrote {w w2 w3 : World} {U : Nat → Prop} {p q c k : Nat} {d : DD} {s old : List Nat} (h : HDc w2 U p q c d) (h0 : HDc w U p q c d) (hb : Below w.heap.size w w2) (hs : s.length = 64) (hk : d.L[k]? = some old) (e : w3 = w2.drew.setCells q (k * 64) (s.map bv)) :
    w3.heap[p]? = some (.cells #[.slice (some ⟨q, 0, none⟩) d.L.length d.L.length, .bool d.down, cutP c d.cut, .int .i64 d.writes] 82) ∧
    w3.heap[q]? = some (.cells (flat (d.L.set k s)).toArray 150) ∧ Kept U w w3 ∧ (∀ x, x ≠ q → w3.heap[x]? = w2.heap[x]?) := by
  subst e
  have hkl : k < d.L.length := (List.getElem?_eq_some_iff.1 hk).1
  have h64 : ∀ s ∈ d.L, s.length = 64 := fun s hs => (h.ok.1 s hs).1
  have hol := h64 old (List.mem_of_getElem? hk)
  have ho : ∀ x, x ≠ q → (w2.drew.setCells q (k * 64) (s.map bv)).heap[x]? = w2.heap[x]? := fun x hx => heap_setCells_other q _ _ w2.drew x hx
  refine ⟨by rw [ho p h.pq]; exact h.hp, ?_, ?_, ho⟩
  · have := heap_setCells_same q 150 (0, 0) (s.map bv) (k * 64) w2.drew _ h.hq (by rw [List.size_toArray, flat_len _ h64, List.length_map, hs]; omega)
    rw [this, List.toList_toArray, flat_splice d.L k old s h64 hk (by omega), hs, List.drop_eq_nil_of_le (by omega), List.append_nil]
  · refine (Kept.of hb h0.old).trans ⟨?_, ?_, ?_, ?_, fun x hx => ho x (fun e => h.uq (e ▸ hx))⟩
    · exact os_setCells q _ _ _
    · exact tape_setCells q _ _ _
    · exact output_setCells q _ _ _
    · rw [size_setCells]; exact Nat.le_refl _
theorem ok_put {d : DD} (h : d.ok) (k : Nat) (s : List Nat) (hs : s.length = 64) (hb : ∀ c ∈ s, c < 256) (down : Bool) (cut : Option (Nat × Nat)) (wr : Nat) (hw : wr ≤ 1000000) (hc : ∀ a b, cut = some (a, b) → b ≤ 64 ∧ a ≤ 9223372036854775807) : DD.ok ⟨d.L.set k s, down, cut, wr⟩ := by
  refine ⟨fun x hx => ?_, by simpa using h.2.1, by simpa using h.2.2.1, hw, hc⟩
  rcases List.mem_or_eq_of_mem_set hx with hx | rfl
  · exact h.1 x hx
  · exact ⟨hs, hb⟩
def DD.write (d : DD) (i : Int) (b : List Nat) : Nat × DD :=
  if d.down then (101, d)
  else if 0 ≤ i ∧ i < d.L.length ∧ b.length ≤ 64 then
    match d.cut with
    | none => (0, { d with L := d.L.set i.toNat (pad b), writes := d.writes + 1 })
    | some (0, k) => (101, { d with L := d.L.set i.toNat ((pad b).take k ++ (d.L.getD i.toNat []).drop k), down := true, cut := none })
    | some (a + 1, k) => (0, { d with L := d.L.set i.toNat (pad b), writes := d.writes + 1, cut := some (a, k) })
  else (1, d)
def WritePost (U : Nat → Prop) (p q : Nat) (w : World) (r : Nat × DD) (e : Ending) (w' : World) : Prop :=
  e = .returned (.int .i64 r.1) ∧ HD w' U p q r.2 ∧ Kept U w w'

theorem write_down (U : Nat → Prop) (p q c : Nat) (d : DD) (w : World) (i : Int) (v : Value) (h : HDc w U p q c d) (hd : d.down = true) :
    Calls Try.prog 85 #[.pointer (some ⟨p, 0, none⟩), .int .i64 i, v] w (WritePost U p q w (101, d)) := by
  have c1 := cell_of_row w p 1 _ _ _ h.hp
  simp [hd] at c1
  go_enter Try.func85, Try.ntmps85
  go_wp2_with fail
  go_ret
  exact ⟨rfl, ⟨c, h⟩, Kept.refl _ _⟩
theorem write_far (U : Nat → Prop) (p q c : Nat) (d : DD) (w : World) (i : Int) (v : Value) (h : HDc w U p q c d) (hd : d.down = false) (hi : ¬ (0 ≤ i ∧ i < d.L.length)) :
    Calls Try.prog 85 #[.pointer (some ⟨p, 0, none⟩), .int .i64 i, v] w (WritePost U p q w (1, d)) := by
  have c1 := cell_of_row w p 1 _ _ _ h.hp
  simp [hd] at c1
  have H : Hid (HD w U p q d) := ⟨c, h⟩
  have T := Lib.hid hi
  clear hi h
  go_enter Try.func85, Try.ntmps85
  go_wp2_with (first
    | (go_at_call 96; (with_reducible refine (has_no U p q d _ _ H.out T.out).mono ?_); rintro e w ⟨rfl, rfl⟩)
    | fail)
  go_ret
  exact ⟨rfl, H.out, Kept.refl _ _⟩
theorem write_long (U : Nat → Prop) (p q c : Nat) (d : DD) (w : World) (i : Int) (A : Option Addr) (n m : Nat) (h : HDc w U p q c d) (hd : d.down = false) (hi : 0 ≤ i ∧ i < d.L.length) (hn : 64 < n) :
    Calls Try.prog 85 #[.pointer (some ⟨p, 0, none⟩), .int .i64 i, .slice A n m] w (WritePost U p q w (1, d)) := by
  have c1 := cell_of_row w p 1 _ _ _ h.hp
  simp [hd] at c1
  have H : Hid (HD w U p q d) := ⟨c, h⟩
  have T := Lib.hid hi
  have h64 : (64 : Int) < (n : Int) := by omega
  clear hi h
  go_enter Try.func85, Try.ntmps85
  go_wp2_with (first
    | (go_at_call 96; (with_reducible refine (has_yes U p q d _ _ H.out T.out).mono ?_); rintro e w ⟨rfl, rfl⟩)
    | fail)
  go_ret
  exact ⟨rfl, H.out, Kept.refl _ _⟩

set_option maxHeartbeats 1000000 in
theorem write_none (U : Nat → Prop) (p q c : Nat) (d : DD) (w : World) (k : Nat) (A : Option Addr) (n m : Nat) (b old : List Nat) (h : HDc w U p q c d) (hd : d.down = false) (hc : d.cut = none) (hk : d.L[k]? = some old) (hr : Rd w w.heap.size 1 A n (b.map bv)) (hn : n ≤ 64) (hb : ∀ c ∈ b, c < 256) (hw : d.writes < 1000000) :
    Calls Try.prog 85 #[.pointer (some ⟨p, 0, none⟩), .int .i64 k, .slice A n m] w (WritePost U p q w (0, { d with L := d.L.set k (pad b), writes := d.writes + 1 })) := by
  have hbl : b.length = n := by have := hr.1; simpa using this
  have hkl : k < d.L.length := (List.getElem?_eq_some_iff.1 hk).1
  have c1 := cell_of_row w p 1 _ _ _ h.hp
  have c2 := cell_of_row w p 2 _ _ _ h.hp
  have c0 := cell_of_row w p 0 _ _ _ h.hp
  have c3 := cell_of_row w p 3 _ _ _ h.hp
  simp [hd, hc, cutP] at c1 c2 c0 c3
  have H : Hid (HDc w U p q c d) := h
  have H' : Hid (HD w U p q d) := ⟨c, h⟩
  have T : Hid (0 ≤ (k : Int) ∧ (k : Int) < d.L.length) := ⟨by omega, by omega⟩
  have h64 : ¬ (64 : Int) < (n : Int) := by omega
  have hl256 := h.ok.2.1
  have hd' := Lib.hid hd
  have hc' := Lib.hid hc
  have hk' := Lib.hid hk
  clear h hd hc hk
  go_enter Try.func85, Try.ntmps85
  go_wp2_with (first
    | (go_at_call 96; (with_reducible refine (has_yes U p q d _ _ H'.out T.out).mono ?_); rintro e w ⟨rfl, rfl⟩)
    | (with_reducible refine wpList_copy_splice rfl (.tmp 21) (.tmp 22) 27 27 rfl 5 Try.underlying27 ?f1 _ _ _ _ _ _ rfl rfl w.heap.size 0 z64 150 ?f0 (b.map bv) ?f2 ?f3 ?f4 (bv_one b) w.heap.size w ?f5 (Nat.le_refl _) ?_))
  case f0 => exact heap_alloc_new w _
  case f1 => kernel_rfl
  case f2 => simp only [List.length_map]; show _ = min n 64; omega
  case f3 =>
    intro hpos
    have hn0 : 0 < n := by
      first
        | omega
        | (simp at hpos; omega)
    obtain ⟨b', o', rfl, hlt, hcell⟩ := hr.2 hn0
    have hh : ∀ (o : Obj) (j : Nat) (v : Value), (b.map bv)[j]? = some v → (w.alloc o).cell? ((⟨b', o', none⟩ : Addr).add j) = some v := fun o j v hj => by rw [addr_add, World.cell?_alloc_lt _ _ _ hlt]; exact hcell j v hj
    first
      | exact ⟨rfl, _, rfl, hh _⟩
      | exact ⟨_, rfl, hh _⟩
      | exact ⟨_, rfl, fun j a ha => hh _ j (bv a) (by rw [List.getElem?_map, ha]; rfl)⟩
  case f4 => simp [z64]; omega
  case f5 => exact (Below.refl _ _).alloc (Nat.le_refl _) _
  intro w2 hg2 hb2
  rw [pad_splice b (by omega)] at hg2
  have hH2 := H.out.below hb2
  have c2' := cell_of_row w2 p 2 _ _ _ hH2.hp
  simp [hc'.out, cutP] at c2'
  have hg2' : Hid (w2.heap[w.heap.size]? = some (.cells ((pad b).map bv).toArray 150)) := hg2
  have c0' := cell_of_row w2 p 0 _ _ _ hH2.hp
  simp at c0'
  have hpl := pad_len b (by omega)
  have hth := there_of_row (k * 64) 64 hH2.hq (by rw [List.size_toArray, flat_len _ (fun s hs => (hH2.ok.1 s hs).1)]; have := T.out; omega)
  have hHt := Lib.hid hth
  have hH2h : Hid (HDc w2 U p q c d) := hH2
  have hq2 : p ≠ q := hH2.pq
  have hgq : w.heap.size ≠ q := fun e => by have h1 := (Array.getElem?_eq_some_iff.1 H.out.hq).1; omega
  clear c0 c1 c2 c3 hth hg2
  go_wp2_with fail
  have hAfter : (w2.drew.setCells q (k * 64) ((pad b).map bv)).cell? ⟨p, 0, none⟩ = some (.slice (some ⟨q, 0, none⟩) d.L.length d.L.length) ∧ (w2.drew.setCells q (k * 64) ((pad b).map bv)).heap[w.heap.size]? = some (.cells ((pad b).map bv).toArray 150) := by
    constructor
    · rw [World.cell?_of_block (w := w2) (heap_setCells_other q _ _ w2.drew p hq2)]; exact c0'
    · rw [heap_setCells_other q _ _ w2.drew _ hgq]; exact hg2'.out
  have hAft := Lib.hid hAfter
  clear hAfter
  refine sk (fun w' => w'.cell? ⟨p, 0, none⟩ = some (.slice (some ⟨q, 0, none⟩) d.L.length d.L.length) ∧ w'.heap[w.heap.size]? = some (.cells ((pad b).map bv).toArray 150)) 8 ?_ (fun hHeld => ?_)
  · (first | exact ⟨c0', hg2'.out⟩ | exact hAft.out | exact hHeld)
  refine tk 0 61 hHeld ?_
  refine tk 1 62 hHeld ?_
  refine tk 2 63 hHeld ?_
  refine tk 3 64 hHeld ?_
  refine tk 4 65 hHeld ?_
  refine bk 5 66 (fun K hK => ?_)
  refine wp_load_row 150 (.tmp 7) rfl w.heap.size rfl 150 ((pad b).map bv).toArray (0, 0) _ hHeld.2 Try.underlying150 rfl (by rw [size_arr]; simp [hpl]) ?_
  refine hK.out _ _ ?_ (fun hHeld' => ?_)
  · (first | exact ⟨c0', hg2'.out⟩ | exact hAft.out | exact hHeld)
  clear hK K hHeld
  have hHeld := hHeld'
  clear hHeld'
  simp only [List.set_cons_zero, List.set_cons_succ]
  refine tk 6 67 hHeld ?_
  refine bn 7 (fun K hK => ?_)
  refine wp_store_mid 150 (.tmp 67) (.tmp 66) rfl q (k * 64) ((pad b).map bv).toArray rfl rfl (by rw [List.size_toArray, List.length_map, hpl]; exact hHt.out) (by rw [size_arr]; simp [hpl]) (all_oneCell_toArray (bv_one _)) ?_
  first | refine hK.out undef _ ?_ (fun hHeld' => ?_) | refine hK.out _ _ ?_ (fun hHeld' => ?_)
  · (first | exact ⟨c0', hg2'.out⟩ | exact hAft.out | exact hHeld)
  clear hK K hHeld
  have hHeld := hHeld'
  clear hHeld'
  try simp only [List.set_cons_zero, List.set_cons_succ]
  refine wpAnyH_done (by kernel_rfl) ?_ _
  refine NoPanic.normal ?_
  obtain ⟨w3, hw3⟩ : ∃ W, W = w2.drew.setCells q (k * 64) ((pad b).map bv) := ⟨_, rfl⟩
  obtain ⟨hp3, hq3, hK3, hs3⟩ := wrote hH2h.out H.out hb2 hpl hk'.out hw3
  rw [show w2.drew.setCells q (k * 64) ((pad b).map bv).toArray.toList = w3 from hw3.symm]
  clear hw3 hHeld hAft c0' c2' hHt hH2 hb2 hg2'
  have c2 := cell_of_row w3 p 2 _ _ _ hp3
  have c3 := cell_of_row w3 p 3 _ _ _ hp3
  simp [hc'.out, cutP] at c2 c3
  have f3 := frozen_of_row w3 p 3 _ _ hp3
  have Hp := Lib.hid hp3
  have Hq := Lib.hid hq3
  clear hp3 hq3
  go_wp2_with fail
  go_ret
  have h2 := hH2h.out
  refine ⟨rfl, ⟨c, ⟨ok_put h2.ok k (pad b) hpl (pad_lt b hb) _ _ _ (by omega) h2.ok.2.2.2.2, fun x hx => ?_, h2.pq, h2.up, h2.uq, ?_, ?_, fun a b e => ?_⟩⟩, hK3.setCell (p := ⟨p, 3, none⟩) h2.up _⟩
  · have h1 := H.out.old x hx
    have h3 := hK3.size
    simp [World.setCell]; omega
  · have := heap_set_same (j := 3) (.int .i64 (d.writes + 1)) Hp.out
    simpa using this
  · exact heap_set_other _ Hq.out h2.pq.symm
  · rw [hc'.out] at e; cases e
set_option maxHeartbeats 1000000 in
theorem write_some (U : Nat → Prop) (p q c : Nat) (d : DD) (w : World) (k : Nat) (A : Option Addr) (n m : Nat) (b old : List Nat) (h : HDc w U p q c d) (hd : d.down = false) (a0 m0 : Nat) (hc : d.cut = some (a0 + 1, m0)) (hk : d.L[k]? = some old) (hr : Rd w w.heap.size 1 A n (b.map bv)) (hn : n ≤ 64) (hb : ∀ c ∈ b, c < 256) (hw : d.writes < 1000000) :
    Calls Try.prog 85 #[.pointer (some ⟨p, 0, none⟩), .int .i64 k, .slice A n m] w (WritePost U p q w (0, { d with L := d.L.set k (pad b), writes := d.writes + 1, cut := some (a0, m0) })) := by
  have hbl : b.length = n := by have := hr.1; simpa using this
  have hkl : k < d.L.length := (List.getElem?_eq_some_iff.1 hk).1
  have c1 := cell_of_row w p 1 _ _ _ h.hp
  have c2 := cell_of_row w p 2 _ _ _ h.hp
  have c0 := cell_of_row w p 0 _ _ _ h.hp
  have c3 := cell_of_row w p 3 _ _ _ h.hp
  simp [hd, hc, cutP] at c1 c2 c0 c3
  obtain ⟨hcp, hcq, hcu, hch⟩ := h.hc _ _ hc
  obtain ⟨a1, ha1⟩ : ∃ a1 : Nat, a1 = a0 + 1 := ⟨_, rfl⟩
  have ha1' := Lib.hid ha1
  have hch' : Hid (w.heap[c]? = some (.cells #[.int .i64 a1, .int .i64 m0] 101)) := by rw [ha1]; exact hch
  have hap : ¬ (a1 : Int) = 0 := by omega
  have hap2 : a1 ≠ 0 := by omega
  have hapb : a1 ≤ 9223372036854775807 := by have := h.ok.2.2.2.2 _ _ hc; omega
  clear hch ha1
  have H : Hid (HDc w U p q c d) := h
  have H' : Hid (HD w U p q d) := ⟨c, h⟩
  have T : Hid (0 ≤ (k : Int) ∧ (k : Int) < d.L.length) := ⟨by omega, by omega⟩
  have h64 : ¬ (64 : Int) < (n : Int) := by omega
  have hl256 := h.ok.2.1
  have hd' := Lib.hid hd
  have hc' := Lib.hid hc
  have hk' := Lib.hid hk
  clear h hd hc hk
  go_enter Try.func85, Try.ntmps85
  go_wp2_with (first
    | (go_at_call 96; (with_reducible refine (has_yes U p q d _ _ H'.out T.out).mono ?_); rintro e w ⟨rfl, rfl⟩)
    | (with_reducible refine wpList_copy_splice rfl (.tmp 21) (.tmp 22) 27 27 rfl 5 Try.underlying27 ?f1 _ _ _ _ _ _ rfl rfl w.heap.size 0 z64 150 ?f0 (b.map bv) ?f2 ?f3 ?f4 (bv_one b) w.heap.size w ?f5 (Nat.le_refl _) ?_))
  case f0 => exact heap_alloc_new w _
  case f1 => kernel_rfl
  case f2 => simp only [List.length_map]; show _ = min n 64; omega
  case f3 =>
    intro hpos
    have hn0 : 0 < n := by
      first
        | omega
        | (simp at hpos; omega)
    obtain ⟨b', o', rfl, hlt, hcell⟩ := hr.2 hn0
    have hh : ∀ (o : Obj) (j : Nat) (v : Value), (b.map bv)[j]? = some v → (w.alloc o).cell? ((⟨b', o', none⟩ : Addr).add j) = some v := fun o j v hj => by rw [addr_add, World.cell?_alloc_lt _ _ _ hlt]; exact hcell j v hj
    first
      | exact ⟨rfl, _, rfl, hh _⟩
      | exact ⟨_, rfl, hh _⟩
      | exact ⟨_, rfl, fun j a ha => hh _ j (bv a) (by rw [List.getElem?_map, ha]; rfl)⟩
  case f4 => simp [z64]; omega
  case f5 => exact (Below.refl _ _).alloc (Nat.le_refl _) _
  intro w2 hg2 hb2
  rw [pad_splice b (by omega)] at hg2
  have hH2 := H.out.below hb2
  have c2' := cell_of_row w2 p 2 _ _ _ hH2.hp
  simp [hc'.out, cutP] at c2'
  have hg2' : Hid (w2.heap[w.heap.size]? = some (.cells ((pad b).map bv).toArray 150)) := hg2
  have c0' := cell_of_row w2 p 0 _ _ _ hH2.hp
  simp at c0'
  have hpl := pad_len b (by omega)
  have hth := there_of_row (k * 64) 64 hH2.hq (by rw [List.size_toArray, flat_len _ (fun s hs => (hH2.ok.1 s hs).1)]; have := T.out; omega)
  have hHt := Lib.hid hth
  have hH2h : Hid (HDc w2 U p q c d) := hH2
  have hq2 : p ≠ q := hH2.pq
  have hgq : w.heap.size ≠ q := fun e => by have h1 := (Array.getElem?_eq_some_iff.1 H.out.hq).1; omega
  have hch2 : w2.heap[c]? = some (.cells #[.int .i64 a1, .int .i64 m0] 101) := by
    have h1 := (Array.getElem?_eq_some_iff.1 hch'.out).1
    rw [hb2.block c h1]; exact hch'.out
  have cc0 := cell_of_row w2 c 0 _ _ _ hch2
  simp at cc0
  have Hch2 := Lib.hid hch2
  clear c0 c1 c2 c3 hth hg2 hch2
  go_wp2_with fail
  have hAfter : (w2.drew.setCells q (k * 64) ((pad b).map bv)).cell? ⟨p, 0, none⟩ = some (.slice (some ⟨q, 0, none⟩) d.L.length d.L.length) ∧ (w2.drew.setCells q (k * 64) ((pad b).map bv)).heap[w.heap.size]? = some (.cells ((pad b).map bv).toArray 150) := by
    constructor
    · rw [World.cell?_of_block (w := w2) (heap_setCells_other q _ _ w2.drew p hq2)]; exact c0'
    · rw [heap_setCells_other q _ _ w2.drew _ hgq]; exact hg2'.out
  have hAft := Lib.hid hAfter
  clear hAfter
  refine sk (fun w' => w'.cell? ⟨p, 0, none⟩ = some (.slice (some ⟨q, 0, none⟩) d.L.length d.L.length) ∧ w'.heap[w.heap.size]? = some (.cells ((pad b).map bv).toArray 150)) 8 ?_ (fun hHeld => ?_)
  · (first | exact ⟨c0', hg2'.out⟩ | exact hAft.out | exact hHeld)
  refine tk 0 61 hHeld ?_
  refine tk 1 62 hHeld ?_
  refine tk 2 63 hHeld ?_
  refine tk 3 64 hHeld ?_
  refine tk 4 65 hHeld ?_
  refine bk 5 66 (fun K hK => ?_)
  refine wp_load_row 150 (.tmp 7) rfl w.heap.size rfl 150 ((pad b).map bv).toArray (0, 0) _ hHeld.2 Try.underlying150 rfl (by rw [size_arr]; simp [hpl]) ?_
  refine hK.out _ _ ?_ (fun hHeld' => ?_)
  · (first | exact ⟨c0', hg2'.out⟩ | exact hAft.out | exact hHeld)
  clear hK K hHeld
  have hHeld := hHeld'
  clear hHeld'
  simp only [List.set_cons_zero, List.set_cons_succ]
  refine tk 6 67 hHeld ?_
  refine bn 7 (fun K hK => ?_)
  refine wp_store_mid 150 (.tmp 67) (.tmp 66) rfl q (k * 64) ((pad b).map bv).toArray rfl rfl (by rw [List.size_toArray, List.length_map, hpl]; exact hHt.out) (by rw [size_arr]; simp [hpl]) (all_oneCell_toArray (bv_one _)) ?_
  first | refine hK.out undef _ ?_ (fun hHeld' => ?_) | refine hK.out _ _ ?_ (fun hHeld' => ?_)
  · (first | exact ⟨c0', hg2'.out⟩ | exact hAft.out | exact hHeld)
  clear hK K hHeld
  have hHeld := hHeld'
  clear hHeld'
  try simp only [List.set_cons_zero, List.set_cons_succ]
  refine wpAnyH_done (by kernel_rfl) ?_ _
  refine NoPanic.normal ?_
  obtain ⟨w3, hw3⟩ : ∃ W, W = w2.drew.setCells q (k * 64) ((pad b).map bv) := ⟨_, rfl⟩
  obtain ⟨hp3, hq3, hK3, hs3⟩ := wrote hH2h.out H.out hb2 hpl hk'.out hw3
  rw [show w2.drew.setCells q (k * 64) ((pad b).map bv).toArray.toList = w3 from hw3.symm]
  clear hw3 hHeld hAft c0' c2' hHt hH2 hb2 hg2'
  have c2 := cell_of_row w3 p 2 _ _ _ hp3
  have c3 := cell_of_row w3 p 3 _ _ _ hp3
  simp [hc'.out, cutP] at c2 c3
  have f3 := frozen_of_row w3 p 3 _ _ hp3
  have Hp := Lib.hid hp3
  have Hq := Lib.hid hq3
  have hc3 : w3.heap[c]? = some (.cells #[.int .i64 a1, .int .i64 m0] 101) := by rw [hs3 c hcq]; exact Hch2.out
  have cc3 := cell_of_row w3 c 0 _ _ _ hc3
  have fc3 := frozen_of_row w3 c 0 _ _ hc3
  simp at cc3
  have Hc3 := Lib.hid hc3
  clear hp3 hq3 cc0 hc3
  go_wp2_with fail
  go_ret
  have h2 := hH2h.out
  have ha := ha1'.out
  have hcut := h2.ok.2.2.2.2 _ _ hc'.out
  have e1 : (a1 : Int) - 1 = (a0 : Int) := by omega
  rw [e1]
  refine ⟨rfl, ⟨c, ⟨ok_put h2.ok k (pad b) hpl (pad_lt b hb) _ _ _ (by omega) (fun a b e => ?_), fun x hx => ?_, h2.pq, h2.up, h2.uq, ?_, ?_, fun a b e => ?_⟩⟩, (hK3.setCell (p := ⟨p, 3, none⟩) h2.up _).setCell (p := ⟨c, 0, none⟩) hcu _⟩
  · injection e with e; injection e with e1 e2; omega
  · have h1 := H.out.old x hx
    have h3 := hK3.size
    simp [World.setCell]; omega
  · have := heap_set_other (b' := c) (j := 0) (.int .i64 (a0 : Int)) (heap_set_same (j := 3) (.int .i64 (d.writes + 1)) Hp.out) (Ne.symm hcp)
    rw [this, hc'.out]
    simp [cutP]
  · exact heap_set_other _ (heap_set_other _ Hq.out h2.pq.symm) (Ne.symm hcq)
  · injection e with e
    injection e with e1 e2
    subst e1 e2
    refine ⟨hcp, hcq, hcu, ?_⟩
    have := heap_set_same (j := 0) (.int .i64 (a0 : Int)) (heap_set_other (b' := p) (j := 3) (.int .i64 (d.writes + 1)) Hc3.out hcp)
    simpa using this
end Go.Proofs.Ytcdgaeenfhpnkaa
/- Write, of package sector: the write that is cut; Write of anything. -/
set_option linter.unusedVariables false
set_option linter.unusedSimpArgs false
set_option maxRecDepth 100000
namespace Go.Proofs.Ytcdgaeenfhpnkaa
open Go Go.RowKit

theorem wp_cpy_at {P : Program} {w : World} {o : Oper} {a : Act} {K : Act → World → Prop} {Q : Exit → Act → World → Prop} (d s : Operand) (dT sT : TypeId)
    (ho : o.op = .call { callee := .builtin .copy, args := #[d, s], argTypes := #[dT, sT] }) (elem : TypeId) (hu : P.underlying dT = some (.slice elem)) (hsz : (P.info? elem).map (·.size) = some 1)
    (g off dLen dCap : Nat) (ad : Addr) (sLen sCap : Nat) (hd : a.eval d = .slice (some ⟨g, off, none⟩) dLen dCap) (hs : a.eval s = .slice (some ad) sLen sCap)
    (cur : Array Value) (t : TypeId) (hg : w.heap[g]? = some (.cells cur t (0, 0))) (cs : List Value) (hn : cs.length = Nat.min sLen dLen)
    (hsrc : ∀ j v, cs[j]? = some v → w.cell? (ad.add j) = some v) (hfit : off + cs.length ≤ cur.size) (h1 : ∀ v ∈ cs, v.oneCell' = true)
    (row : List Value) (hrow : row = cur.toList.take off ++ (cs ++ cur.toList.drop (off + cs.length)))
    (h : K (a.put o.dst (goInt cs.length)) (w.setRow g row.toArray)) : Oper.wp P o a w K Q := by
  subst hrow
  have hrun := run_copy_row (P := P) w dT sT o.type elem g off dLen dCap ad sLen sCap cur t cs hu hsz hg hn hsrc hfit h1
  unfold Oper.wp
  simp [execOp, ho, resolve, invoke, builtin, hd, hs, hrun, Result.andThen]
  exact h

set_option maxHeartbeats 1000000 in
theorem write_torn (U : Nat → Prop) (p q c : Nat) (d : DD) (w : World) (k : Nat) (A : Option Addr) (n m : Nat) (b old : List Nat) (h : HDc w U p q c d) (hd : d.down = false) (m0 : Nat) (hc : d.cut = some (0, m0)) (hk : d.L[k]? = some old) (hr : Rd w w.heap.size 1 A n (b.map bv)) (hn : n ≤ 64) (hb : ∀ c ∈ b, c < 256) :
    Calls Try.prog 85 #[.pointer (some ⟨p, 0, none⟩), .int .i64 k, .slice A n m] w (WritePost U p q w (101, { d with L := d.L.set k ((pad b).take m0 ++ old.drop m0), down := true, cut := none })) := by
  have hbl : b.length = n := by have := hr.1; simpa using this
  have hkl : k < d.L.length := (List.getElem?_eq_some_iff.1 hk).1
  have c1 := cell_of_row w p 1 _ _ _ h.hp
  have c2 := cell_of_row w p 2 _ _ _ h.hp
  have c0 := cell_of_row w p 0 _ _ _ h.hp
  have c3 := cell_of_row w p 3 _ _ _ h.hp
  simp [hd, hc, cutP] at c1 c2 c0 c3
  obtain ⟨hcp, hcq, hcu, hch⟩ := h.hc _ _ hc
  have hch' : Hid (w.heap[c]? = some (.cells #[.int .i64 0, .int .i64 m0] 101)) := hch
  have hm64 : m0 ≤ 64 := (h.ok.2.2.2.2 _ _ hc).1
  have hm64i : (m0 : Int) ≤ 64 := by omega
  have hm0i : (0 : Int) ≤ (m0 : Int) := by omega
  clear hch
  have H : Hid (HDc w U p q c d) := h
  have H' : Hid (HD w U p q d) := ⟨c, h⟩
  have T : Hid (0 ≤ (k : Int) ∧ (k : Int) < d.L.length) := ⟨by omega, by omega⟩
  have h64 : ¬ (64 : Int) < (n : Int) := by omega
  have hl256 := h.ok.2.1
  have hd' := Lib.hid hd
  have hc' := Lib.hid hc
  have hk' := Lib.hid hk
  clear h hd hc hk
  go_enter Try.func85, Try.ntmps85
  go_wp2_with (first
    | (go_at_call 96; (with_reducible refine (has_yes U p q d _ _ H'.out T.out).mono ?_); rintro e w ⟨rfl, rfl⟩)
    | (with_reducible refine wpList_copy_splice rfl (.tmp 21) (.tmp 22) 27 27 rfl 5 Try.underlying27 ?f1 _ _ _ _ _ _ rfl rfl w.heap.size 0 z64 150 ?f0 (b.map bv) ?f2 ?f3 ?f4 (bv_one b) w.heap.size w ?f5 (Nat.le_refl _) ?_))
  case f0 => exact heap_alloc_new w _
  case f1 => kernel_rfl
  case f2 => simp only [List.length_map]; show _ = min n 64; omega
  case f3 =>
    intro hpos
    have hn0 : 0 < n := by
      first
        | omega
        | (simp at hpos; omega)
    obtain ⟨b', o', rfl, hlt, hcell⟩ := hr.2 hn0
    have hh : ∀ (o : Obj) (j : Nat) (v : Value), (b.map bv)[j]? = some v → (w.alloc o).cell? ((⟨b', o', none⟩ : Addr).add j) = some v := fun o j v hj => by rw [addr_add, World.cell?_alloc_lt _ _ _ hlt]; exact hcell j v hj
    first
      | exact ⟨rfl, _, rfl, hh _⟩
      | exact ⟨_, rfl, hh _⟩
      | exact ⟨_, rfl, fun j a ha => hh _ j (bv a) (by rw [List.getElem?_map, ha]; rfl)⟩
  case f4 => simp [z64]; omega
  case f5 => exact (Below.refl _ _).alloc (Nat.le_refl _) _
  intro w2 hg2 hb2
  rw [pad_splice b (by omega)] at hg2
  have hH2 := H.out.below hb2
  have c2' := cell_of_row w2 p 2 _ _ _ hH2.hp
  simp [hc'.out, cutP] at c2'
  have hg2' : Hid (w2.heap[w.heap.size]? = some (.cells ((pad b).map bv).toArray 150)) := hg2
  have c0' := cell_of_row w2 p 0 _ _ _ hH2.hp
  simp at c0'
  have hpl := pad_len b (by omega)
  have hth := there_of_row (k * 64) 64 hH2.hq (by rw [List.size_toArray, flat_len _ (fun s hs => (hH2.ok.1 s hs).1)]; have := T.out; omega)
  have hHt := Lib.hid hth
  have hH2h : Hid (HDc w2 U p q c d) := hH2
  have hq2 : p ≠ q := hH2.pq
  have hgq : w.heap.size ≠ q := fun e => by have h1 := (Array.getElem?_eq_some_iff.1 H.out.hq).1; omega
  have hch2 : w2.heap[c]? = some (.cells #[.int .i64 0, .int .i64 m0] 101) := by
    have h1 := (Array.getElem?_eq_some_iff.1 hch'.out).1
    rw [hb2.block c h1]; exact hch'.out
  have cc0 := cell_of_row w2 c 0 _ _ _ hch2
  have cc1 := cell_of_row w2 c 1 _ _ _ hch2
  simp at cc0 cc1
  have Hch2 := Lib.hid hch2
  clear c0 c1 c2 c3 hth hg2 hch2 hHt
  go_wp2_with fail
  obtain ⟨cs, hcs⟩ : ∃ cs, cs = ((pad b).take m0).map bv := ⟨_, rfl⟩
  have hcl : cs.length = m0 := by rw [hcs]; simp [hpl]; omega
  have hc1' : ∀ v ∈ cs, v.oneCell' = true := by rw [hcs]; exact bv_one _
  have hsrc : ∀ (W : World), W.heap = w2.heap → ∀ j v, cs[j]? = some v → W.cell? ((⟨w.heap.size, 0, none⟩ : Addr).add j) = some v := by
    intro W hW j v hj
    rw [addr_add, Nat.zero_add, cell_of_row W w.heap.size j ((pad b).map bv).toArray _ _ (by rw [hW]; exact hg2'.out)]
    rw [hcs, List.map_take, List.getElem?_take] at hj
    split at hj
    · simpa using hj
    · cases hj
  have hfl : (flat d.L).length = 64 * d.L.length := flat_len _ (fun s hs => (hH2h.out.ok.1 s hs).1)
  have hfit : k * 64 + cs.length ≤ (flat d.L).toArray.size := by rw [List.size_toArray, hfl, hcl]; omega
  obtain ⟨row, hrow⟩ : ∃ row, row = (flat d.L).toArray.toList.take (k * 64) ++ (cs ++ (flat d.L).toArray.toList.drop (k * 64 + cs.length)) := ⟨_, rfl⟩
  have hset : ∀ x, x ≠ q → (w2.drew.setRow q row.toArray).heap[x]? = w2.heap[x]? := fun x hx => setRow_other w2.drew q x _ hx
  have hAft : Hid ((w2.drew.setRow q row.toArray).cell? ⟨p, 0, none⟩ = some (.slice (some ⟨q, 0, none⟩) d.L.length d.L.length) ∧ (w2.drew.setRow q row.toArray).cell? ⟨p, 2, none⟩ = some (.pointer (some ⟨c, 0, none⟩)) ∧ (w2.drew.setRow q row.toArray).cell? ⟨c, 1, none⟩ = some (.int .i64 (m0 : Int))) := by
    refine ⟨?_, ?_, ?_⟩
    · rw [World.cell?_of_block (w := w2) (hset p hq2)]; exact c0'
    · rw [World.cell?_of_block (w := w2) (hset p hq2)]; exact c2'
    · rw [World.cell?_of_block (w := w2) (hset c hcq)]; exact cc1
  have hqh : Hid (w2.drew.heap[q]? = some (.cells (flat d.L).toArray 150)) := hH2h.out.hq
  have Hsrc := Lib.hid hsrc
  have Hrow := Lib.hid hrow
  have Hfit := Lib.hid hfit
  have Hcs := Lib.hid hcs
  have Hset := Lib.hid hset
  have hmin : Hid (cs.length = Nat.min 64 m0) := by show _ = min 64 m0; omega
  clear hsrc hrow hfit hcs hset hH2 hfl
  refine sk (fun w' => w'.cell? ⟨p, 0, none⟩ = some (.slice (some ⟨q, 0, none⟩) d.L.length d.L.length) ∧ w'.cell? ⟨p, 2, none⟩ = some (.pointer (some ⟨c, 0, none⟩)) ∧ w'.cell? ⟨c, 1, none⟩ = some (.int .i64 (m0 : Int))) 16 ?_ (fun hHeld => ?_)
  · (first | exact ⟨c0', c2', cc1⟩ | exact hAft.out | exact hHeld)
  refine tk 0 39 hHeld ?_
  refine tk 1 40 hHeld ?_
  refine tk 2 41 hHeld ?_
  refine tk 3 42 hHeld ?_
  refine tk 4 43 hHeld ?_
  refine tk 5 44 hHeld ?_
  refine tk 6 45 hHeld ?_
  refine tk 7 46 hHeld ?_
  refine tk 8 47 hHeld ?_
  refine tk 9 48 hHeld ?_
  refine tk 10 49 hHeld ?_
  refine tk 11 50 hHeld ?_
  refine tk 12 51 hHeld ?_
  refine tk 13 52 hHeld ?_
  refine tk 14 53 hHeld ?_
  refine bk 15 54 (fun K hK => ?_)
  refine wp_cpy_at (.tmp 52) (.tmp 53) 27 27 rfl 5 Try.underlying27 (by kernel_rfl) q (k * 64) m0 64 ⟨w.heap.size, 0, none⟩ 64 64 rfl rfl (flat d.L).toArray 150 hqh.out cs hmin.out (Hsrc.out _ rfl) Hfit.out hc1' row Hrow.out ?_
  refine hK.out _ _ ?_ (fun hHeld' => ?_)
  · (first | exact ⟨c0', c2', cc1⟩ | exact hAft.out | exact hHeld)
  clear hK K hHeld
  have hHeld := hHeld'
  clear hHeld'
  simp only [List.set_cons_zero, List.set_cons_succ]
  refine wpAnyH_done (by kernel_rfl) ?_ _
  refine NoPanic.normal ?_
  obtain ⟨w3, hw3⟩ : ∃ W, W = w2.drew.setRow q row.toArray := ⟨_, rfl⟩
  have hsz3 : w3.heap.size = w2.heap.size := by rw [hw3]; show (Array.modify _ _ _).size = _; rw [Array.size_modify]; rfl
  have hp3 : w3.heap[p]? = some (.cells #[.slice (some ⟨q, 0, none⟩) d.L.length d.L.length, .bool d.down, cutP c d.cut, .int .i64 d.writes] 82) := by rw [hw3, Hset.out p hq2]; exact hH2h.out.hp
  have hq3 : w3.heap[q]? = some (.cells (flat (d.L.set k ((pad b).take m0 ++ old.drop m0))).toArray 150) := by
    have h1 := flat_splice d.L k old ((pad b).take m0) (fun s hs => (hH2h.out.ok.1 s hs).1) hk'.out (by simp [hpl]; omega)
    rw [List.length_take, hpl, show min m0 64 = m0 by omega] at h1
    rw [hw3, setRow_heap w2.drew q _ row.toArray _ _ hqh.out, ← h1, Hrow.out, Hcs.out]
    rfl
  have hK3 : Kept U w w3 := by
    refine (Kept.of hb2 H.out.old).trans ⟨by rw [hw3]; rfl, by rw [hw3]; rfl, by rw [hw3]; rfl, by rw [hsz3]; exact Nat.le_refl _, fun x hx => ?_⟩
    rw [hw3]
    exact Hset.out x (fun e => hH2h.out.uq (e ▸ hx))
  rw [← hw3]
  clear hHeld hAft c0' c2' cc0 cc1 hqh Hsrc Hrow Hfit Hcs Hset hmin hw3 hcl hc1'
  have c1 := cell_of_row w3 p 1 _ _ _ hp3
  have c2 := cell_of_row w3 p 2 _ _ _ hp3
  have f1 := frozen_of_row w3 p 1 _ _ hp3
  have f2 := frozen_of_row w3 p 2 _ _ hp3
  simp [hc'.out, cutP, hd'.out] at c1 c2
  have Hp := Lib.hid hp3
  have Hq := Lib.hid hq3
  clear hp3 hq3
  go_wp2_with fail
  go_ret
  have h2 := hH2h.out
  have hol : old.length = 64 := (h2.ok.1 old (List.mem_of_getElem? hk'.out)).1
  have hob := (h2.ok.1 old (List.mem_of_getElem? hk'.out)).2
  refine ⟨rfl, ⟨c, ⟨ok_put h2.ok k _ (by simp [hpl, hol]; omega) (fun x hx => ?_) _ _ _ h2.ok.2.2.2.1 (fun a b e => by cases e), fun x hx => ?_, h2.pq, h2.up, h2.uq, ?_, ?_, fun a b e => by cases e⟩⟩, (hK3.setCell (p := ⟨p, 1, none⟩) h2.up _).setCell (p := ⟨p, 2, none⟩) h2.up _⟩
  · rcases List.mem_append.1 hx with hx | hx
    · exact pad_lt b hb x (List.mem_of_mem_take hx)
    · exact hob x (List.mem_of_mem_drop hx)
  · have h1 := H.out.old x hx
    have h3 := hK3.size
    simp [World.setCell]; omega
  · have := heap_set_same (j := 2) (.pointer none) (heap_set_same (j := 1) (.bool true) Hp.out)
    simpa [cutP] using this
  · exact heap_set_other _ (heap_set_other _ Hq.out h2.pq.symm) h2.pq.symm

/-- Write, of anything -/
theorem write_any (U : Nat → Prop) (p q : Nat) (d : DD) (w : World) (i : Int) (A : Option Addr) (n m : Nat) (b : List Nat) (h : HD w U p q d) (hr : Rd w w.heap.size 1 A n (b.map bv)) (hb : ∀ c ∈ b, c < 256) (hw : d.writes < 1000000) :
    Calls Try.prog 85 #[.pointer (some ⟨p, 0, none⟩), .int .i64 i, .slice A n m] w (WritePost U p q w (d.write i b)) := by
  obtain ⟨c, h⟩ := h
  have hbl : b.length = n := by have := hr.1; simpa using this
  by_cases hd : d.down = true
  · have e : d.write i b = (101, d) := by rw [DD.write, if_pos hd]
    rw [e]; exact write_down U p q c d w i _ h hd
  · have hd' : d.down = false := by simpa using hd
    by_cases hi : 0 ≤ i ∧ i < d.L.length
    · by_cases hn : n ≤ 64
      · obtain ⟨k, rfl⟩ : ∃ k : Nat, i = (k : Int) := ⟨i.toNat, by omega⟩
        obtain ⟨old, hk⟩ : ∃ s, d.L[k]? = some s := ⟨_, List.getElem?_eq_getElem (by omega)⟩
        have hg : d.L.getD k [] = old := by rw [List.getD_eq_getElem?_getD, hk]; rfl
        have hc3 : 0 ≤ (k : Int) ∧ (k : Int) < d.L.length ∧ b.length ≤ 64 := ⟨hi.1, hi.2, by omega⟩
        rcases hcut : d.cut with _ | ⟨_ | a0, m0⟩
        · have e : d.write k b = (0, { d with L := d.L.set k (pad b), writes := d.writes + 1 }) := by
            rw [DD.write, if_neg hd, if_pos hc3, hcut]; rfl
          rw [e]; exact write_none U p q c d w k A n m b old h hd' hcut hk hr hn hb hw
        · have e : d.write k b = (101, { d with L := d.L.set k ((pad b).take m0 ++ old.drop m0), down := true, cut := none }) := by
            rw [DD.write, if_neg hd, if_pos hc3, hcut]
            simp only [Int.toNat_natCast, hg]
          rw [e]; exact write_torn U p q c d w k A n m b old h hd' m0 hcut hk hr hn hb
        · have e : d.write k b = (0, { d with L := d.L.set k (pad b), writes := d.writes + 1, cut := some (a0, m0) }) := by
            rw [DD.write, if_neg hd, if_pos hc3, hcut]; rfl
          rw [e]; exact write_some U p q c d w k A n m b old h hd' a0 m0 hcut hk hr hn hb hw
      · have e : d.write i b = (1, d) := by rw [DD.write, if_neg hd, if_neg (by omega)]
        rw [e]; exact write_long U p q c d w i A n m h hd' hi (by omega)
    · have e : d.write i b = (1, d) := by rw [DD.write, if_neg hd, if_neg (by omega)]
      rw [e]; exact write_far U p q c d w i _ h hd' hi
end Go.Proofs.Ytcdgaeenfhpnkaa
