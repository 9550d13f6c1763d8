/- Lamps: rows, by what happens. -/
import Derived.Test.YtphghclkfbhagaaLamp
import Derived.Test.YtphghclkfbhagaaFrames
set_option linter.unusedVariables false
set_option linter.unusedSimpArgs false
set_option maxRecDepth 100000
namespace Go.Proofs.Ytphghclkfbhagaa
open Go Go.RowKit

/-- a slice of its own, made of these -/
def LitS (w : World) (v : Value) (n : Nat) (l : List Int) : Prop := ∃ g, v = .slice (some ⟨g, 0, none⟩) n n ∧ Rd w w.heap.size 1 (some ⟨g, 0, none⟩) n (l.map iv)
theorem LitS.keep {w w' : World} {v : Value} {n : Nat} {l : List Int} (h : LitS w v n l) (hb : Below w.heap.size w w') : LitS w' v n l := by
  obtain ⟨g, e, r⟩ := h
  exact ⟨g, e, (r.below hb).more hb.size⟩
def FT (T : List (Value ⊕ (Nat × List Int))) (j : Nat) (v : Value) (w : World) : Prop :=
  match T[j]? with
  | some (.inl u) => v = u
  | some (.inr (n, l)) => LitS w v n l
  | none => True
theorem FT_keep (T : List (Value ⊕ (Nat × List Int))) (j : Nat) (u : Value) (w1 w2 : World) (h : FT T j u w1) (hb : Below w1.heap.size w1 w2) : FT T j u w2 := by
  unfold FT at *
  split at h
  · exact h
  · exact h.keep hb
  · trivial

/-! ### a store into the middle of a block of numbers -/
structure But (b : Nat) (w w' : World) : Prop where
  os : w'.os = w.os
  tape : w'.tape = w.tape
  output : w'.output = w.output
  size : w'.heap.size = w.heap.size
  block : ∀ k, k ≠ b → w'.heap[k]? = w.heap[k]?
theorem But.below {b : Nat} {w w' : World} (h : But b w w') {B : Nat} (hB : B ≤ b) : Below B w w' :=
  ⟨h.os, h.tape, h.output, by rw [h.size]; exact Nat.le_refl _, fun k hk => h.block k (by omega)⟩

theorem heap_setCells_other (b : Nat) : ∀ (vs : List Value) (o : Nat) (w : World) (k : Nat), k ≠ b → (w.setCells b o vs).heap[k]? = w.heap[k]?
  | [], _, _, _, _ => rfl
  | v :: r, o, w, k, h => by
    rw [World.setCells, heap_setCells_other b r (o + 1) _ k h]
    exact Below.heap_setCell _ _ _ _ h
theorem os_setCells (b : Nat) : ∀ (vs : List Value) (o : Nat) (w : World), (w.setCells b o vs).os = w.os
  | [], _, _ => rfl
  | v :: r, o, w => by rw [World.setCells, os_setCells b r (o + 1) _]; rfl
theorem tape_setCells (b : Nat) : ∀ (vs : List Value) (o : Nat) (w : World), (w.setCells b o vs).tape = w.tape
  | [], _, _ => rfl
  | v :: r, o, w => by rw [World.setCells, tape_setCells b r (o + 1) _]; rfl
theorem output_setCells (b : Nat) : ∀ (vs : List Value) (o : Nat) (w : World), (w.setCells b o vs).output = w.output
  | [], _, _ => rfl
  | v :: r, o, w => by rw [World.setCells, output_setCells b r (o + 1) _]; rfl
theorem size_setCells (b : Nat) : ∀ (vs : List Value) (o : Nat) (w : World), (w.setCells b o vs).heap.size = w.heap.size
  | [], _, _ => rfl
  | v :: r, o, w => by
    rw [World.setCells, size_setCells b r (o + 1) _]
    simp [World.setCell]
theorem splice_cons (cur : Array Value) (o : Nat) (v : Value) (r : List Value) (h : o + (v :: r).length ≤ cur.size) : splice (cur.setIfInBounds o v).toList (o + 1) r = splice cur.toList o (v :: r) := by
  simp only [List.length_cons] at h
  simp only [Array.toList_setIfInBounds, splice, List.length_cons]
  have ho : o < cur.toList.length := by simp; omega
  rw [List.take_succ_eq_append_getElem (by simpa using ho), List.take_set_of_le (by omega), List.drop_set_of_lt (by omega)]
  simp
  rw [show o + 1 + r.length = o + (r.length + 1) by omega]
theorem heap_setCells_same (b : Nat) (t : TypeId) (fr : Nat × Nat) : ∀ (vs : List Value) (o : Nat) (w : World) (cur : Array Value), w.heap[b]? = some (.cells cur t fr) → o + vs.length ≤ cur.size → (w.setCells b o vs).heap[b]? = some (.cells (splice cur.toList o vs).toArray t fr)
  | [], o, w, cur, h, _ => by
    simp [World.setCells, splice, h]
  | v :: r, o, w, cur, h, hl => by
    rw [World.setCells]
    have := heap_setCells_same b t fr r (o + 1) _ _ (heap_set_same (j := o) v h) (by simp only [List.length_cons] at hl; simp; omega)
    rw [this, splice_cons cur o v r hl]
theorem there_of_row {w : World} {q : Nat} {cs : Array Value} {t : TypeId} (o n : Nat) (h : w.heap[q]? = some (.cells cs t (0, 0))) (hn : o + n ≤ cs.size) : w.there q o n := fun j hj => by
  constructor
  · rw [cell_of_row _ _ _ _ _ _ h]
    simp; omega
  · exact frozen_of_row _ _ _ _ _ h
theorem setCells_but (b : Nat) (vs : List Value) (o : Nat) (w : World) : But b w (w.setCells b o vs) :=
  ⟨os_setCells b vs o w, tape_setCells b vs o w, output_setCells b vs o w, size_setCells b vs o w, fun k hk => heap_setCells_other b vs o w k hk⟩

/-- rows, end to end -/
def fl (rows : List (List Int)) : List Int := rows.flatten
theorem fl_len : ∀ (rows : List (List Int)), (∀ r ∈ rows, r.length = 9) → (fl rows).length = rows.length * 9
  | [], _ => rfl
  | a :: L, h => by
    have := fl_len L (fun r hr => h r (by simp [hr]))
    simp only [fl, List.flatten_cons, List.length_append, List.length_cons] at *
    have := h a (by simp)
    omega
theorem fl_splice : ∀ (rows : List (List Int)) (k : Nat) (r : List Int), (∀ r ∈ rows, r.length = 9) → r.length = 9 → k < rows.length → splice (fl rows) (k * 9) r = fl (rows.set k r)
  | [], k, r, _, _, h => by simp at h
  | a :: L, 0, r, hL, hr, _ => by
    have ha : a.length = 9 := hL a (by simp)
    simp only [splice, fl, Nat.zero_mul, List.take_zero, List.nil_append, List.set_cons_zero, List.flatten_cons, Nat.zero_add]
    rw [List.drop_append_of_le_length (by omega), List.drop_of_length_le (by omega)]
    simp
  | a :: L, k + 1, r, hL, hr, h => by
    have ha : a.length = 9 := hL a (by simp)
    have ih := fl_splice L k r (fun r hr => hL r (by simp [hr])) hr (by simpa using h)
    simp only [splice, fl, List.set_cons_succ, List.flatten_cons] at *
    rw [← ih]
    rw [List.take_append, List.take_of_length_le (by omega), List.drop_append, List.drop_of_length_le (by omega)]
    simp only [List.append_assoc, List.nil_append]
    rw [show (k + 1) * 9 - a.length = k * 9 by omega, show (k + 1) * 9 + r.length - a.length = k * 9 + r.length by omega]
theorem fl_set_len (rows : List (List Int)) (k : Nat) (r : List Int) (h : ∀ r ∈ rows, r.length = 9) (hr : r.length = 9) : ∀ x ∈ rows.set k r, x.length = 9 := by
  intro x hx
  rcases List.mem_or_eq_of_mem_set hx with h1 | h1
  · exact h x h1
  · rw [h1]; exact hr

theorem wp_put_row {P : Program} {op : Oper} {a : Act} {w : World} {K : Act → World → Prop} {Q : Exit → Act → World → Prop} (ty : TypeId) (x y : Operand) (ho : op.op = .store ty x y)
    (b k : Nat) (rows : List (List Int)) (R : List Int) (t : TypeId) (hx : a.eval x = .pointer (some ⟨b, k * 9, none⟩)) (hy : a.eval y = .agg (rowA R))
    (hb : w.heap[b]? = some (.cells (rowA (fl rows)) t (0, 0))) (h9 : ∀ r ∈ rows, r.length = 9) (hR : R.length = 9) (hk : k < rows.length) (hi : (P.info? ty).map (·.size) = some 9)
    (h : ∀ w', w'.heap[b]? = some (.cells (rowA (fl (rows.set k R))) t (0, 0)) → But b w w' → K (a.put op.dst undef) w') : op.wp P a w K Q := by
  have hsz : (rowA R).size = 9 := by simp [rowA, hR]
  have hfit : k * 9 + 9 ≤ rows.length * 9 := by omega
  refine wp_store_mid ty x y ho b (k * 9) (rowA R) hx hy (there_of_row _ _ hb (by rw [hsz]; simp only [rowA, List.size_toArray, List.length_map, fl_len rows h9]; exact hfit)) (by rw [hsz]; exact hi) (rowA_one R) ?_
  refine h _ ?_ (setCells_but b _ _ w)
  rw [heap_setCells_same b t (0, 0) (rowA R).toList (k * 9) w _ hb (by simp only [rowA, List.size_toArray, List.length_map, fl_len rows h9, hR]; exact hfit)]
  rw [← fl_splice rows k R h9 hR hk]
  simp only [rowA, splice, List.map_append, List.map_take, List.map_drop, List.length_map]
theorem wpList_put_row {P : Program} {ops : Array Oper} {rest : List Oper} {op : Oper} {a : Act} {w : World} {Q : Exit → Act → World → Prop} (hgd : op.guard = none) (ty : TypeId) (x y : Operand) (ho : op.op = .store ty x y)
    (b k : Nat) (rows : List (List Int)) (R : List Int) (t : TypeId) (hx : a.eval x = .pointer (some ⟨b, k * 9, none⟩)) (hy : a.eval y = .agg (rowA R))
    (hb : w.heap[b]? = some (.cells (rowA (fl rows)) t (0, 0))) (h9 : ∀ r ∈ rows, r.length = 9) (hR : R.length = 9) (hk : k < rows.length) (hi : (P.info? ty).map (·.size) = some 9)
    (h : ∀ w', w'.heap[b]? = some (.cells (rowA (fl (rows.set k R))) t (0, 0)) → But b w w' → wpList P ops Q rest (a.put op.dst undef) w') : wpList P ops Q (op :: rest) a w :=
  wpList_plain hgd fun _ hK => wp_put_row ty x y ho b k rows R t hx hy hb h9 hR hk hi fun w' h1 h2 => hK _ _ (h w' h1 h2)
end Go.Proofs.Ytphghclkfbhagaa
