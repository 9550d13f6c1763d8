/- Words on memory for an object that lies in a block of its own: which blocks a call leaves alone; a copy into the midst of a block. -/
import Derived.Test.YtphghclkfbhagaaBase
set_option linter.unusedVariables false
set_option linter.unusedSimpArgs false
set_option maxRecDepth 100000
namespace Go.Proofs.Ytphghclkfbhagaa
open Go Go.RowKit

/-- of the blocks that U names none has turned -/
structure Kept (U : Nat → Prop) (w w' : World) : Prop where
  os : w'.os = w.os
  tape : w'.tape = w.tape
  output : w'.output = w.output
  size : w.heap.size ≤ w'.heap.size
  block : ∀ k, U k → w'.heap[k]? = w.heap[k]?
section
variable {U U' : Nat → Prop} {a b c w w' : World} {B : Nat}
theorem Kept.refl (U : Nat → Prop) (w : World) : Kept U w w := ⟨rfl, rfl, rfl, Nat.le_refl _, fun _ _ => rfl⟩
theorem Kept.trans (h : Kept U a b) (k : Kept U b c) : Kept U a c :=
  ⟨k.os.trans h.os, k.tape.trans h.tape, k.output.trans h.output, Nat.le_trans h.size k.size, fun i hi => (k.block i hi).trans (h.block i hi)⟩
theorem Kept.mono (h : Kept U w w') (hu : ∀ k, U' k → U k) : Kept U' w w' := ⟨h.os, h.tape, h.output, h.size, fun k hk => h.block k (hu k hk)⟩
theorem Kept.below (h : Kept U w w') (hu : ∀ k, k < B → U k) : Below B w w' := ⟨h.os, h.tape, h.output, h.size, fun k hk => h.block k (hu k hk)⟩
theorem Kept.of (h : Below B w w') (hu : ∀ k, U k → k < B) : Kept U w w' := ⟨h.os, h.tape, h.output, h.size, fun k hk => h.block k (hu k hk)⟩
theorem Kept.drew (h : Kept U a w) : Kept U a w.drew := ⟨h.os, h.tape, h.output, h.size, h.block⟩
theorem Kept.setCell (h : Kept U a w) {p : Addr} (hp : ¬ U p.block) (u : Value) : Kept U a (w.setCell p u) :=
  h.trans ⟨rfl, rfl, rfl, by simp [World.setCell], fun k hk => Below.heap_setCell _ _ _ _ (fun e => hp (e ▸ hk))⟩
theorem Kept.setRow (h : Kept U a w) {g : Nat} (hp : ¬ U g) (r : Array Value) : Kept U a (w.setRow g r) :=
  h.trans ⟨rfl, rfl, rfl, by show _ ≤ (Array.modify _ _ _).size; rw [Array.size_modify]; exact Nat.le_refl _, fun k hk => setRow_other w g k _ (fun e => hp (e ▸ hk))⟩
end
theorem heap_set_same {w : World} {b j : Nat} {cs : Array Value} {t : TypeId} {fr : Nat × Nat} (v : Value) (h : w.heap[b]? = some (.cells cs t fr)) : (w.setCell ⟨b, j, none⟩ v).heap[b]? = some (.cells (cs.setIfInBounds j v) t fr) := by
  simp [World.setCell, Array.getElem?_modify, h]
theorem heap_set_other {w : World} {b b' j : Nat} {o : Option Obj} (v : Value) (h : w.heap[b]? = o) (hne : b ≠ b') : (w.setCell ⟨b', j, none⟩ v).heap[b]? = o := by
  rw [Below.heap_setCell _ _ _ _ hne]; exact h
theorem heap_alloc_keep {w : World} {b : Nat} {x : Obj} (o : Obj) (h : w.heap[b]? = some x) : (w.alloc o).heap[b]? = some x := by
  rw [Below.heap_alloc _ _ _ (Array.getElem?_eq_some_iff.1 h).1]; exact h
theorem heap_drew (w : World) : w.drew.heap = w.heap := rfl
theorem size_drew (w : World) : w.drew.heap.size = w.heap.size := rfl
end Go.Proofs.Ytphghclkfbhagaa
