/- A disk in memory: more blocks, or fewer, that a call must leave alone; a slice of bytes as a string; a call out of a list, opened. -/
import Derived.Test.YtonbfolgdfkgnaaSecHead
import Derived.Test.YtonbfolgdfkgnaaSecGreat
set_option linter.unusedVariables false
set_option linter.unusedSimpArgs false
set_option maxRecDepth 100000
namespace Go.Proofs.Ytonbfolgdfkgnaa
open Go Go.RowKit

theorem HD.ok {w : World} {U : Nat → Prop} {p q : Nat} {d : DD} (h : HD w U p q d) : d.ok := by
  obtain ⟨c, h⟩ := h
  exact h.ok
theorem HDc.turn {w : World} {U U' : Nat → Prop} {p q c : Nat} {d : DD} (h : HDc w U p q c d) (hp : ¬ U' p) (hq : ¬ U' q) (hc : ∀ x, d.cut = some x → ¬ U' c) (ho : ∀ k, U' k → k < w.heap.size) : HDc w U' p q c d :=
  ⟨h.ok, ho, h.pq, hp, hq, h.hp, h.hq, fun a b e => ⟨(h.hc a b e).1, (h.hc a b e).2.1, hc _ e, (h.hc a b e).2.2.2⟩⟩
theorem HDc.cold {w : World} {U : Nat → Prop} {p q c : Nat} {d : DD} (h : HDc w U p q c d) : ∀ x, d.cut = some x → c < w.heap.size := by
  rintro ⟨a, b⟩ e
  exact (Array.getElem?_eq_some_iff.1 (h.hc a b e).2.2.2).1
theorem HDc.pold {w : World} {U : Nat → Prop} {p q c : Nat} {d : DD} (h : HDc w U p q c d) : p < w.heap.size := (Array.getElem?_eq_some_iff.1 h.hp).1
theorem HDc.qold {w : World} {U : Nat → Prop} {p q c : Nat} {d : DD} (h : HDc w U p q c d) : q < w.heap.size := (Array.getElem?_eq_some_iff.1 h.hq).1
theorem HD.less {w : World} {U U' : Nat → Prop} {p q : Nat} {d : DD} (h : HD w U p q d) (hu : ∀ k, U' k → U k) : HD w U' p q d := by
  obtain ⟨c, h⟩ := h
  refine ⟨c, h.turn (fun hk => h.up (hu _ hk)) (fun hk => h.uq (hu _ hk)) ?_ (fun k hk => h.old k (hu k hk))⟩
  rintro ⟨a, b⟩ e hk
  exact (h.hc a b e).2.2.1 (hu _ hk)
/-- blocks that are new are left alone as well -/
theorem HD.plus {w w' : World} {U : Nat → Prop} {p q : Nat} {d : DD} (h : HD w U p q d) (hb : Below w.heap.size w w') : HD w' (fun k => U k ∨ w.heap.size ≤ k ∧ k < w'.heap.size) p q d := by
  obtain ⟨c, h⟩ := h
  have h' := h.below hb
  refine ⟨c, h'.turn ?_ ?_ ?_ ?_⟩
  · rintro (hk | hk)
    · exact h.up hk
    · have := h.pold; omega
  · rintro (hk | hk)
    · exact h.uq hk
    · have := h.qold; omega
  · rintro ⟨a, b⟩ e (hk | hk)
    · exact (h.hc a b e).2.2.1 hk
    · have := h.cold _ e; omega
  · rintro k (hk | hk)
    · have := h.old k hk; have := hb.size; omega
    · omega
theorem kcv (w' : World) (A : Option Addr) (n c B : Nat) (l : List Nat) (h : Rd w' B 1 A n (l.map bv)) : (convert 29 9 (.slice A n c)).run Try.prog w' = .ok (.string (bstr l)) w' :=
  run_str h 29 9 5 Try.underlying29 Try.underlying5 Try.underlying9

/-- the box of a call that was taken out of a list -/
def Opr.box (r : Opr) : Obj := .cells #[.int .i64 r.what, .int .i64 r.at_, .int .i64 r.n, .slice r.A r.len r.cap] 31
structure Boxed (w : World) (x : Nat) (r : Opr) : Prop where
  f0 : w.cell? ⟨x, 0, none⟩ = some (.int .i64 r.what)
  f1 : w.cell? ⟨x, 1, none⟩ = some (.int .i64 r.at_)
  f2 : w.cell? ⟨x, 2, none⟩ = some (.int .i64 r.n)
  f3 : w.cell? ⟨x, 3, none⟩ = some (.slice r.A r.len r.cap)
theorem boxed {w : World} {x : Nat} {r : Opr} (h : w.heap[x]? = some r.box) : Boxed w x r :=
  ⟨cell_of_row w x 0 _ _ _ h, cell_of_row w x 1 _ _ _ h, cell_of_row w x 2 _ _ _ h, cell_of_row w x 3 _ _ _ h⟩
/-- behind the making of the box -/
structure InBox (w : World) (U : Nat → Prop) (p q : Nat) (d : DD) (x : Nat) (r : Opr) : Prop where
  hd : HD w (fun k => U k ∨ x ≤ k ∧ k < x + 1) p q d
  hx : w.heap[x]? = some r.box
theorem InBox.make {w : World} {U : Nat → Prop} {p q : Nat} {d : DD} (r : Opr) (h : HD w U p q d) : InBox (w.alloc r.box) U p q d w.heap.size r := by
  refine ⟨?_, heap_alloc_new w _⟩
  have := h.plus ((Below.refl w.heap.size w).alloc (Nat.le_refl _) r.box)
  rwa [World.size_alloc] at this
theorem InBox.next {w w' : World} {U : Nat → Prop} {p q x : Nat} {d d' : DD} {r : Opr} (h : InBox w U p q d x r) (h' : HD w' (fun k => U k ∨ x ≤ k ∧ k < x + 1) p q d') (hk : Kept (fun k => U k ∨ x ≤ k ∧ k < x + 1) w w') : InBox w' U p q d' x r :=
  ⟨h', (hk.block x (.inr ⟨Nat.le_refl _, by omega⟩)).trans h.hx⟩
theorem InBox.out {w : World} {U : Nat → Prop} {p q x : Nat} {d : DD} {r : Opr} (h : InBox w U p q d x r) : HD w U p q d := h.hd.less fun k hk => .inl hk
theorem Kept.unbox {U : Nat → Prop} {a w w' : World} {x : Nat} (h : Kept U a w) (hk : Kept (fun k => U k ∨ x ≤ k ∧ k < x + 1) w w') : Kept U a w' := h.trans (hk.mono fun k hk => .inl hk)
end Go.Proofs.Ytonbfolgdfkgnaa
