/- A disk, and the reference's, side by side in memory. -/
import Derived.Test.YtonbfolgdfkgnaaSecU
import Derived.Test.YtonbfolgdfkgnaaRefG
set_option linter.unusedVariables false
set_option linter.unusedSimpArgs false
set_option maxRecDepth 100000
namespace Go.Proofs.Ytonbfolgdfkgnaa
open Go Go.RowKit

def V1 (U : Nat → Prop) (p' g : Nat) : Nat → Prop := fun k => U k ∨ k = p' ∨ k = g
def V2 (U : Nat → Prop) (p q c : Nat) (d : DD) : Nat → Prop := fun k => U k ∨ k = p ∨ k = q ∨ (d.cut ≠ none ∧ k = c)
def Two (w : World) (U : Nat → Prop) (p q p' g : Nat) (d r : DD) : Prop := ∃ c, HDc w (V1 U p' g) p q c d ∧ HR w (V2 U p q c d) p' g r
section
variable {w w' : World} {U : Nat → Prop} {p q p' g : Nat} {d d' r r' : DD}
theorem Two.left (h : Two w U p q p' g d r) : HD w (V1 U p' g) p q d := by
  obtain ⟨c, h1, h2⟩ := h
  exact ⟨c, h1⟩
theorem Two.lefts (h : Two w U p q p' g d r) (h' : HD w' (V1 U p' g) p q d') (hk : Kept (V1 U p' g) w w') : Two w' U p q p' g d' r := by
  obtain ⟨c, h1, x, h2⟩ := h
  obtain ⟨c', h1'⟩ := h'
  refine ⟨c', h1', x, h2.turn (hk.block _ (.inr (.inl rfl))) (hk.block _ (.inr (.inr rfl))) ?_ ?_ ?_⟩
  · rintro (hu | hu | hu | ⟨hc, hu⟩)
    · exact h2.up (.inl hu)
    · exact h1'.up (.inr (.inl hu.symm))
    · exact h1'.uq (.inr (.inl hu.symm))
    · rcases hcut : d'.cut with _ | ⟨a, b⟩
      · exact hc hcut
      · exact (h1'.hc a b hcut).2.2.1 (.inr (.inl hu.symm))
  · rintro (hu | hu | hu | ⟨hc, hu⟩)
    · exact h2.ug (.inl hu)
    · exact h1'.up (.inr (.inr hu.symm))
    · exact h1'.uq (.inr (.inr hu.symm))
    · rcases hcut : d'.cut with _ | ⟨a, b⟩
      · exact hc hcut
      · exact (h1'.hc a b hcut).2.2.1 (.inr (.inr hu.symm))
  · rintro k (hu | rfl | rfl | ⟨hc, rfl⟩)
    · exact h1'.old k (.inl hu)
    · exact h1'.pold
    · exact h1'.qold
    · rcases hcut : d'.cut with _ | ⟨a, b⟩
      · exact absurd hcut hc
      · exact h1'.cold _ hcut
theorem Two.right (h : Two w U p q p' g d r) : ∃ V : Nat → Prop, HR w V p' g r ∧ (∀ k, U k → V k) ∧ ∀ w' r', HR w' V p' g r' → Kept V w w' → Two w' U p q p' g d r' := by
  obtain ⟨c, h1, h2⟩ := h
  refine ⟨V2 U p q c d, h2, fun k hk => .inl hk, fun w' r' h' hk => ⟨c, ?_, h'⟩⟩
  obtain ⟨x, h2⟩ := h2
  refine ⟨h1.ok, fun k hu => Nat.lt_of_lt_of_le (h1.old k hu) hk.size, h1.pq, h1.up, h1.uq, (hk.block _ (.inr (.inl rfl))).trans h1.hp, (hk.block _ (.inr (.inr (.inl rfl)))).trans h1.hq, fun a b e => ?_⟩
  obtain ⟨a1, a2, a3, a4⟩ := h1.hc a b e
  exact ⟨a1, a2, a3, (hk.block _ (.inr (.inr (.inr ⟨by rw [e]; simp, rfl⟩)))).trans a4⟩
theorem Two.old (h : Two w U p q p' g d r) : ∀ k, U k → k < w.heap.size := fun k hk => by
  obtain ⟨c, h1, _⟩ := h
  exact h1.old k (.inl hk)
theorem Two.plus (h : Two w U p q p' g d r) (o : Obj) : Two (w.alloc o) (fun k => U k ∨ w.heap.size ≤ k ∧ k < w.heap.size + 1) p q p' g d r := by
  obtain ⟨c, h1, x, h2⟩ := h
  have hb : Below w.heap.size w (w.alloc o) := (Below.refl _ _).alloc (Nat.le_refl _) o
  have h1' := h1.below hb
  have h2' := h2.below hb
  have sz : (w.alloc o).heap.size = w.heap.size + 1 := World.size_alloc _ _
  have hp := h1.pold
  have hq := h1.qold
  have hp' := h2.pold
  have hg := h2.gold
  refine ⟨c, h1'.turn ?_ ?_ ?_ ?_, x, h2'.turn rfl rfl ?_ ?_ ?_⟩
  · rintro ((hu | hu) | hu | hu)
    · exact h1.up (.inl hu)
    · omega
    · exact h1.up (.inr (.inl hu))
    · exact h1.up (.inr (.inr hu))
  · rintro ((hu | hu) | hu | hu)
    · exact h1.uq (.inl hu)
    · omega
    · exact h1.uq (.inr (.inl hu))
    · exact h1.uq (.inr (.inr hu))
  · rintro ⟨a, b⟩ e ((hu | hu) | hu | hu)
    · exact (h1.hc a b e).2.2.1 (.inl hu)
    · have := h1.cold _ e; omega
    · exact (h1.hc a b e).2.2.1 (.inr (.inl hu))
    · exact (h1.hc a b e).2.2.1 (.inr (.inr hu))
  · rintro k ((hu | hu) | hu | hu)
    · have := h1.old k (.inl hu); omega
    · omega
    · omega
    · omega
  · rintro ((hu | hu) | hu)
    · exact h2.up (.inl hu)
    · omega
    · exact h2.up (.inr hu)
  · rintro ((hu | hu) | hu)
    · exact h2.ug (.inl hu)
    · omega
    · exact h2.ug (.inr hu)
  · rintro k ((hu | hu) | hu)
    · have := h2.old k (.inl hu); omega
    · omega
    · have := h2.old k (.inr hu); omega
theorem Two.less {U' : Nat → Prop} (h : Two w U p q p' g d r) (hu : ∀ k, U' k → U k) : Two w U' p q p' g d r := by
  obtain ⟨c, h1, x, h2⟩ := h
  refine ⟨c, h1.turn ?_ ?_ ?_ ?_, x, h2.turn rfl rfl ?_ ?_ ?_⟩
  · rintro (h | h)
    · exact h1.up (.inl (hu _ h))
    · exact h1.up (.inr h)
  · rintro (h | h)
    · exact h1.uq (.inl (hu _ h))
    · exact h1.uq (.inr h)
  · rintro ⟨a, b⟩ e (h | h)
    · exact (h1.hc a b e).2.2.1 (.inl (hu _ h))
    · exact (h1.hc a b e).2.2.1 (.inr h)
  · rintro k (h | h)
    · exact h1.old k (.inl (hu _ h))
    · exact h1.old k (.inr h)
  · rintro (h | h)
    · exact h2.up (.inl (hu _ h))
    · exact h2.up (.inr h)
  · rintro (h | h)
    · exact h2.ug (.inl (hu _ h))
    · exact h2.ug (.inr h)
  · rintro k (h | h)
    · exact h2.old k (.inl (hu _ h))
    · exact h2.old k (.inr h)
theorem Two.below (h : Two w U p q p' g d r) (hb : Below w.heap.size w w') : Two w' U p q p' g d r := by
  obtain ⟨c, h1, h2⟩ := h
  exact ⟨c, h1.below hb, h2.below hb⟩
theorem Two.lok (h : Two w U p q p' g d r) : d.ok := by
  obtain ⟨c, h1, h2⟩ := h
  exact h1.ok
/-- two new disks -/
theorem Two.make {w2 w3 : World} (h : HD w2 U p q d) (hq : d.cut = none) (h3 : HR w3 U w2.heap.size g r) (hg : w2.heap.size < g) (hb : Below w2.heap.size w2 w3) : Two w3 U p q w2.heap.size g d r := by
  obtain ⟨c, h1⟩ := h
  obtain ⟨x, h2⟩ := h3
  have h1' := h1.below hb
  have hp := h1.pold
  have hq' := h1.qold
  have hs := h2.gold
  refine ⟨c, h1'.turn ?_ ?_ ?_ ?_, x, h2.turn rfl rfl ?_ ?_ ?_⟩
  · rintro (hu | hu | hu)
    · exact h1.up hu
    · omega
    · omega
  · rintro (hu | hu | hu)
    · exact h1.uq hu
    · omega
    · omega
  · intro y e; rw [hq] at e; cases e
  · rintro k (hu | hu | hu)
    · exact h1'.old k hu
    · omega
    · omega
  · rintro (hu | hu | hu | ⟨hc, hu⟩)
    · exact h2.up hu
    · omega
    · omega
    · exact hc (hq)
  · rintro (hu | hu | hu | ⟨hc, hu⟩)
    · exact h2.ug hu
    · omega
    · omega
    · exact hc (hq)
  · rintro k (hu | hu | hu | ⟨hc, hu⟩)
    · exact h2.old k hu
    · omega
    · omega
    · exact absurd (hq) hc
end
/-- the box of a call, beside both -/
structure InBox2 (w : World) (U : Nat → Prop) (p q p' g : Nat) (d s : DD) (x : Nat) (r : Opr) : Prop where
  hd : Two w (fun k => U k ∨ x ≤ k ∧ k < x + 1) p q p' g d s
  hx : w.heap[x]? = some r.box
section
variable {w w' : World} {U : Nat → Prop} {p q p' g x : Nat} {d d' s s' : DD} {r : Opr}
theorem InBox2.make (r : Opr) (h : Two w U p q p' g d s) : InBox2 (w.alloc r.box) U p q p' g d s w.heap.size r := ⟨h.plus _, heap_alloc_new w _⟩
theorem InBox2.left (h : InBox2 w U p q p' g d s x r) (h' : HD w' (V1 (fun k => U k ∨ x ≤ k ∧ k < x + 1) p' g) p q d') (hk : Kept (V1 (fun k => U k ∨ x ≤ k ∧ k < x + 1) p' g) w w') :
    InBox2 w' U p q p' g d' s x r ∧ Kept U w w' :=
  ⟨⟨h.hd.lefts h' hk, (hk.block x (.inl (.inr ⟨Nat.le_refl _, by omega⟩))).trans h.hx⟩, hk.mono fun k hu => .inl (.inl hu)⟩
theorem InBox2.right (h : InBox2 w U p q p' g d s x r) : ∃ V : Nat → Prop, HR w V p' g s ∧ ∀ w' s', HR w' V p' g s' → Kept V w w' → InBox2 w' U p q p' g d s' x r ∧ Kept U w w' := by
  obtain ⟨V, h1, h2, h3⟩ := h.hd.right
  exact ⟨V, h1, fun w' s' h' hk => ⟨⟨h3 _ _ h' hk, (hk.block x (h2 _ (.inr ⟨Nat.le_refl _, by omega⟩))).trans h.hx⟩, hk.mono fun k hu => h2 _ (.inl hu)⟩⟩
theorem InBox2.below (h : InBox2 w U p q p' g d s x r) (hb : Below w.heap.size w w') : InBox2 w' U p q p' g d s x r ∧ Kept U w w' :=
  ⟨⟨h.hd.below hb, (hb.block x (h.hd.old x (.inr ⟨Nat.le_refl _, by omega⟩))).trans h.hx⟩, Kept.of hb fun k hk => h.hd.old k (.inl hk)⟩
theorem InBox2.out (h : InBox2 w U p q p' g d s x r) : Two w U p q p' g d s := h.hd.less fun k hk => .inl hk
end
end Go.Proofs.Ytonbfolgdfkgnaa
