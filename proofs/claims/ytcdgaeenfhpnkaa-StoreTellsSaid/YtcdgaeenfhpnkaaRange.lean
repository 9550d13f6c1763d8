/- A range over a function, where each element that is handed to the body reads in memory: the law of the statement, at the widest fence. -/
import Derived.RangeFuncNested
import Derived.RangeFuncBound
import Derived.RangeFuncCalls
import Derived.RangeFuncLeaves
import Derived.OwnWalkIn
import Derived.TacticsInMore
import Derived.LoopNIn
import Derived.LoopIn
import Derived.Test.YtcdgaeenfhpnkaaBase
set_option linter.unusedVariables false
set_option linter.unusedSimpArgs false
namespace Go.Proofs.Ytcdgaeenfhpnkaa
open Go Go.RowKit

/-- a round for each element that the iterator may hand over next: of it Rx is known -/
def Round {α : Type} (n : Nat) (P : Program) (l : Nat) (encs : α → Array Value) (Rx : List α → α → World → Prop) (Kp : World → World → Prop) (J Jx : List α → World → Prop) : Prop :=
  ∀ pre x W, J pre W → Rx pre x W → YieldAt Fence.wide n P l (encs x) W fun e W' =>
    (e = .returned (.bool true) ∧ J (pre ++ [x]) W' ∧ Kp W W') ∨ (e = .returned (.bool false) ∧ Jx (pre ++ [x]) W')
def Iter {α : Type} (n : Nat) (P : Program) (g : Nat) (lb : Array Value) (encs : α → Array Value) (Rx : List α → α → World → Prop) (Kp : World → World → Prop) (S Sp : List α → Prop) (w : World) : Prop :=
  ∀ (l : Nat) (J Jx : List α → World → Prop) (W : World), Below w.heap.size w W → (∀ pre A B, J pre A → Below A.heap.size A B → J pre B) → Round (n - 1) P l encs Rx Kp J Jx → J [] W →
    CallsIn Fence.wide n P g (#[.func (.yield l) #[] #[]] ++ lb) W fun e W' => (∃ v, e = .returned v) ∧ ((∃ xs, S xs ∧ J xs W') ∨ (∃ pre, Sp pre ∧ Jx pre W'))

/-- the loop's record, and the block for what is deferred -/
def Book (w : World) (r : Loop) (W : World) : Prop := W.heap[w.heap.size + 1]? = some (.loop r) ∧ W.heap[w.heap.size]? = some (.deferred (some []))
theorem Book.lt {w W : World} {r : Loop} (h : Book w r W) : w.heap.size + 1 < W.heap.size := (Array.getElem?_eq_some_iff.1 h.1).1
theorem Book.below {w A B : World} {r : Loop} (h : Book w r A) (hb : Below A.heap.size A B) : Book w r B :=
  ⟨(hb.block _ h.lt).trans h.1, (hb.block _ (by have := h.lt; omega)).trans h.2⟩
theorem Book.keeps {w A B : World} {r : Loop} (h : Book w r A) (hk : KeepsFrom w.heap.size A B) : Book w r B :=
  ⟨hk.same _ _ (by omega) h.1 rfl, hk.same _ _ (Nat.le_refl _) h.2 rfl⟩
theorem Book.put {w A : World} {r : Loop} (h : Book w r A) (r' : Loop) : Book w r' (A.putObj (w.heap.size + 1) (.loop r')) :=
  ⟨World.putObj_heap_same h.lt, (World.putObj_heap_other (by omega)).trans h.2⟩

/-- what the body's round leaves -/
structure Stands {α : Type} (B : Nat) (I : α → World → Prop) : Prop where
  below : ∀ s X Y, I s X → Below X.heap.size X Y → I s Y
  put : ∀ s X k o o', B ≤ k → X.heap[k]? = some o → o.isCells = false → I s X → I s (X.putObj k o')
theorem Stands.put_book {α : Type} {w X : World} {r r' : Loop} {I : α → World → Prop} (h : Stands w.heap.size I) {s : α} (hb : Book w r X) (hs : I s X) : I s (X.putObj (w.heap.size + 1) (.loop r')) :=
  h.put s X _ _ _ (by omega) hb.1 rfl hs

variable {n : Nat} {P : Program}
theorem range_law {α : Type} {g : Operand} {ps : Array Tmp} {assign body : Code} {Q : Exit → Act → World → Prop} {a : Act} {w w0 : World} {gf : Nat} {lb : Array Value}
    {encs : α → Array Value} {Rx : List α → α → World → Prop} {Kp : World → World → Prop} {S Sp : List α → Prop}
    (hg : a.eval g = .func (.func gf) #[] lb) (eg : ∀ args w, (callFunc gf args).run P w = .ok (.enter gf args) w)
    (hit : Iter (n - 1) P gf lb encs Rx Kp S Sp w0) (hb0 : Below w0.heap.size w0 w) (hps : ∀ x, (encs x).size = ps.size)
    (hKt : ∀ {A B C : World}, Kp A B → Kp B C → Kp A C) (hKp : ∀ A k o o', w.heap.size ≤ k → A.heap[k]? = some o → o.isCells = false → Kp A (A.putObj k o'))
    (I : List α → World → Prop) (Ix : Code → List α → World → Prop) (Ax : List α × α × Act → World → Prop)
    (sI : Stands w.heap.size I) (sIx : ∀ c, Stands w.heap.size (Ix c)) (sAx : Stands w.heap.size Ax) (h0 : I [] w)
    (hassign : ∀ (l : Nat) (pre : List α) (x : α) (W : World), I pre W → Rx pre x W →
      assign.wpIn (Fence.wide.inRound l) (n - 1 - 1) P (Exit.then (fun a1 W1 => Below W.heap.size W W1 ∧ Kp W W1 ∧ Ax (pre, x, a1) W1) (fun _ _ _ => False)) { tmps := (ps.zip (encs x)).foldl (fun t (p, v) => t.setIfInBounds p v) a.tmps, defers := [] } W)
    (hbody : ∀ (l : Nat) (pre : List α) (x : α) (a1 : Act) (W : World), Ax (pre, x, a1) W → body.wpIn (Fence.wide.inRound l) (n - 1 - 1) P (ownPostG w.heap.size Kp I Ix (pre ++ [x]) W) a1 W)
    (hdone : ∀ (D : Nat) (xs : List α) (W : World), w.heap.size ≤ D → S xs → I xs W → W.heap[D]? = some (.deferred (some [])) → Q .normal { a with defers := { target := .collected D, args := #[] } :: a.defers } W)
    (hstop : ∀ (D : Nat) (c : Code) (pre : List α) (W : World), w.heap.size ≤ D → Sp pre → Ix c pre W → W.heap[D]? = some (.deferred (some [])) → c.wpIn Fence.wide n P Q { a with defers := { target := .collected D, args := #[] } :: a.defers } W) :
    (Code.rangeFunc g ps assign body).wpIn Fence.wide n P Q a w := by
  refine wpIn_rangeFunc fun fn hfn => ?_
  -- the record in each of its states
  let r0 : Loop := { state := .ready, pending := none, fn, tmps := a.tmps, params := ps, assign, body, defers := w.heap.size }
  have hB1 : Book w r0 ((w.alloc (.deferred (some []))).alloc (.loop r0)) := by
    constructor
    · have := World.alloc_heap_new (w.alloc (.deferred (some []))) (.loop r0)
      rwa [World.size_alloc] at this
    · exact (Below.heap_alloc _ _ _ (by simp)).trans (World.alloc_heap_new w _)
  have hw1 : Below w.heap.size w ((w.alloc (.deferred (some []))).alloc (.loop r0)) := ((Below.refl _ w).alloc (Nat.le_refl _) _).alloc (by simp) _
  obtain ⟨W1, hW1⟩ : ∃ W1, W1 = (w.alloc (.deferred (some []))).alloc (.loop r0) := ⟨_, rfl⟩
  rw [← hW1] at hB1 hw1
  refine ⟨w.heap.size + 1, [{ target := .collected w.heap.size, args := #[] }], W1, { target := .fn (.func gf) lb, args := #[.func (.yield (w.heap.size + 1)) #[] #[]] }, W1, gf,
    #[.func (.yield (w.heap.size + 1)) #[] #[]] ++ lb, W1, ?_, ?_, (fun f' hf' => trivial), ?_, (fun h => by cases h), ?_⟩
  · rw [hW1]; exact run_enterLoop_outer fn a.tmps ps assign body
  · simp only [resolve, hg]
    simp [go_sem]
  · simp [invoke, go_sem, eg]
  have hcall := hit (w.heap.size + 1) (fun pre W => I pre W ∧ Book w r0 W) (fun pre W => ∃ c, Ix c pre W ∧ Book w { r0 with state := .done, pending := some c } W)
    W1 (hb0.trans (hw1.mono hb0.size)) (fun pre A B h hb => ⟨sI.below _ _ _ h.1 hb, h.2.below hb⟩) ?_ ⟨sI.below _ _ _ h0 hw1, hB1⟩
  · -- when the function has returned
    refine hcall.mono ?_
    rintro e W2 ⟨⟨v, rfl⟩, ⟨xs, hS, hi, hb⟩ | ⟨pre, hSp, c, hi, hb⟩⟩
    · exact ⟨none, _, run_endLoop hb.1 (by simp [r0]), hdone _ xs _ (Nat.le_refl _) hS (sI.put_book hb hi) (hb.put _).2⟩
    · exact ⟨some c, _, run_endLoop hb.1 (by simp), hstop _ c pre _ (Nat.le_refl _) hSp ((sIx c).put_book hb hi) (hb.put _).2⟩
  · -- one round
    rintro pre x W ⟨hi, hb⟩ hx
    refine ⟨fn, _, assign, body, run_yield hb.1 (hps x), roundIn_of_wpIn hfn (wpIn_mono (hassign _ pre x W hi hx) ?_)⟩
    rintro e a1 W1 hp
    cases e with
    | normal =>
      obtain ⟨hbel, hk1, hax⟩ := hp
      have hb1 := hb.below hbel
      refine ⟨_, run_beginRound hb1.1 rfl, ?_⟩
      have hb2 := hb1.put { r0 with state := .busy }
      have hk2 : Kp W1 (W1.putObj (w.heap.size + 1) (.loop { r0 with state := .busy })) := hKp _ _ _ _ (by omega) hb1.1 rfl
      refine wpIn_mono (hbody _ pre x a1 _ (sAx.put_book hb1 hax)) ?_
      have fin : ∀ (jump : Option Code) (W3 : World), KeepsFrom w.heap.size (W1.putObj (w.heap.size + 1) (.loop { r0 with state := .busy })) W3 →
          Book w { r0 with state := .busy } W3 ∧ (Instr.endRound (w.heap.size + 1) jump).run P W3 = .ok (.bool jump.isNone) (W3.putObj (w.heap.size + 1) (.loop { r0 with state := if jump.isNone then .ready else .done, pending := jump })) ∧
          Book w { r0 with state := if jump.isNone then .ready else .done, pending := jump } (W3.putObj (w.heap.size + 1) (.loop { r0 with state := if jump.isNone then .ready else .done, pending := jump })) := fun jump W3 hk => by
        have hb3 := hb2.keeps hk
        exact ⟨hb3, run_endRound (r := { r0 with state := .busy }) jump hb3.1, hb3.put _⟩
      intro e a3 W3 hp
      cases e with
      | normal =>
        obtain ⟨hk3, hkp, hi3⟩ := hp
        obtain ⟨hb3, hrun, hb4⟩ := fin none W3 hk3
        exact ⟨_, _, hrun, .inl ⟨rfl, ⟨sI.put_book hb3 hi3, hb4⟩, hKt hk1 (hKt hk2 (hKt hkp (hKp _ _ _ _ (by omega) hb3.1 rfl)))⟩⟩
      | ret =>
        obtain ⟨hk3, hi3⟩ := hp
        obtain ⟨hb3, hrun, hb4⟩ := fin (some .ret) W3 hk3
        exact ⟨_, _, hrun, .inr ⟨rfl, _, (sIx _).put_book hb3 hi3, hb4⟩⟩
      | exit id =>
        obtain ⟨hk3, hi3⟩ := hp
        obtain ⟨hb3, hrun, hb4⟩ := fin (some (.exit id)) W3 hk3
        exact ⟨_, _, hrun, .inr ⟨rfl, _, (sIx _).put_book hb3 hi3, hb4⟩⟩
      | goto t =>
        obtain ⟨hk3, hi3⟩ := hp
        obtain ⟨hb3, hrun, hb4⟩ := fin (some (.goto t)) W3 hk3
        exact ⟨_, _, hrun, .inr ⟨rfl, _, (sIx _).put_book hb3 hi3, hb4⟩⟩
      | panic ch => exact hp.elim
      | outgrown => exact hp.elim
    | ret => exact hp.elim
    | exit id => exact hp.elim
    | goto t => exact hp.elim
    | panic ch => exact hp.elim
    | outgrown => exact hp.elim
end Go.Proofs.Ytcdgaeenfhpnkaa
