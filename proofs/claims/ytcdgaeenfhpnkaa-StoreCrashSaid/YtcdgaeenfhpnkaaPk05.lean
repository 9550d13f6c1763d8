/- Arguments, as they are read, told in my words: slices of bytes. -/
import Derived.Test.YtcdgaeenfhpnkaaPk01
import Derived.Test.YtcdgaeenfhpnkaaPk03
import Derived.Test.YtcdgaeenfhpnkaaPk04
import Derived.ProofKit
import Derived.OpenShut
import Derived.ChangeOld
import Derived.RangeFuncNested
import Derived.RangeFuncBound
import Derived.RangeFuncCalls
import Derived.RangeFuncLeaves
import Derived.OwnWalkIn
import Derived.TacticsInMore
import Derived.LoopNIn
import Derived.LoopIn
set_option linter.unusedVariables false
set_option linter.unusedSimpArgs false
namespace Go.Proofs.Ytcdgaeenfhpnkaa
open Go Go.RowKit Go.ChangeShapes Go.WideShapes Go.ChangeAt

theorem wf_u8_lt {n : Int} (h : (Lit.int .u8 n).wf = true) : 0 ≤ n ∧ n < 256 := by
  have := bounds_u8 h
  omega

theorem wf_u16_lt {n : Int} (h : (Lit.int .u16 n).wf = true) : 0 ≤ n ∧ n < 65536 := by
  have := bounds_u16 h
  omega

theorem bytes_of_trod {H : Type} {enc : TypeId × Value → H} {P : Program} {W : World} {t e fuel : Nat} {a : Option Addr} {len cap : Nat} {x : DataW H × List MemPlace}
    (ht : P.underlying t = some (.slice e)) (he : P.underlying e = some (.int .u8)) (hc : P.cellsOf e = 1)
    (hf : DataW.trod enc P W 0 (fun _ => true) true fuel t (Value.cells (.slice a len cap)).toList = some x) :
    ∃ l : List Nat, Rd W W.heap.size 1 a len (l.map bv) ∧ (∀ c ∈ l, c < 256) ∧ len ≤ cap ∧ cap ≤ maxLen := by
  rcases open_ints ht he hc hf with ⟨hcs, _⟩ | ⟨x, l, c, zs, hcs, _, hl, hm, hz, _, hcell, hwz⟩
  · simp [Value.cells] at hcs
    obtain ⟨rfl, rfl, rfl⟩ := hcs
    exact ⟨[], Rd.nil_ _ _ _ _, by simp, by omega, by simp [maxLen]⟩
  · simp [Value.cells] at hcs
    obtain ⟨rfl, rfl, rfl⟩ := hcs
    have hz' : zs.length = cap := by simpa using hz
    refine ⟨(zs.take len).map Int.toNat, ?_, ?_, hl, hm⟩
    · refine ⟨by simp; omega, fun hn => ?_⟩
      have h0 := hcell 0 (by omega)
      have hsp : x.spot = none := by
        have := World.cell?_spot h0
        simpa [Addr.add] using this
      obtain ⟨b, off, spot⟩ := x
      subst hsp
      refine ⟨b, off, rfl, ?_, fun j u hu => ?_⟩
      · have := World.block_lt_of_cell? W _ h0
        rwa [addr_add] at this
      · simp only [List.getElem?_map, List.getElem?_take] at hu
        by_cases hj : j < len
        · rw [if_pos hj] at hu
          have hjz : j < zs.length := by omega
          rw [List.getElem?_eq_getElem hjz] at hu
          simp only [Option.map_some, Option.some.injEq] at hu
          have := hcell j hjz
          rw [addr_add] at this
          rw [this, ← hu]
          have hw := wf_u8_lt (hwz _ (List.getElem_mem hjz))
          simp only [bv]
          rw [List.getD_eq_getElem?_getD, List.getElem?_eq_getElem hjz]
          simp only [Option.getD_some]
          rw [Int.toNat_of_nonneg hw.1]
        · rw [if_neg hj] at hu; simp at hu
    · intro c hc
      obtain ⟨z, hz1, rfl⟩ := List.mem_map.1 hc
      have := wf_u8_lt (hwz z (List.mem_of_mem_take hz1))
      omega
end Go.Proofs.Ytcdgaeenfhpnkaa
/- A slice of whatever, as it is read, told as a list. -/
set_option linter.unusedVariables false
set_option linter.unusedSimpArgs false
set_option maxRecDepth 100000
namespace Go.Proofs.Ytcdgaeenfhpnkaa
open Go Go.RowKit Go.ChangeShapes Go.WideShapes Go.ChangeAt

/-- a slice of n elements of k cells each reads as a list; it lies below block B -/
def RdS {α : Type} (enc : α → List Value) (w : World) (B k : Nat) (A : Option Addr) (n : Nat) (l : List α) : Prop :=
  l.length = n ∧ (0 < n → ∃ b o, A = some ⟨b, o, none⟩ ∧ b < B ∧ ∀ (j : Nat) (r : α), l[j]? = some r → ∀ (i : Nat) (u : Value), (enc r)[i]? = some u → w.cell? ⟨b, o + j * k + i, none⟩ = some u)
theorem RdS.keep {α : Type} {enc : α → List Value} {w w' : World} {B k n : Nat} {A : Option Addr} {l : List α} (h : RdS enc w B k A n l) (hk : ∀ p : Addr, p.block < B → w'.cell? p = w.cell? p) : RdS enc w' B k A n l :=
  ⟨h.1, fun hn => by
    obtain ⟨b, o, e, hb, hc⟩ := h.2 hn
    exact ⟨b, o, e, hb, fun j r hj i u hi => (hk ⟨b, o + j * k + i, none⟩ hb).trans (hc j r hj i u hi)⟩⟩
theorem RdS.below {α : Type} {enc : α → List Value} {w w' : World} {B k n : Nat} {A : Option Addr} {l : List α} (h : RdS enc w B k A n l) (hb : Below B w w') : RdS enc w' B k A n l := h.keep fun p hp => hb.cell (p := p) hp
theorem RdS.more {α : Type} {enc : α → List Value} {w : World} {B B' k n : Nat} {A : Option Addr} {l : List α} (h : RdS enc w B k A n l) (hB : B ≤ B') : RdS enc w B' k A n l :=
  ⟨h.1, fun hn => by
    obtain ⟨b, o, e, hb, hc⟩ := h.2 hn
    exact ⟨b, o, e, by omega, hc⟩⟩
theorem choose_list {α : Type} (n : Nat) (P : Nat → α → Prop) (h : ∀ i, i < n → ∃ r, P i r) : ∃ l : List α, l.length = n ∧ ∀ (i : Nat) (r : α), l[i]? = some r → P i r := by
  induction n with
  | zero => exact ⟨[], rfl, fun i r hi => by simp at hi⟩
  | succ n ih =>
    obtain ⟨l, hl, hP⟩ := ih (fun i hi => h i (by omega))
    obtain ⟨r, hr⟩ := h n (by omega)
    refine ⟨l ++ [r], by simp [hl], fun i x hi => ?_⟩
    rcases Nat.lt_or_ge i n with hin | hin
    · rw [List.getElem?_append_left (by omega)] at hi
      exact hP i x hi
    · rw [List.getElem?_append_right (by omega)] at hi
      have hlt := (List.getElem?_eq_some_iff.1 hi).1
      simp at hlt
      have e : i = n := by omega
      subst e
      rw [hl, Nat.sub_self] at hi
      simp at hi
      rw [← hi]; exact hr
def ivw (n : Int) : List Value := [.int .i64 n]
theorem int_of_trod {H : Type} {enc : TypeId × Value → H} {P : Program} {W : World} {t fuel : Nat} {d : List Value} {x : DataW H × List MemPlace} (ht : P.underlying t = some (.int .i64))
    (h : DataW.trod enc P W 0 (fun _ => true) true fuel t d = some x) : ∃ z : Int, d = ivw z ∧ -9223372036854775808 ≤ z ∧ z ≤ 9223372036854775807 := by
  obtain ⟨z0, e0, _, w0⟩ := DataW.trod_int ht h
  exact ⟨z0, e0, bounds_i64 w0⟩
end Go.Proofs.Ytcdgaeenfhpnkaa
/- A range over a function, where each element that is handed to the body reads in memory: the law of the statement, at the widest fence. -/
set_option linter.unusedVariables false
set_option linter.unusedSimpArgs false
namespace Go.Proofs.Ytcdgaeenfhpnkaa
open Go Go.RowKit

/-- a round for each element that the iterator may hand over next: of it Rx is known -/
def Round {α : Type} (n : Nat) (P : Program) (l : Nat) (encs : α → Array Value) (Rx : List α → α → World → Prop) (Kp : World → World → Prop) (J Jx : List α → World → Prop) : Prop :=
  ∀ pre x W, J pre W → Rx pre x W → YieldAt Fence.wide n P l (encs x) W fun e W' =>
    (e = .returned (.bool true) ∧ J (pre ++ [x]) W' ∧ Kp W W') ∨ (e = .returned (.bool false) ∧ Jx (pre ++ [x]) W')
def Iter {α : Type} (n : Nat) (P : Program) (g : Nat) (lb : Array Value) (encs : α → Array Value) (Rx : List α → α → World → Prop) (Kp : World → World → Prop) (S Sp : List α → Prop) (w : World) : Prop :=
  ∀ (l : Nat) (J Jx : List α → World → Prop) (W : World), Below w.heap.size w W → (∀ pre A B, J pre A → Below A.heap.size A B → J pre B) → Round (n - 1) P l encs Rx Kp J Jx → J [] W →
    CallsIn Fence.wide n P g (#[.func (.yield l) #[] #[]] ++ lb) W fun e W' => (∃ v, e = .returned v) ∧ ((∃ xs, S xs ∧ J xs W') ∨ (∃ pre, Sp pre ∧ Jx pre W'))

/-- the loop's record, and the block for what is deferred -/
def Book (w : World) (r : Loop) (W : World) : Prop := W.heap[w.heap.size + 1]? = some (.loop r) ∧ W.heap[w.heap.size]? = some (.deferred (some []))
theorem Book.lt {w W : World} {r : Loop} (h : Book w r W) : w.heap.size + 1 < W.heap.size := (Array.getElem?_eq_some_iff.1 h.1).1
theorem Book.below {w A B : World} {r : Loop} (h : Book w r A) (hb : Below A.heap.size A B) : Book w r B :=
  ⟨(hb.block _ h.lt).trans h.1, (hb.block _ (by have := h.lt; omega)).trans h.2⟩
theorem Book.keeps {w A B : World} {r : Loop} (h : Book w r A) (hk : KeepsFrom w.heap.size A B) : Book w r B :=
  ⟨hk.same _ _ (by omega) h.1 rfl, hk.same _ _ (Nat.le_refl _) h.2 rfl⟩
theorem Book.put {w A : World} {r : Loop} (h : Book w r A) (r' : Loop) : Book w r' (A.putObj (w.heap.size + 1) (.loop r')) :=
  ⟨World.putObj_heap_same h.lt, (World.putObj_heap_other (by omega)).trans h.2⟩

/-- what the body's round leaves -/
structure Stands {α : Type} (B : Nat) (I : α → World → Prop) : Prop where
  below : ∀ s X Y, I s X → Below X.heap.size X Y → I s Y
  put : ∀ s X k o o', B ≤ k → X.heap[k]? = some o → o.isCells = false → I s X → I s (X.putObj k o')
theorem Stands.put_book {α : Type} {w X : World} {r r' : Loop} {I : α → World → Prop} (h : Stands w.heap.size I) {s : α} (hb : Book w r X) (hs : I s X) : I s (X.putObj (w.heap.size + 1) (.loop r')) :=
  h.put s X _ _ _ (by omega) hb.1 rfl hs

variable {n : Nat} {P : Program}
theorem range_law {α : Type} {g : Operand} {ps : Array Tmp} {assign body : Code} {Q : Exit → Act → World → Prop} {a : Act} {w w0 : World} {gf : Nat} {lb : Array Value}
    {encs : α → Array Value} {Rx : List α → α → World → Prop} {Kp : World → World → Prop} {S Sp : List α → Prop}
    (hg : a.eval g = .func (.func gf) #[] lb) (eg : ∀ args w, (callFunc gf args).run P w = .ok (.enter gf args) w)
    (hit : Iter (n - 1) P gf lb encs Rx Kp S Sp w0) (hb0 : Below w0.heap.size w0 w) (hps : ∀ x, (encs x).size = ps.size)
    (hKt : ∀ {A B C : World}, Kp A B → Kp B C → Kp A C) (hKp : ∀ A k o o', w.heap.size ≤ k → A.heap[k]? = some o → o.isCells = false → Kp A (A.putObj k o'))
    (I : List α → World → Prop) (Ix : Code → List α → World → Prop) (Ax : List α × α × Act → World → Prop)
    (sI : Stands w.heap.size I) (sIx : ∀ c, Stands w.heap.size (Ix c)) (sAx : Stands w.heap.size Ax) (h0 : I [] w)
    (hassign : ∀ (l : Nat) (pre : List α) (x : α) (W : World), I pre W → Rx pre x W →
      assign.wpIn (Fence.wide.inRound l) (n - 1 - 1) P (Exit.then (fun a1 W1 => Below W.heap.size W W1 ∧ Kp W W1 ∧ Ax (pre, x, a1) W1) (fun _ _ _ => False)) { tmps := (ps.zip (encs x)).foldl (fun t (p, v) => t.setIfInBounds p v) a.tmps, defers := [] } W)
    (hbody : ∀ (l : Nat) (pre : List α) (x : α) (a1 : Act) (W : World), Ax (pre, x, a1) W → body.wpIn (Fence.wide.inRound l) (n - 1 - 1) P (ownPostG w.heap.size Kp I Ix (pre ++ [x]) W) a1 W)
    (hdone : ∀ (D : Nat) (xs : List α) (W : World), w.heap.size ≤ D → S xs → I xs W → W.heap[D]? = some (.deferred (some [])) → Q .normal { a with defers := { target := .collected D, args := #[] } :: a.defers } W)
    (hstop : ∀ (D : Nat) (c : Code) (pre : List α) (W : World), w.heap.size ≤ D → Sp pre → Ix c pre W → W.heap[D]? = some (.deferred (some [])) → c.wpIn Fence.wide n P Q { a with defers := { target := .collected D, args := #[] } :: a.defers } W) :
    (Code.rangeFunc g ps assign body).wpIn Fence.wide n P Q a w := by
  refine wpIn_rangeFunc fun fn hfn => ?_
  -- the record in each of its states
  let r0 : Loop := { state := .ready, pending := none, fn, tmps := a.tmps, params := ps, assign, body, defers := w.heap.size }
  have hB1 : Book w r0 ((w.alloc (.deferred (some []))).alloc (.loop r0)) := by
    constructor
    · have := World.alloc_heap_new (w.alloc (.deferred (some []))) (.loop r0)
      rwa [World.size_alloc] at this
    · exact (Below.heap_alloc _ _ _ (by simp)).trans (World.alloc_heap_new w _)
  have hw1 : Below w.heap.size w ((w.alloc (.deferred (some []))).alloc (.loop r0)) := ((Below.refl _ w).alloc (Nat.le_refl _) _).alloc (by simp) _
  obtain ⟨W1, hW1⟩ : ∃ W1, W1 = (w.alloc (.deferred (some []))).alloc (.loop r0) := ⟨_, rfl⟩
  rw [← hW1] at hB1 hw1
  refine ⟨w.heap.size + 1, [{ target := .collected w.heap.size, args := #[] }], W1, { target := .fn (.func gf) lb, args := #[.func (.yield (w.heap.size + 1)) #[] #[]] }, W1, gf,
    #[.func (.yield (w.heap.size + 1)) #[] #[]] ++ lb, W1, ?_, ?_, (fun f' hf' => trivial), ?_, (fun h => by cases h), ?_⟩
  · rw [hW1]; exact run_enterLoop_outer fn a.tmps ps assign body
  · simp only [resolve, hg]
    simp [go_sem]
  · simp [invoke, go_sem, eg]
  have hcall := hit (w.heap.size + 1) (fun pre W => I pre W ∧ Book w r0 W) (fun pre W => ∃ c, Ix c pre W ∧ Book w { r0 with state := .done, pending := some c } W)
    W1 (hb0.trans (hw1.mono hb0.size)) (fun pre A B h hb => ⟨sI.below _ _ _ h.1 hb, h.2.below hb⟩) ?_ ⟨sI.below _ _ _ h0 hw1, hB1⟩
  · -- when the function has returned
    refine hcall.mono ?_
    rintro e W2 ⟨⟨v, rfl⟩, ⟨xs, hS, hi, hb⟩ | ⟨pre, hSp, c, hi, hb⟩⟩
    · exact ⟨none, _, run_endLoop hb.1 (by simp [r0]), hdone _ xs _ (Nat.le_refl _) hS (sI.put_book hb hi) (hb.put _).2⟩
    · exact ⟨some c, _, run_endLoop hb.1 (by simp), hstop _ c pre _ (Nat.le_refl _) hSp ((sIx c).put_book hb hi) (hb.put _).2⟩
  · -- one round
    rintro pre x W ⟨hi, hb⟩ hx
    refine ⟨fn, _, assign, body, run_yield hb.1 (hps x), roundIn_of_wpIn hfn (wpIn_mono (hassign _ pre x W hi hx) ?_)⟩
    rintro e a1 W1 hp
    cases e with
    | normal =>
      obtain ⟨hbel, hk1, hax⟩ := hp
      have hb1 := hb.below hbel
      refine ⟨_, run_beginRound hb1.1 rfl, ?_⟩
      have hb2 := hb1.put { r0 with state := .busy }
      have hk2 : Kp W1 (W1.putObj (w.heap.size + 1) (.loop { r0 with state := .busy })) := hKp _ _ _ _ (by omega) hb1.1 rfl
      refine wpIn_mono (hbody _ pre x a1 _ (sAx.put_book hb1 hax)) ?_
      have fin : ∀ (jump : Option Code) (W3 : World), KeepsFrom w.heap.size (W1.putObj (w.heap.size + 1) (.loop { r0 with state := .busy })) W3 →
          Book w { r0 with state := .busy } W3 ∧ (Instr.endRound (w.heap.size + 1) jump).run P W3 = .ok (.bool jump.isNone) (W3.putObj (w.heap.size + 1) (.loop { r0 with state := if jump.isNone then .ready else .done, pending := jump })) ∧
          Book w { r0 with state := if jump.isNone then .ready else .done, pending := jump } (W3.putObj (w.heap.size + 1) (.loop { r0 with state := if jump.isNone then .ready else .done, pending := jump })) := fun jump W3 hk => by
        have hb3 := hb2.keeps hk
        exact ⟨hb3, run_endRound (r := { r0 with state := .busy }) jump hb3.1, hb3.put _⟩
      intro e a3 W3 hp
      cases e with
      | normal =>
        obtain ⟨hk3, hkp, hi3⟩ := hp
        obtain ⟨hb3, hrun, hb4⟩ := fin none W3 hk3
        exact ⟨_, _, hrun, .inl ⟨rfl, ⟨sI.put_book hb3 hi3, hb4⟩, hKt hk1 (hKt hk2 (hKt hkp (hKp _ _ _ _ (by omega) hb3.1 rfl)))⟩⟩
      | ret =>
        obtain ⟨hk3, hi3⟩ := hp
        obtain ⟨hb3, hrun, hb4⟩ := fin (some .ret) W3 hk3
        exact ⟨_, _, hrun, .inr ⟨rfl, _, (sIx _).put_book hb3 hi3, hb4⟩⟩
      | exit id =>
        obtain ⟨hk3, hi3⟩ := hp
        obtain ⟨hb3, hrun, hb4⟩ := fin (some (.exit id)) W3 hk3
        exact ⟨_, _, hrun, .inr ⟨rfl, _, (sIx _).put_book hb3 hi3, hb4⟩⟩
      | goto t =>
        obtain ⟨hk3, hi3⟩ := hp
        obtain ⟨hb3, hrun, hb4⟩ := fin (some (.goto t)) W3 hk3
        exact ⟨_, _, hrun, .inr ⟨rfl, _, (sIx _).put_book hb3 hi3, hb4⟩⟩
      | panic ch => exact hp.elim
      | outgrown => exact hp.elim
    | ret => exact hp.elim
    | exit id => exact hp.elim
    | goto t => exact hp.elim
    | panic ch => exact hp.elim
    | outgrown => exact hp.elim
end Go.Proofs.Ytcdgaeenfhpnkaa
/- Within a round: a region goes there as it goes outside. -/
set_option linter.unusedVariables false
set_option linter.unusedSimpArgs false
namespace Go.Proofs.Ytcdgaeenfhpnkaa
open Go Go.RowKit

variable {n l : Nat} {P : Program}
theorem oper_round {o : Oper} {a : Act} {w : World} {K : Act → World → Prop} {Q : Exit → Act → World → Prop} (hd : ∀ c, o.op ≠ .defer c) (h : o.wp P a w K Q) : o.wpIn (Fence.wide.inRound l) n P a w K Q := by
  refine ⟨fun f _ => trivial, ?_⟩
  unfold Oper.wp at h
  rw [Oper.semAt_eq _ _ _ hd]
  cases hr : (execOp a.eval o).run P w with
  | halt x w' =>
    rw [hr] at h
    cases x <;> first | exact h | exact h.elim
  | ok x w' =>
    rw [hr] at h
    cases x with
    | enter f args => exact ⟨(fun h => by cases h), CallsIn.inRound l (callsIn_wide.2 h)⟩
    | row r args => exact ⟨(fun h => by cases h), fun c cs _ => by
        obtain ⟨v, w2, hR, hs⟩ := h c cs
        exact ⟨v, w2, hR, stepsIn_wide.2 hs⟩⟩
    | _ => first | exact h | exact h.elim
theorem oper_round_mono {o : Oper} {a : Act} {w : World} {K K' : Act → World → Prop} {Q : Exit → Act → World → Prop} (hd : ∀ c, o.op ≠ .defer c) (hk : ∀ a w, K a w → K' a w) (h : o.wp P a w K Q) : o.wpIn (Fence.wide.inRound l) n P a w K' Q :=
  oper_round hd (Oper.wp_mono hk h)
/-- none of the operations is a defer statement -/
def noDefer (ops : Array Oper) : Bool := ops.all fun o => match o.op with | .defer _ => false | _ => true
theorem noDefer_at {ops : Array Oper} (h : noDefer ops = true) {i : Nat} {o : Oper} (ho : ops[i]? = some o) : ∀ c, o.op ≠ .defer c := fun c e => by
  unfold noDefer at h
  rw [Array.all_eq_true_iff_forall_mem] at h
  have := h o (Array.mem_of_getElem? ho)
  rw [e] at this
  cases this
theorem ops_round {ops : Array Oper} {Q : Exit → Act → World → Prop} (hd : noDefer ops = true) (hQ : ¬ LetsOut Q) : ∀ (is : List Nat) (a : Act) (w : World), wpOps P ops Q is a w → wpOpsIn (Fence.wide.inRound l) n P ops Q is a w
  | [], a, w, h => h
  | i :: rest, a, w, h => by
    rw [wpOps_cons] at h
    rw [wpOpsIn_cons]
    unfold wpOp at h
    unfold wpOpIn
    cases ho : ops[i]? with
    | none =>
      rw [ho] at h
      exact ops_round hd hQ rest a w h
    | some o =>
      rw [ho] at h
      simp only at h ⊢
      by_cases hw : Region.wanted o (yielded ops a.tmps) = true
      · rw [if_pos hw] at h ⊢
        rcases h with h | ⟨_, h⟩
        · exact oper_round_mono (noDefer_at hd ho) (fun a w h => ops_round hd hQ rest a w h) h
        · exact absurd h hQ
      · rw [if_neg hw] at h ⊢
        exact ⟨(fun f _ => trivial), ops_round hd hQ rest _ w h⟩
/-- a region that goes in the order of its text -/
theorem list_round {id : Nat} {ops : Array Oper} {Q : Exit → Act → World → Prop} {a : Act} {w : World} (hd : noDefer ops = true) (hQ : ¬ LetsOut Q) (h : wpList P ops Q ops.toList a w) : (Code.region id ops false).wpIn (Fence.wide.inRound l) n P Q a w :=
  wpIn_region (ops_round hd hQ _ a w (by rw [List.range_eq_range', ← Array.length_toList, wpOps_eq_wpList ops.toList 0 (by simp)]; exact h))
/-- a region that draws its order -/
theorem any_round {id : Nat} {ops : Array Oper} {Q : Exit → Act → World → Prop} {a : Act} {w : World} (hd : noDefer ops = true) (hQ : ¬ LetsOut Q) (hm : P.follows .mixedOrders = true) (h : wpAny P .any ops Q ops.size (Array.replicate ops.size false) a w.drew) : (Code.region id ops true).wpIn (Fence.wide.inRound l) n P Q a w :=
  wpIn_region_draw fun t => by
    simp only [Region.schedule, hm, Bool.true_or, if_true]
    exact ops_round hd hQ _ a _ (wpAny_sound ops.size t _ a _ h)
theorem startR {ops : Array Oper} {Q : Exit → Act → World → Prop} {id : Nat} {a : Act} {w : World} (S : World → Prop) (k : Nat) (L : Array Bool) (hn : ops.size = k) (hL : Array.replicate k false = L) (hm : P.follows .mixedOrders = true) (hd : noDefer ops = true) (hQ : ¬ LetsOut Q) (hS : S w.drew)
    (h : S w.drew → wpAnyH P .any ops (NoPanic Q) S k L a w.drew) : (Code.region id ops true).wpIn (Fence.wide.inRound l) n P Q a w := by
  subst hn
  subst hL
  have hQ' : ¬ LetsOut (NoPanic Q) := fun ⟨a, w, h⟩ => hQ ⟨a, w, NoPanic.imp _ _ _ h⟩
  exact wpIn_mono (any_round (Q := NoPanic Q) hd hQ' hm (wpAny_of_held _ _ _ _ (h hS))) NoPanic.imp
/-- one operation of a list -/
theorem list_in {ops : Array Oper} {rest : List Oper} {o : Oper} {a : Act} {w : World} {Q : Exit → Act → World → Prop} (hg : o.guard = none) (hd : ∀ c, o.op ≠ .defer c)
    (h : ∀ K : Act → World → Prop, (∀ a w, wpListIn (Fence.wide.inRound l) n P ops Q rest a w → K a w) → o.wp P a w K Q) : wpListIn (Fence.wide.inRound l) n P ops Q (o :: rest) a w :=
  wpListIn_plain hg fun K hK => oper_round hd (h K hK)
theorem enters {f : FuncId} {fn : Func} (hf : P.funcs[f]? = some fn) (hname : (fn.name == "runtime.NumGoroutine") = false) (hb : fn.body.isNone = false) : ∀ args w, (callFunc f args).run P w = .ok (.enter f args) w := by
  intro args w
  have h1 : ¬ fn.name = "runtime.NumGoroutine" := by simpa using hname
  have h2 : ¬ fn.body = none := by cases hx : fn.body <;> simp_all
  simp [callFunc, hf, h1, h2]
/-- a call, by its contract -/
theorem call_in {f : FuncId} {args : Array Value} {w : World} {R : Ending → World → Prop} (h : Calls P f args w R) : CallsIn (Fence.wide.inRound l) n P f args w R := CallsIn.inRound l (callsIn_wide.2 h)
end Go.Proofs.Ytcdgaeenfhpnkaa
/- Package log, plain: what a sector tells, records of sectors, what is written. -/
set_option linter.unusedVariables false
set_option linter.unusedSimpArgs false
set_option maxRecDepth 100000
namespace Go.Proofs.Ytcdgaeenfhpnkaa
open CrcMath

structure Pc where
  turn : Nat
  which : Nat
  of_ : Nat
  bytes : List Nat
/-- what 62 bytes tell -/
def tellB (b : List Nat) : Option Pc :=
  if b.getD 0 0 ≠ 87 then none
  else if b.getD 1 0 * 256 + b.getD 2 0 = 0 ∨ 8 < b.getD 4 0 ∨ b.getD 4 0 ≤ b.getD 3 0 ∨ b.getD 5 0 = 0 ∨ 56 < b.getD 5 0 then none
  else if b.getD 3 0 + 1 < b.getD 4 0 ∧ b.getD 5 0 ≠ 56 then none
  else if (b.drop (6 + b.getD 5 0)).all (fun x => x == 0) then some ⟨b.getD 1 0 * 256 + b.getD 2 0, b.getD 3 0, b.getD 4 0, (b.drop 6).take (b.getD 5 0)⟩
  else none
/-- what a sector of 64 bytes tells -/
def tellF (s : List Nat) : Option Pc := if opens s then tellB (s.take 62) else none

structure RS where
  out : List (List Nat)
  record : List Nat
  turn : Nat
  taken : Nat
  which : Nat
  of_ : Nat
def RS.of1 (s : RS) (p : Pc) : Nat := if s.which = 0 then p.of_ else s.of_
def RS.turn1 (s : RS) (p : Pc) : Nat := if s.turn = 0 then p.turn else s.turn
def RS.fits (s : RS) (p : Pc) : Prop := p.turn = s.turn1 p ∧ p.which = s.which ∧ p.of_ = s.of1 p
instance (s : RS) (p : Pc) : Decidable (s.fits p) := by unfold RS.fits; infer_instance
/-- a piece more: false: it does not fit -/
def RS.step (s : RS) (p : Pc) : RS × Bool :=
  if s.fits p then
    (if s.which + 1 = s.of1 p then ⟨s.out ++ [s.record ++ p.bytes], [], s.turn1 p, s.taken + s.of1 p, 0, s.of1 p⟩
     else ⟨s.out, s.record ++ p.bytes, s.turn1 p, s.taken, s.which + 1, s.of1 p⟩, true)
  else (⟨s.out, s.record, s.turn1 p, s.taken, s.which, s.of1 p⟩, false)
/-- the pieces of sectors, up to the first that tells none -/
def told : List (List Nat) → List Pc
  | [] => []
  | s :: r => match tellF s with | none => [] | some p => p :: told r
def RS.steps : RS → List Pc → RS
  | s, [] => s
  | s, p :: r => if (s.step p).2 then RS.steps (s.step p).1 r else (s.step p).1
def RS.zero : RS := ⟨[], [], 0, 0, 0, 0⟩
def recsF (L : List (List Nat)) : RS := RS.zero.steps (told L)

/-- the 62 bytes of a piece -/
def encP (turn i of_ : Nat) (c : List Nat) : List Nat := [87, turn / 256, turn % 256, i, of_, c.length] ++ c ++ List.replicate (56 - c.length) 0
def secP (turn i of_ : Nat) (c : List Nat) : List Nat := seal_ (encP turn i of_ c)
def needsN (b : List Nat) : Nat := (b.length + 55) / 56
def chunkN (b : List Nat) (i : Nat) : List Nat := (b.drop (56 * i)).take 56
def piecesOf (turn : Nat) (b : List Nat) : List (List Nat) := (List.range (needsN b)).map fun i => secP turn i (needsN b) (chunkN b i)

theorem encP_len (turn i of_ : Nat) (c : List Nat) (h : c.length ≤ 56) : (encP turn i of_ c).length = 62 := by simp [encP]; omega
theorem encP_lt (turn i of_ : Nat) (c : List Nat) (ht : turn < 65536) (hi : i < 256) (ho : of_ < 256) (h : c.length ≤ 56) (hc : ∀ x ∈ c, x < 256) : ∀ x ∈ encP turn i of_ c, x < 256 := by
  intro x hx
  simp only [encP, List.mem_append, List.mem_cons, List.mem_replicate, List.not_mem_nil, or_false] at hx
  rcases hx with ((rfl | rfl | rfl | rfl | rfl | rfl) | hx) | ⟨_, rfl⟩
  all_goals first | omega | exact hc x hx
theorem secP_len (turn i of_ : Nat) (c : List Nat) (h : c.length ≤ 56) : (secP turn i of_ c).length = 64 := by simp [secP, seal_, encP_len _ _ _ _ h]
theorem tell_enc (turn i of_ : Nat) (c : List Nat) (ht : 0 < turn) (ht2 : turn < 65536) (ho : of_ ≤ 8) (hi : i < of_) (hc1 : 0 < c.length) (hc : c.length ≤ 56) (hm : i + 1 < of_ → c.length = 56) :
    tellB (encP turn i of_ c) = some ⟨turn, i, of_, c⟩ := by
  have g0 : (encP turn i of_ c).getD 0 0 = 87 := rfl
  have g1 : (encP turn i of_ c).getD 1 0 = turn / 256 := rfl
  have g2 : (encP turn i of_ c).getD 2 0 = turn % 256 := rfl
  have g3 : (encP turn i of_ c).getD 3 0 = i := rfl
  have g4 : (encP turn i of_ c).getD 4 0 = of_ := rfl
  have g5 : (encP turn i of_ c).getD 5 0 = c.length := rfl
  have d6 : (encP turn i of_ c).drop 6 = c ++ List.replicate (56 - c.length) 0 := rfl
  unfold tellB
  rw [g0, g1, g2, g3, g4, g5]
  have e : turn / 256 * 256 + turn % 256 = turn := by omega
  rw [e, if_neg (by simp), if_neg (by omega), if_neg (by intro h; exact h.2 (hm h.1)), ← List.drop_drop, d6, List.drop_left, if_pos (by rw [List.all_eq_true]; intro x hx; simp [(List.mem_replicate.1 hx).2]), List.take_left]
theorem tell_sec (turn i of_ : Nat) (c : List Nat) (ht : 0 < turn) (ht2 : turn < 65536) (ho : of_ ≤ 8) (hi : i < of_) (hc1 : 0 < c.length) (hc : c.length ≤ 56) (hm : i + 1 < of_ → c.length = 56) (hb : ∀ x ∈ c, x < 256) :
    tellF (secP turn i of_ c) = some ⟨turn, i, of_, c⟩ := by
  unfold tellF secP
  rw [seal_opens _ (encP_lt turn i of_ c ht2 (by omega) (by omega) hc hb), if_pos rfl]
  have : (seal_ (encP turn i of_ c)).take 62 = encP turn i of_ c := by
    unfold seal_
    rw [List.take_append_of_le_length (by rw [encP_len _ _ _ _ hc]; exact Nat.le_refl _), List.take_of_length_le (by rw [encP_len _ _ _ _ hc]; exact Nat.le_refl _)]
  rw [this]
  exact tell_enc turn i of_ c ht ht2 ho hi hc1 hc hm
theorem tell_zeros : tellF (List.replicate 64 0) = none := by
  unfold tellF
  split
  · rfl
  · rfl
end Go.Proofs.Ytcdgaeenfhpnkaa
/- Package log: the small functions; a log in memory. -/
set_option linter.unusedVariables false
set_option linter.unusedSimpArgs false
set_option maxRecDepth 100000
namespace Go.Proofs.Ytcdgaeenfhpnkaa
open Go Go.RowKit CrcMath

theorem bits_or_i64_nat (a b : Nat) (ha : a < 9223372036854775808) (hb : b < 9223372036854775808) : bits .or .i64 (a : Int) (b : Int) = ((a ||| b : Nat) : Int) := by
  have hx : a ||| b < 2 ^ 63 := Nat.or_lt_two_pow (by omega) (by omega)
  have h1 : (BitVec.ofInt 64 (a : Int)).toNat = a := by
    rw [BitVec.ofInt_natCast, BitVec.toNat_ofNat]; exact Nat.mod_eq_of_lt (by omega)
  have h2 : (BitVec.ofInt 64 (b : Int)).toNat = b := by
    rw [BitVec.ofInt_natCast, BitVec.toNat_ofNat]; exact Nat.mod_eq_of_lt (by omega)
  show IntKind.i64.wrap ((BitVec.ofInt 64 (a : Int) ||| BitVec.ofInt 64 (b : Int)).toNat : Int) = _
  rw [BitVec.toNat_or, h1, h2, IntKind.wrap_i64]
  omega
theorem or_byte (a b : Nat) (ha : a < 1000000000) (hb : b < 256) : bits .or .i64 ((a : Int) * 256) (b : Int) = ((a * 256 + b : Nat) : Int) := by
  have h := bits_or_i64_nat (2 ^ 8 * a) b (by omega) (by omega)
  rw [← Nat.two_pow_add_eq_or_of_lt (i := 8) (by omega) a] at h
  rw [show ((a : Int) * 256) = ((2 ^ 8 * a : Nat) : Int) by omega, h]
  omega
theorem ret_int {k : IntKind} {a b : Int} (h : a = b) : Ending.returned (.int k a) = .returned (.int k b) := by rw [h]
theorem right_any (A : Option Addr) (n c : Nat) (w : World) (hn : n ≤ 9223372036854775807) :
    Calls Try.prog 71 #[.slice A n c] w fun e w' => e = .returned (.bool (decide (1 ≤ n ∧ n ≤ 448))) ∧ w' = w := by
  by_cases h1 : 1 ≤ n
  · have t1 : (1 : Int) ≤ (n : Int) := by omega
    by_cases h2 : n ≤ 448
    · have t2 : (n : Int) ≤ 448 := by omega
      rw [decide_eq_true ⟨h1, h2⟩]
      go_enter Try.func71, Try.ntmps71
      go_wp2_with fail
      go_ret
      exact ⟨by simp [t1, t2], rfl⟩
    · have t2 : ¬ (n : Int) ≤ 448 := by omega
      rw [decide_eq_false (by omega)]
      go_enter Try.func71, Try.ntmps71
      go_wp2_with fail
      go_ret
      exact ⟨by simp [t1], rfl⟩
  · have t1 : ¬ (1 : Int) ≤ (n : Int) := by omega
    rw [decide_eq_false (by omega)]
    go_enter Try.func71, Try.ntmps71
    go_wp2_with fail
    go_ret
    exact ⟨by simp, rfl⟩
theorem needs_any (A : Option Addr) (n c : Nat) (w : World) (hn : n ≤ 1000000000) :
    Calls Try.prog 72 #[.slice A n c] w fun e w' => e = .returned (.int .i64 ((n + 55) / 56 : Nat)) ∧ w' = w := by
  go_enter Try.func72, Try.ntmps72
  go_wp2_with fail
  go_ret
  refine ⟨ret_int ?_, rfl⟩
  omega
end Go.Proofs.Ytcdgaeenfhpnkaa
