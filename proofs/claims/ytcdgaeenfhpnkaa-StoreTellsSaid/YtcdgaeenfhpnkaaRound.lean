/- Within a round: a region goes there as it goes outside. -/
import Derived.Test.YtcdgaeenfhpnkaaRange
set_option linter.unusedVariables false
set_option linter.unusedSimpArgs false
namespace Go.Proofs.Ytcdgaeenfhpnkaa
open Go Go.RowKit

variable {n l : Nat} {P : Program}
theorem oper_round {o : Oper} {a : Act} {w : World} {K : Act → World → Prop} {Q : Exit → Act → World → Prop} (hd : ∀ c, o.op ≠ .defer c) (h : o.wp P a w K Q) : o.wpIn (Fence.wide.inRound l) n P a w K Q := by
  refine ⟨fun f _ => trivial, ?_⟩
  unfold Oper.wp at h
  rw [Oper.semAt_eq _ _ _ hd]
  cases hr : (execOp a.eval o).run P w with
  | halt x w' =>
    rw [hr] at h
    cases x <;> first | exact h | exact h.elim
  | ok x w' =>
    rw [hr] at h
    cases x with
    | enter f args => exact ⟨(fun h => by cases h), CallsIn.inRound l (callsIn_wide.2 h)⟩
    | row r args => exact ⟨(fun h => by cases h), fun c cs _ => by
        obtain ⟨v, w2, hR, hs⟩ := h c cs
        exact ⟨v, w2, hR, stepsIn_wide.2 hs⟩⟩
    | _ => first | exact h | exact h.elim
theorem oper_round_mono {o : Oper} {a : Act} {w : World} {K K' : Act → World → Prop} {Q : Exit → Act → World → Prop} (hd : ∀ c, o.op ≠ .defer c) (hk : ∀ a w, K a w → K' a w) (h : o.wp P a w K Q) : o.wpIn (Fence.wide.inRound l) n P a w K' Q :=
  oper_round hd (Oper.wp_mono hk h)
/-- none of the operations is a defer statement -/
def noDefer (ops : Array Oper) : Bool := ops.all fun o => match o.op with | .defer _ => false | _ => true
theorem noDefer_at {ops : Array Oper} (h : noDefer ops = true) {i : Nat} {o : Oper} (ho : ops[i]? = some o) : ∀ c, o.op ≠ .defer c := fun c e => by
  unfold noDefer at h
  rw [Array.all_eq_true_iff_forall_mem] at h
  have := h o (Array.mem_of_getElem? ho)
  rw [e] at this
  cases this
theorem ops_round {ops : Array Oper} {Q : Exit → Act → World → Prop} (hd : noDefer ops = true) (hQ : ¬ LetsOut Q) : ∀ (is : List Nat) (a : Act) (w : World), wpOps P ops Q is a w → wpOpsIn (Fence.wide.inRound l) n P ops Q is a w
  | [], a, w, h => h
  | i :: rest, a, w, h => by
    rw [wpOps_cons] at h
    rw [wpOpsIn_cons]
    unfold wpOp at h
    unfold wpOpIn
    cases ho : ops[i]? with
    | none =>
      rw [ho] at h
      exact ops_round hd hQ rest a w h
    | some o =>
      rw [ho] at h
      simp only at h ⊢
      by_cases hw : Region.wanted o (yielded ops a.tmps) = true
      · rw [if_pos hw] at h ⊢
        rcases h with h | ⟨_, h⟩
        · exact oper_round_mono (noDefer_at hd ho) (fun a w h => ops_round hd hQ rest a w h) h
        · exact absurd h hQ
      · rw [if_neg hw] at h ⊢
        exact ⟨(fun f _ => trivial), ops_round hd hQ rest _ w h⟩
/-- a region that goes in the order of its text -/
theorem list_round {id : Nat} {ops : Array Oper} {Q : Exit → Act → World → Prop} {a : Act} {w : World} (hd : noDefer ops = true) (hQ : ¬ LetsOut Q) (h : wpList P ops Q ops.toList a w) : (Code.region id ops false).wpIn (Fence.wide.inRound l) n P Q a w :=
  wpIn_region (ops_round hd hQ _ a w (by rw [List.range_eq_range', ← Array.length_toList, wpOps_eq_wpList ops.toList 0 (by simp)]; exact h))
/-- a region that draws its order -/
theorem any_round {id : Nat} {ops : Array Oper} {Q : Exit → Act → World → Prop} {a : Act} {w : World} (hd : noDefer ops = true) (hQ : ¬ LetsOut Q) (hm : P.follows .mixedOrders = true) (h : wpAny P .any ops Q ops.size (Array.replicate ops.size false) a w.drew) : (Code.region id ops true).wpIn (Fence.wide.inRound l) n P Q a w :=
  wpIn_region_draw fun t => by
    simp only [Region.schedule, hm, Bool.true_or, if_true]
    exact ops_round hd hQ _ a _ (wpAny_sound ops.size t _ a _ h)
theorem startR {ops : Array Oper} {Q : Exit → Act → World → Prop} {id : Nat} {a : Act} {w : World} (S : World → Prop) (k : Nat) (L : Array Bool) (hn : ops.size = k) (hL : Array.replicate k false = L) (hm : P.follows .mixedOrders = true) (hd : noDefer ops = true) (hQ : ¬ LetsOut Q) (hS : S w.drew)
    (h : S w.drew → wpAnyH P .any ops (NoPanic Q) S k L a w.drew) : (Code.region id ops true).wpIn (Fence.wide.inRound l) n P Q a w := by
  subst hn
  subst hL
  have hQ' : ¬ LetsOut (NoPanic Q) := fun ⟨a, w, h⟩ => hQ ⟨a, w, NoPanic.imp _ _ _ h⟩
  exact wpIn_mono (any_round (Q := NoPanic Q) hd hQ' hm (wpAny_of_held _ _ _ _ (h hS))) NoPanic.imp
/-- one operation of a list -/
theorem list_in {ops : Array Oper} {rest : List Oper} {o : Oper} {a : Act} {w : World} {Q : Exit → Act → World → Prop} (hg : o.guard = none) (hd : ∀ c, o.op ≠ .defer c)
    (h : ∀ K : Act → World → Prop, (∀ a w, wpListIn (Fence.wide.inRound l) n P ops Q rest a w → K a w) → o.wp P a w K Q) : wpListIn (Fence.wide.inRound l) n P ops Q (o :: rest) a w :=
  wpListIn_plain hg fun K hK => oper_round hd (h K hK)
theorem enters {f : FuncId} {fn : Func} (hf : P.funcs[f]? = some fn) (hname : (fn.name == "runtime.NumGoroutine") = false) (hb : fn.body.isNone = false) : ∀ args w, (callFunc f args).run P w = .ok (.enter f args) w := by
  intro args w
  have h1 : ¬ fn.name = "runtime.NumGoroutine" := by simpa using hname
  have h2 : ¬ fn.body = none := by cases hx : fn.body <;> simp_all
  simp [callFunc, hf, h1, h2]
/-- a call, by its contract -/
theorem call_in {f : FuncId} {args : Array Value} {w : World} {R : Ending → World → Prop} (h : Calls P f args w R) : CallsIn (Fence.wide.inRound l) n P f args w R := CallsIn.inRound l (callsIn_wide.2 h)
end Go.Proofs.Ytcdgaeenfhpnkaa
