/-
  No cell of these rows narrows 'for every input' (looked for: loops, veiled, ifaces, maps, wideKeys, modest, calm, conditions, laid).
  DERIVED. THE GIVEN ROWS OF THIS SEAT. 3 by the template 'for every input the law returns true; each argument reads behind the call as it read before'; 0 by the template 'total and deterministic' (their statements: YtphghclkfbhagaaTotals.lean).
  GIVEN WITH THE SEED: the statements are not yours to turn. If you find one false, say at which input.
  Laid BY PROGRAM, IN A SANDBOX (cutbox-rows.mjs): the forced cells as the released guide's own fill.sh prints them over the translation 779b386d4f310454… (all of the seat's roots in one cut). By AI agents, Wed Nov 11 2026. No macro, syntax, notation, axiom, sorry.
-/
import Derived.Test.YtphghclkfbhagaaChecked
import GoSem.Claim
import GoSem.ClaimJoined
import GoSem.ClaimMapViews
import Derived.JoinedTies
import Derived.KernelRfl
namespace Go.Proofs.Ytphghclkfbhagaa
/- THE CELL 'sum', in the pinned program and in every row, IS THE sha256 OF THE DUMP (.gsa) THAT YtphghclkfbhagaaProg.lean LOADS. Nothing in Lean hashes anything: it is a label: what it is worth is what the hold of that sum in a sandbox is worth. -/
noncomputable def Try.pinned : Pinned := { name := "ytphghclkfbhagaa", sum := "779b386d4f3104543f19c896c644661ee16270eb0c0bfde682c3a83b0537f29c", checked := Try.checked }
namespace Rows
def none {H : Type} : Left H := { results := [], args := [] }

/-- 'watchkeeperlaw19.PanelOwn': WHATEVER THE INPUT: true; the input reads as it did. -/
def panelOwnSpec : ChangeSpec := { name := "panelOwn", fn := fun _ => fun
  | [d1, d2, d3] => { results := [.lit (.bool true)], args := [d1, d2, d3] }
  | _ => none }
def panelOwnRow : OpenClaim := { program := "ytphghclkfbhagaa", sum := "779b386d4f3104543f19c896c644661ee16270eb0c0bfde682c3a83b0537f29c", func := "watchkeeper/watchkeeperlaw19.PanelOwn", spec := "panelOwn", unfollowed := true, recurses := true, apart := false }
def PanelOwnSaid : Prop := panelOwnRow.holds Try.pinned (OpenSpec.ofChange panelOwnSpec)

/-- ITS FALSE NEIGHBOUR: 'it returns false'. Refute it at one input. -/
def panelOwnWrong : ChangeSpec := { name := "panelOwn", fn := fun _ => fun
  | [d1, d2, d3] => { results := [.lit (.bool false)], args := [d1, d2, d3] }
  | _ => none }
def PanelOwnWrongFalsely : Prop := panelOwnRow.holds Try.pinned (OpenSpec.ofChange panelOwnWrong)

/-- 'watchkeeperlaw19.PanelLoads': WHATEVER THE INPUT: true; the input reads as it did. -/
def panelLoadsSpec : ChangeSpec := { name := "panelLoads", fn := fun _ => fun
  | [d1, d2, d3] => { results := [.lit (.bool true)], args := [d1, d2, d3] }
  | _ => none }
def panelLoadsRow : OpenClaim := { program := "ytphghclkfbhagaa", sum := "779b386d4f3104543f19c896c644661ee16270eb0c0bfde682c3a83b0537f29c", func := "watchkeeper/watchkeeperlaw19.PanelLoads", spec := "panelLoads", unfollowed := true, recurses := true, apart := false }
def PanelLoadsSaid : Prop := panelLoadsRow.holds Try.pinned (OpenSpec.ofChange panelLoadsSpec)

/-- ITS FALSE NEIGHBOUR: 'it returns false'. Refute it at one input. -/
def panelLoadsWrong : ChangeSpec := { name := "panelLoads", fn := fun _ => fun
  | [d1, d2, d3] => { results := [.lit (.bool false)], args := [d1, d2, d3] }
  | _ => none }
def PanelLoadsWrongFalsely : Prop := panelLoadsRow.holds Try.pinned (OpenSpec.ofChange panelLoadsWrong)

/-- 'watchkeeperlaw19.PanelSteps': WHATEVER THE INPUT: true; the input reads as it did. -/
def panelStepsSpec : ChangeSpec := { name := "panelSteps", fn := fun _ => fun
  | [d1, d2, d3, d4] => { results := [.lit (.bool true)], args := [d1, d2, d3, d4] }
  | _ => none }
def panelStepsRow : OpenClaim := { program := "ytphghclkfbhagaa", sum := "779b386d4f3104543f19c896c644661ee16270eb0c0bfde682c3a83b0537f29c", func := "watchkeeper/watchkeeperlaw19.PanelSteps", spec := "panelSteps", unfollowed := true, recurses := true, apart := false }
def PanelStepsSaid : Prop := panelStepsRow.holds Try.pinned (OpenSpec.ofChange panelStepsSpec)

/-- ITS FALSE NEIGHBOUR: 'it returns false'. Refute it at one input. -/
def panelStepsWrong : ChangeSpec := { name := "panelSteps", fn := fun _ => fun
  | [d1, d2, d3, d4] => { results := [.lit (.bool false)], args := [d1, d2, d3, d4] }
  | _ => none }
def PanelStepsWrongFalsely : Prop := panelStepsRow.holds Try.pinned (OpenSpec.ofChange panelStepsWrong)

/- THE SECOND FORM. 'bulk': how many values and letters a reading holds, each counted each time it is reached (what is shared counts as often as it is met; a slice's spare places count too). A statement '..UptoSaid' is the law's where the arguments, and the package variables that the reading takes, are together of bulk at most 1048576: NARROWER than '..Said'. Prove '..Said' where nothing that the law and all that it calls make is longer than what came in: it says more and counts as full. Else prove '..UptoSaid'. A law counts once. -/
mutual
def uptoBulk {H : Type} : DataW H → Nat
  | .lit (.string bytes) => bytes.length + 1
  | .lit _ => 1
  | .nil => 1
  | .ptr d => uptoBulk d + 1
  | .slice elems spare => uptoBulkAll elems + uptoBulkAll spare + 1
  | .agg parts => uptoBulkAll parts + 1
  | .iface _ d => uptoBulk d + 1
  | .map entries => uptoBulkEntries entries + 1
  | .held _ => 1
def uptoBulkAll {H : Type} : List (DataW H) → Nat
  | [] => 0
  | d :: r => uptoBulk d + uptoBulkAll r
def uptoBulkEntries {H : Type} : List (Lit × DataW H) → Nat
  | [] => 0
  | x :: r => uptoBulkEntry x + uptoBulkEntries r
def uptoBulkEntry {H : Type} : Lit × DataW H → Nat
  | (.string bytes, d) => bytes.length + uptoBulk d + 1
  | (_, d) => uptoBulk d + 1
 end
def uptoSmall : (H : Type) → List (DataW H) → Bool := fun _ ds => decide (uptoBulkAll ds ≤ 1048576)
def OpenSpec.upto (s : _root_.Go.ChangeSpec) : _root_.Go.OpenSpec := { _root_.Go.OpenSpec.ofChange s with cond := some uptoSmall }

/-- 'watchkeeperlaw19.PanelOwn', WHERE WHAT IT READS IS OF BULK AT MOST 1048576: true; the input reads as it did. -/
def panelOwnUptoRow : OpenClaim := { program := "ytphghclkfbhagaa", sum := "779b386d4f3104543f19c896c644661ee16270eb0c0bfde682c3a83b0537f29c", func := "watchkeeper/watchkeeperlaw19.PanelOwn", spec := "panelOwn", unfollowed := true, recurses := true, apart := false, narrowed := true }
def PanelOwnUptoSaid : Prop := panelOwnUptoRow.holds Try.pinned (OpenSpec.upto panelOwnSpec)

/-- 'watchkeeperlaw19.PanelLoads', WHERE WHAT IT READS IS OF BULK AT MOST 1048576: true; the input reads as it did. -/
def panelLoadsUptoRow : OpenClaim := { program := "ytphghclkfbhagaa", sum := "779b386d4f3104543f19c896c644661ee16270eb0c0bfde682c3a83b0537f29c", func := "watchkeeper/watchkeeperlaw19.PanelLoads", spec := "panelLoads", unfollowed := true, recurses := true, apart := false, narrowed := true }
def PanelLoadsUptoSaid : Prop := panelLoadsUptoRow.holds Try.pinned (OpenSpec.upto panelLoadsSpec)

/-- 'watchkeeperlaw19.PanelSteps', WHERE WHAT IT READS IS OF BULK AT MOST 1048576: true; the input reads as it did. -/
def panelStepsUptoRow : OpenClaim := { program := "ytphghclkfbhagaa", sum := "779b386d4f3104543f19c896c644661ee16270eb0c0bfde682c3a83b0537f29c", func := "watchkeeper/watchkeeperlaw19.PanelSteps", spec := "panelSteps", unfollowed := true, recurses := true, apart := false, narrowed := true }
def PanelStepsUptoSaid : Prop := panelStepsUptoRow.holds Try.pinned (OpenSpec.upto panelStepsSpec)

end Rows
end Go.Proofs.Ytphghclkfbhagaa
