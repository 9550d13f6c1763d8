/-
  No cell of these rows narrows 'for every input' (looked for: loops, veiled, ifaces, maps, wideKeys, modest, calm, conditions, laid).
  DERIVED. THE GIVEN ROWS OF THIS SEAT. 4 by the template 'for every input the law returns true; each argument reads behind the call as it read before'; 0 by the template 'total and deterministic' (their statements: YtefmeifamapdcaaTotals.lean).
  GIVEN WITH THE SEED: the statements are not yours to turn. If you find one false, say at which input.
  Laid BY PROGRAM, IN A SANDBOX (cutbox-rows.mjs): the forced cells as the released guide's own fill.sh prints them over the translation 998a924f662edde7… (all of the seat's roots in one cut). By AI agents, Wed Nov 11 2026. No macro, syntax, notation, axiom, sorry.
-/
import Derived.Test.YtefmeifamapdcaaChecked
import GoSem.Claim
import GoSem.ClaimJoined
import GoSem.ClaimMapViews
import Derived.JoinedTies
import Derived.KernelRfl
namespace Go.Proofs.Ytefmeifamapdcaa
/- THE CELL 'sum', in the pinned program and in every row, IS THE sha256 OF THE DUMP (.gsa) THAT YtefmeifamapdcaaProg.lean LOADS. Nothing in Lean hashes anything: it is a label: what it is worth is what the hold of that sum in a sandbox is worth. -/
noncomputable def Try.pinned : Pinned := { name := "ytefmeifamapdcaa", sum := "998a924f662edde7970c280274b13b6ebdde37356851eb411d17e762f10dd70a", checked := Try.checked }
namespace Rows
def none {H : Type} : Left H := { results := [], args := [] }

/-- 'watchkeeperlaw11.LogOpens': WHATEVER THE INPUT: true; the input reads as it did. -/
def logOpensSpec : ChangeSpec := { name := "logOpens", fn := fun _ => fun
  | [d1, d2, d3] => { results := [.lit (.bool true)], args := [d1, d2, d3] }
  | _ => none }
def logOpensRow : OpenClaim := { program := "ytefmeifamapdcaa", sum := "998a924f662edde7970c280274b13b6ebdde37356851eb411d17e762f10dd70a", func := "watchkeeper/watchkeeperlaw11.LogOpens", spec := "logOpens", unfollowed := true, recurses := true, apart := false }
def LogOpensSaid : Prop := logOpensRow.holds Try.pinned (OpenSpec.ofChange logOpensSpec)

/-- ITS FALSE NEIGHBOUR: 'it returns false'. Refute it at one input. -/
def logOpensWrong : ChangeSpec := { name := "logOpens", fn := fun _ => fun
  | [d1, d2, d3] => { results := [.lit (.bool false)], args := [d1, d2, d3] }
  | _ => none }
def LogOpensWrongFalsely : Prop := logOpensRow.holds Try.pinned (OpenSpec.ofChange logOpensWrong)

/-- 'watchkeeperlaw11.LogRoom': WHATEVER THE INPUT: true; the input reads as it did. -/
def logRoomSpec : ChangeSpec := { name := "logRoom", fn := fun _ => fun
  | [d1, d2] => { results := [.lit (.bool true)], args := [d1, d2] }
  | _ => none }
def logRoomRow : OpenClaim := { program := "ytefmeifamapdcaa", sum := "998a924f662edde7970c280274b13b6ebdde37356851eb411d17e762f10dd70a", func := "watchkeeper/watchkeeperlaw11.LogRoom", spec := "logRoom", unfollowed := true, recurses := true, apart := false }
def LogRoomSaid : Prop := logRoomRow.holds Try.pinned (OpenSpec.ofChange logRoomSpec)

/-- ITS FALSE NEIGHBOUR: 'it returns false'. Refute it at one input. -/
def logRoomWrong : ChangeSpec := { name := "logRoom", fn := fun _ => fun
  | [d1, d2] => { results := [.lit (.bool false)], args := [d1, d2] }
  | _ => none }
def LogRoomWrongFalsely : Prop := logRoomRow.holds Try.pinned (OpenSpec.ofChange logRoomWrong)

/-- 'watchkeeperlaw11.LogTurns': WHATEVER THE INPUT: true; the input reads as it did. -/
def logTurnsSpec : ChangeSpec := { name := "logTurns", fn := fun _ => fun
  | [d1, d2, d3] => { results := [.lit (.bool true)], args := [d1, d2, d3] }
  | _ => none }
def logTurnsRow : OpenClaim := { program := "ytefmeifamapdcaa", sum := "998a924f662edde7970c280274b13b6ebdde37356851eb411d17e762f10dd70a", func := "watchkeeper/watchkeeperlaw11.LogTurns", spec := "logTurns", unfollowed := true, recurses := true, apart := false }
def LogTurnsSaid : Prop := logTurnsRow.holds Try.pinned (OpenSpec.ofChange logTurnsSpec)

/-- ITS FALSE NEIGHBOUR: 'it returns false'. Refute it at one input. -/
def logTurnsWrong : ChangeSpec := { name := "logTurns", fn := fun _ => fun
  | [d1, d2, d3] => { results := [.lit (.bool false)], args := [d1, d2, d3] }
  | _ => none }
def LogTurnsWrongFalsely : Prop := logTurnsRow.holds Try.pinned (OpenSpec.ofChange logTurnsWrong)

/-- 'watchkeeperlaw11.LogOld': WHATEVER THE INPUT: true; the input reads as it did. -/
def logOldSpec : ChangeSpec := { name := "logOld", fn := fun _ => fun
  | [d1, d2, d3, d4, d5] => { results := [.lit (.bool true)], args := [d1, d2, d3, d4, d5] }
  | _ => none }
def logOldRow : OpenClaim := { program := "ytefmeifamapdcaa", sum := "998a924f662edde7970c280274b13b6ebdde37356851eb411d17e762f10dd70a", func := "watchkeeper/watchkeeperlaw11.LogOld", spec := "logOld", unfollowed := true, recurses := true, apart := false }
def LogOldSaid : Prop := logOldRow.holds Try.pinned (OpenSpec.ofChange logOldSpec)

/-- ITS FALSE NEIGHBOUR: 'it returns false'. Refute it at one input. -/
def logOldWrong : ChangeSpec := { name := "logOld", fn := fun _ => fun
  | [d1, d2, d3, d4, d5] => { results := [.lit (.bool false)], args := [d1, d2, d3, d4, d5] }
  | _ => none }
def LogOldWrongFalsely : Prop := logOldRow.holds Try.pinned (OpenSpec.ofChange logOldWrong)

/- THE SECOND FORM. 'bulk': how many values and letters a reading holds, each counted each time it is reached (what is shared counts as often as it is met; a slice's spare places count too). A statement '..UptoSaid' is the law's where the arguments, and the package variables that the reading takes, are together of bulk at most 1048576: NARROWER than '..Said'. Prove '..Said' where nothing that the law and all that it calls make is longer than what came in: it says more and counts as full. Else prove '..UptoSaid'. A law counts once. -/
mutual
def uptoBulk {H : Type} : DataW H → Nat
  | .lit (.string bytes) => bytes.length + 1
  | .lit _ => 1
  | .nil => 1
  | .ptr d => uptoBulk d + 1
  | .slice elems spare => uptoBulkAll elems + uptoBulkAll spare + 1
  | .agg parts => uptoBulkAll parts + 1
  | .iface _ d => uptoBulk d + 1
  | .map entries => uptoBulkEntries entries + 1
  | .held _ => 1
def uptoBulkAll {H : Type} : List (DataW H) → Nat
  | [] => 0
  | d :: r => uptoBulk d + uptoBulkAll r
def uptoBulkEntries {H : Type} : List (Lit × DataW H) → Nat
  | [] => 0
  | x :: r => uptoBulkEntry x + uptoBulkEntries r
def uptoBulkEntry {H : Type} : Lit × DataW H → Nat
  | (.string bytes, d) => bytes.length + uptoBulk d + 1
  | (_, d) => uptoBulk d + 1
 end
def uptoSmall : (H : Type) → List (DataW H) → Bool := fun _ ds => decide (uptoBulkAll ds ≤ 1048576)
def OpenSpec.upto (s : _root_.Go.ChangeSpec) : _root_.Go.OpenSpec := { _root_.Go.OpenSpec.ofChange s with cond := some uptoSmall }

/-- 'watchkeeperlaw11.LogOpens', WHERE WHAT IT READS IS OF BULK AT MOST 1048576: true; the input reads as it did. -/
def logOpensUptoRow : OpenClaim := { program := "ytefmeifamapdcaa", sum := "998a924f662edde7970c280274b13b6ebdde37356851eb411d17e762f10dd70a", func := "watchkeeper/watchkeeperlaw11.LogOpens", spec := "logOpens", unfollowed := true, recurses := true, apart := false, narrowed := true }
def LogOpensUptoSaid : Prop := logOpensUptoRow.holds Try.pinned (OpenSpec.upto logOpensSpec)

/-- 'watchkeeperlaw11.LogRoom', WHERE WHAT IT READS IS OF BULK AT MOST 1048576: true; the input reads as it did. -/
def logRoomUptoRow : OpenClaim := { program := "ytefmeifamapdcaa", sum := "998a924f662edde7970c280274b13b6ebdde37356851eb411d17e762f10dd70a", func := "watchkeeper/watchkeeperlaw11.LogRoom", spec := "logRoom", unfollowed := true, recurses := true, apart := false, narrowed := true }
def LogRoomUptoSaid : Prop := logRoomUptoRow.holds Try.pinned (OpenSpec.upto logRoomSpec)

/-- 'watchkeeperlaw11.LogTurns', WHERE WHAT IT READS IS OF BULK AT MOST 1048576: true; the input reads as it did. -/
def logTurnsUptoRow : OpenClaim := { program := "ytefmeifamapdcaa", sum := "998a924f662edde7970c280274b13b6ebdde37356851eb411d17e762f10dd70a", func := "watchkeeper/watchkeeperlaw11.LogTurns", spec := "logTurns", unfollowed := true, recurses := true, apart := false, narrowed := true }
def LogTurnsUptoSaid : Prop := logTurnsUptoRow.holds Try.pinned (OpenSpec.upto logTurnsSpec)

/-- 'watchkeeperlaw11.LogOld', WHERE WHAT IT READS IS OF BULK AT MOST 1048576: true; the input reads as it did. -/
def logOldUptoRow : OpenClaim := { program := "ytefmeifamapdcaa", sum := "998a924f662edde7970c280274b13b6ebdde37356851eb411d17e762f10dd70a", func := "watchkeeper/watchkeeperlaw11.LogOld", spec := "logOld", unfollowed := true, recurses := true, apart := false, narrowed := true }
def LogOldUptoSaid : Prop := logOldUptoRow.holds Try.pinned (OpenSpec.upto logOldSpec)

end Rows
end Go.Proofs.Ytefmeifamapdcaa
