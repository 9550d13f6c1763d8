/-
  No cell of these rows narrows 'for every input' (looked for: loops, veiled, ifaces, maps, wideKeys, modest, calm, conditions, laid).
  DERIVED. THE GIVEN ROWS OF THIS SEAT. 5 by the template 'for every input the law returns true; each argument reads behind the call as it read before'; 0 by the template 'total and deterministic' (their statements: YtcdgaeenfhpnkaaTotals.lean).
  GIVEN WITH THE SEED: the statements are not yours to turn. If you find one false, say at which input.
  Laid BY PROGRAM, IN A SANDBOX (cutbox-rows.mjs): the forced cells as the released guide's own fill.sh prints them over the translation 70971121b86e4192… (all of the seat's roots in one cut). By AI agents, Wed Nov 11 2026. No macro, syntax, notation, axiom, sorry.
-/
import Derived.Test.YtcdgaeenfhpnkaaChecked
import GoSem.Claim
import GoSem.ClaimJoined
import GoSem.ClaimMapViews
import Derived.JoinedTies
import Derived.KernelRfl
namespace Go.Proofs.Ytcdgaeenfhpnkaa
/- THE CELL 'sum', in the pinned program and in every row, IS THE sha256 OF THE DUMP (.gsa) THAT YtcdgaeenfhpnkaaProg.lean LOADS. Nothing in Lean hashes anything: it is a label: what it is worth is what the hold of that sum in a sandbox is worth. -/
noncomputable def Try.pinned : Pinned := { name := "ytcdgaeenfhpnkaa", sum := "70971121b86e4192c8dc7f6b51e3b7aa21cbfd03b7d6b8cbe22d6bcbb0947b99", checked := Try.checked }
namespace Rows
def none {H : Type} : Left H := { results := [], args := [] }

/-- 'watchkeeperlaw22.StoreTells': WHATEVER THE INPUT: true; the input reads as it did. -/
def storeTellsSpec : ChangeSpec := { name := "storeTells", fn := fun _ => fun
  | [d1, d2, d3] => { results := [.lit (.bool true)], args := [d1, d2, d3] }
  | _ => none }
def storeTellsRow : OpenClaim := { program := "ytcdgaeenfhpnkaa", sum := "70971121b86e4192c8dc7f6b51e3b7aa21cbfd03b7d6b8cbe22d6bcbb0947b99", func := "watchkeeper/watchkeeperlaw22.StoreTells", spec := "storeTells", unfollowed := true, recurses := true, apart := false }
def StoreTellsSaid : Prop := storeTellsRow.holds Try.pinned (OpenSpec.ofChange storeTellsSpec)

/-- ITS FALSE NEIGHBOUR: 'it returns false'. Refute it at one input. -/
def storeTellsWrong : ChangeSpec := { name := "storeTells", fn := fun _ => fun
  | [d1, d2, d3] => { results := [.lit (.bool false)], args := [d1, d2, d3] }
  | _ => none }
def StoreTellsWrongFalsely : Prop := storeTellsRow.holds Try.pinned (OpenSpec.ofChange storeTellsWrong)

/-- 'watchkeeperlaw22.StoreBack': WHATEVER THE INPUT: true; the input reads as it did. -/
def storeBackSpec : ChangeSpec := { name := "storeBack", fn := fun _ => fun
  | [d1, d2, d3] => { results := [.lit (.bool true)], args := [d1, d2, d3] }
  | _ => none }
def storeBackRow : OpenClaim := { program := "ytcdgaeenfhpnkaa", sum := "70971121b86e4192c8dc7f6b51e3b7aa21cbfd03b7d6b8cbe22d6bcbb0947b99", func := "watchkeeper/watchkeeperlaw22.StoreBack", spec := "storeBack", unfollowed := true, recurses := true, apart := false }
def StoreBackSaid : Prop := storeBackRow.holds Try.pinned (OpenSpec.ofChange storeBackSpec)

/-- ITS FALSE NEIGHBOUR: 'it returns false'. Refute it at one input. -/
def storeBackWrong : ChangeSpec := { name := "storeBack", fn := fun _ => fun
  | [d1, d2, d3] => { results := [.lit (.bool false)], args := [d1, d2, d3] }
  | _ => none }
def StoreBackWrongFalsely : Prop := storeBackRow.holds Try.pinned (OpenSpec.ofChange storeBackWrong)

/-- 'watchkeeperlaw22.StoreKeeps': WHATEVER THE INPUT: true; the input reads as it did. -/
def storeKeepsSpec : ChangeSpec := { name := "storeKeeps", fn := fun _ => fun
  | [d1, d2, d3] => { results := [.lit (.bool true)], args := [d1, d2, d3] }
  | _ => none }
def storeKeepsRow : OpenClaim := { program := "ytcdgaeenfhpnkaa", sum := "70971121b86e4192c8dc7f6b51e3b7aa21cbfd03b7d6b8cbe22d6bcbb0947b99", func := "watchkeeper/watchkeeperlaw22.StoreKeeps", spec := "storeKeeps", unfollowed := true, recurses := true, apart := false }
def StoreKeepsSaid : Prop := storeKeepsRow.holds Try.pinned (OpenSpec.ofChange storeKeepsSpec)

/-- ITS FALSE NEIGHBOUR: 'it returns false'. Refute it at one input. -/
def storeKeepsWrong : ChangeSpec := { name := "storeKeeps", fn := fun _ => fun
  | [d1, d2, d3] => { results := [.lit (.bool false)], args := [d1, d2, d3] }
  | _ => none }
def StoreKeepsWrongFalsely : Prop := storeKeepsRow.holds Try.pinned (OpenSpec.ofChange storeKeepsWrong)

/-- 'watchkeeperlaw22.StoreOpens': WHATEVER THE INPUT: true; the input reads as it did. -/
def storeOpensSpec : ChangeSpec := { name := "storeOpens", fn := fun _ => fun
  | [d1, d2] => { results := [.lit (.bool true)], args := [d1, d2] }
  | _ => none }
def storeOpensRow : OpenClaim := { program := "ytcdgaeenfhpnkaa", sum := "70971121b86e4192c8dc7f6b51e3b7aa21cbfd03b7d6b8cbe22d6bcbb0947b99", func := "watchkeeper/watchkeeperlaw22.StoreOpens", spec := "storeOpens", unfollowed := true, recurses := true, apart := false }
def StoreOpensSaid : Prop := storeOpensRow.holds Try.pinned (OpenSpec.ofChange storeOpensSpec)

/-- ITS FALSE NEIGHBOUR: 'it returns false'. Refute it at one input. -/
def storeOpensWrong : ChangeSpec := { name := "storeOpens", fn := fun _ => fun
  | [d1, d2] => { results := [.lit (.bool false)], args := [d1, d2] }
  | _ => none }
def StoreOpensWrongFalsely : Prop := storeOpensRow.holds Try.pinned (OpenSpec.ofChange storeOpensWrong)

/-- 'watchkeeperlaw22.StoreCrash': WHATEVER THE INPUT: true; the input reads as it did. -/
def storeCrashSpec : ChangeSpec := { name := "storeCrash", fn := fun _ => fun
  | [d1, d2] => { results := [.lit (.bool true)], args := [d1, d2] }
  | _ => none }
def storeCrashRow : OpenClaim := { program := "ytcdgaeenfhpnkaa", sum := "70971121b86e4192c8dc7f6b51e3b7aa21cbfd03b7d6b8cbe22d6bcbb0947b99", func := "watchkeeper/watchkeeperlaw22.StoreCrash", spec := "storeCrash", unfollowed := true, recurses := true, apart := false }
def StoreCrashSaid : Prop := storeCrashRow.holds Try.pinned (OpenSpec.ofChange storeCrashSpec)

/-- ITS FALSE NEIGHBOUR: 'it returns false'. Refute it at one input. -/
def storeCrashWrong : ChangeSpec := { name := "storeCrash", fn := fun _ => fun
  | [d1, d2] => { results := [.lit (.bool false)], args := [d1, d2] }
  | _ => none }
def StoreCrashWrongFalsely : Prop := storeCrashRow.holds Try.pinned (OpenSpec.ofChange storeCrashWrong)

/- THE SECOND FORM. 'bulk': how many values and letters a reading holds, each counted each time it is reached (what is shared counts as often as it is met; a slice's spare places count too). A statement '..UptoSaid' is the law's where the arguments, and the package variables that the reading takes, are together of bulk at most 1048576: NARROWER than '..Said'. Prove '..Said' where nothing that the law and all that it calls make is longer than what came in: it says more and counts as full. Else prove '..UptoSaid'. A law counts once. -/
mutual
def uptoBulk {H : Type} : DataW H → Nat
  | .lit (.string bytes) => bytes.length + 1
  | .lit _ => 1
  | .nil => 1
  | .ptr d => uptoBulk d + 1
  | .slice elems spare => uptoBulkAll elems + uptoBulkAll spare + 1
  | .agg parts => uptoBulkAll parts + 1
  | .iface _ d => uptoBulk d + 1
  | .map entries => uptoBulkEntries entries + 1
  | .held _ => 1
def uptoBulkAll {H : Type} : List (DataW H) → Nat
  | [] => 0
  | d :: r => uptoBulk d + uptoBulkAll r
def uptoBulkEntries {H : Type} : List (Lit × DataW H) → Nat
  | [] => 0
  | x :: r => uptoBulkEntry x + uptoBulkEntries r
def uptoBulkEntry {H : Type} : Lit × DataW H → Nat
  | (.string bytes, d) => bytes.length + uptoBulk d + 1
  | (_, d) => uptoBulk d + 1
 end
def uptoSmall : (H : Type) → List (DataW H) → Bool := fun _ ds => decide (uptoBulkAll ds ≤ 1048576)
def OpenSpec.upto (s : _root_.Go.ChangeSpec) : _root_.Go.OpenSpec := { _root_.Go.OpenSpec.ofChange s with cond := some uptoSmall }

/-- 'watchkeeperlaw22.StoreTells', WHERE WHAT IT READS IS OF BULK AT MOST 1048576: true; the input reads as it did. -/
def storeTellsUptoRow : OpenClaim := { program := "ytcdgaeenfhpnkaa", sum := "70971121b86e4192c8dc7f6b51e3b7aa21cbfd03b7d6b8cbe22d6bcbb0947b99", func := "watchkeeper/watchkeeperlaw22.StoreTells", spec := "storeTells", unfollowed := true, recurses := true, apart := false, narrowed := true }
def StoreTellsUptoSaid : Prop := storeTellsUptoRow.holds Try.pinned (OpenSpec.upto storeTellsSpec)

/-- 'watchkeeperlaw22.StoreBack', WHERE WHAT IT READS IS OF BULK AT MOST 1048576: true; the input reads as it did. -/
def storeBackUptoRow : OpenClaim := { program := "ytcdgaeenfhpnkaa", sum := "70971121b86e4192c8dc7f6b51e3b7aa21cbfd03b7d6b8cbe22d6bcbb0947b99", func := "watchkeeper/watchkeeperlaw22.StoreBack", spec := "storeBack", unfollowed := true, recurses := true, apart := false, narrowed := true }
def StoreBackUptoSaid : Prop := storeBackUptoRow.holds Try.pinned (OpenSpec.upto storeBackSpec)

/-- 'watchkeeperlaw22.StoreKeeps', WHERE WHAT IT READS IS OF BULK AT MOST 1048576: true; the input reads as it did. -/
def storeKeepsUptoRow : OpenClaim := { program := "ytcdgaeenfhpnkaa", sum := "70971121b86e4192c8dc7f6b51e3b7aa21cbfd03b7d6b8cbe22d6bcbb0947b99", func := "watchkeeper/watchkeeperlaw22.StoreKeeps", spec := "storeKeeps", unfollowed := true, recurses := true, apart := false, narrowed := true }
def StoreKeepsUptoSaid : Prop := storeKeepsUptoRow.holds Try.pinned (OpenSpec.upto storeKeepsSpec)

/-- 'watchkeeperlaw22.StoreOpens', WHERE WHAT IT READS IS OF BULK AT MOST 1048576: true; the input reads as it did. -/
def storeOpensUptoRow : OpenClaim := { program := "ytcdgaeenfhpnkaa", sum := "70971121b86e4192c8dc7f6b51e3b7aa21cbfd03b7d6b8cbe22d6bcbb0947b99", func := "watchkeeper/watchkeeperlaw22.StoreOpens", spec := "storeOpens", unfollowed := true, recurses := true, apart := false, narrowed := true }
def StoreOpensUptoSaid : Prop := storeOpensUptoRow.holds Try.pinned (OpenSpec.upto storeOpensSpec)

/-- 'watchkeeperlaw22.StoreCrash', WHERE WHAT IT READS IS OF BULK AT MOST 1048576: true; the input reads as it did. -/
def storeCrashUptoRow : OpenClaim := { program := "ytcdgaeenfhpnkaa", sum := "70971121b86e4192c8dc7f6b51e3b7aa21cbfd03b7d6b8cbe22d6bcbb0947b99", func := "watchkeeper/watchkeeperlaw22.StoreCrash", spec := "storeCrash", unfollowed := true, recurses := true, apart := false, narrowed := true }
def StoreCrashUptoSaid : Prop := storeCrashUptoRow.holds Try.pinned (OpenSpec.upto storeCrashSpec)

end Rows
end Go.Proofs.Ytcdgaeenfhpnkaa
