/-
  No cell of these rows narrows 'for every input' (looked for: loops, veiled, ifaces, maps, wideKeys, modest, calm, conditions, laid).
  DERIVED. THE GIVEN ROWS OF THIS SEAT. 6 by the template 'for every input the law returns true; each argument reads behind the call as it read before'; 0 by the template 'total and deterministic' (their statements: YtdbibnojeefbpaaTotals.lean).
  GIVEN WITH THE SEED: the statements are not yours to turn. If you find one false, say at which input.
  Laid BY PROGRAM, IN A SANDBOX (cutbox-rows.mjs): the forced cells as the released guide's own fill.sh prints them over the translation dd22bd35c9f35a21… (all of the seat's roots in one cut). By AI agents, Wed Nov 11 2026. No macro, syntax, notation, axiom, sorry.
-/
import Derived.Test.YtdbibnojeefbpaaChecked
import GoSem.Claim
import GoSem.ClaimJoined
import GoSem.ClaimMapViews
import Derived.JoinedTies
import Derived.KernelRfl
namespace Go.Proofs.Ytdbibnojeefbpaa
/- THE CELL 'sum', in the pinned program and in every row, IS THE sha256 OF THE DUMP (.gsa) THAT YtdbibnojeefbpaaProg.lean LOADS. Nothing in Lean hashes anything: it is a label: what it is worth is what the hold of that sum in a sandbox is worth. -/
noncomputable def Try.pinned : Pinned := { name := "ytdbibnojeefbpaa", sum := "dd22bd35c9f35a21440682423ece6c72db3db645e57efd141193378562e62fe2", checked := Try.checked }
namespace Rows
def none {H : Type} : Left H := { results := [], args := [] }

/-- 'watchkeeperlaw01.CrcTells': WHATEVER THE INPUT: true; the input reads as it did. -/
def crcTellsSpec : ChangeSpec := { name := "crcTells", fn := fun _ => fun
  | [d] => { results := [.lit (.bool true)], args := [d] }
  | _ => none }
def crcTellsRow : OpenClaim := { program := "ytdbibnojeefbpaa", sum := "dd22bd35c9f35a21440682423ece6c72db3db645e57efd141193378562e62fe2", func := "watchkeeper/watchkeeperlaw01.CrcTells", spec := "crcTells", apart := false }
def CrcTellsSaid : Prop := crcTellsRow.holds Try.pinned (OpenSpec.ofChange crcTellsSpec)

/-- ITS FALSE NEIGHBOUR: 'it returns false'. Refute it at one input. -/
def crcTellsWrong : ChangeSpec := { name := "crcTells", fn := fun _ => fun
  | [d] => { results := [.lit (.bool false)], args := [d] }
  | _ => none }
def CrcTellsWrongFalsely : Prop := crcTellsRow.holds Try.pinned (OpenSpec.ofChange crcTellsWrong)

/-- 'watchkeeperlaw01.CrcBack': WHATEVER THE INPUT: true; the input reads as it did. -/
def crcBackSpec : ChangeSpec := { name := "crcBack", fn := fun _ => fun
  | [d] => { results := [.lit (.bool true)], args := [d] }
  | _ => none }
def crcBackRow : OpenClaim := { program := "ytdbibnojeefbpaa", sum := "dd22bd35c9f35a21440682423ece6c72db3db645e57efd141193378562e62fe2", func := "watchkeeper/watchkeeperlaw01.CrcBack", spec := "crcBack", apart := false }
def CrcBackSaid : Prop := crcBackRow.holds Try.pinned (OpenSpec.ofChange crcBackSpec)

/-- ITS FALSE NEIGHBOUR: 'it returns false'. Refute it at one input. -/
def crcBackWrong : ChangeSpec := { name := "crcBack", fn := fun _ => fun
  | [d] => { results := [.lit (.bool false)], args := [d] }
  | _ => none }
def CrcBackWrongFalsely : Prop := crcBackRow.holds Try.pinned (OpenSpec.ofChange crcBackWrong)

/-- 'watchkeeperlaw01.CrcBits': WHATEVER THE INPUT: true; the input reads as it did. -/
def crcBitsSpec : ChangeSpec := { name := "crcBits", fn := fun _ => fun
  | [d1, d2, d3] => { results := [.lit (.bool true)], args := [d1, d2, d3] }
  | _ => none }
def crcBitsRow : OpenClaim := { program := "ytdbibnojeefbpaa", sum := "dd22bd35c9f35a21440682423ece6c72db3db645e57efd141193378562e62fe2", func := "watchkeeper/watchkeeperlaw01.CrcBits", spec := "crcBits", apart := false }
def CrcBitsSaid : Prop := crcBitsRow.holds Try.pinned (OpenSpec.ofChange crcBitsSpec)

/-- ITS FALSE NEIGHBOUR: 'it returns false'. Refute it at one input. -/
def crcBitsWrong : ChangeSpec := { name := "crcBits", fn := fun _ => fun
  | [d1, d2, d3] => { results := [.lit (.bool false)], args := [d1, d2, d3] }
  | _ => none }
def CrcBitsWrongFalsely : Prop := crcBitsRow.holds Try.pinned (OpenSpec.ofChange crcBitsWrong)

/-- 'watchkeeperlaw01.CrcZero': WHATEVER THE INPUT: true; the input reads as it did. -/
def crcZeroSpec : ChangeSpec := { name := "crcZero", fn := fun _ => fun
  | [d1, d2] => { results := [.lit (.bool true)], args := [d1, d2] }
  | _ => none }
def crcZeroRow : OpenClaim := { program := "ytdbibnojeefbpaa", sum := "dd22bd35c9f35a21440682423ece6c72db3db645e57efd141193378562e62fe2", func := "watchkeeper/watchkeeperlaw01.CrcZero", spec := "crcZero", apart := false }
def CrcZeroSaid : Prop := crcZeroRow.holds Try.pinned (OpenSpec.ofChange crcZeroSpec)

/-- ITS FALSE NEIGHBOUR: 'it returns false'. Refute it at one input. -/
def crcZeroWrong : ChangeSpec := { name := "crcZero", fn := fun _ => fun
  | [d1, d2] => { results := [.lit (.bool false)], args := [d1, d2] }
  | _ => none }
def CrcZeroWrongFalsely : Prop := crcZeroRow.holds Try.pinned (OpenSpec.ofChange crcZeroWrong)

/-- 'watchkeeperlaw01.CrcBytes': WHATEVER THE INPUT: true; the input reads as it did. -/
def crcBytesSpec : ChangeSpec := { name := "crcBytes", fn := fun _ => fun
  | [d1, d2, d3, d4] => { results := [.lit (.bool true)], args := [d1, d2, d3, d4] }
  | _ => none }
def crcBytesRow : OpenClaim := { program := "ytdbibnojeefbpaa", sum := "dd22bd35c9f35a21440682423ece6c72db3db645e57efd141193378562e62fe2", func := "watchkeeper/watchkeeperlaw01.CrcBytes", spec := "crcBytes", apart := false }
def CrcBytesSaid : Prop := crcBytesRow.holds Try.pinned (OpenSpec.ofChange crcBytesSpec)

/-- ITS FALSE NEIGHBOUR: 'it returns false'. Refute it at one input. -/
def crcBytesWrong : ChangeSpec := { name := "crcBytes", fn := fun _ => fun
  | [d1, d2, d3, d4] => { results := [.lit (.bool false)], args := [d1, d2, d3, d4] }
  | _ => none }
def CrcBytesWrongFalsely : Prop := crcBytesRow.holds Try.pinned (OpenSpec.ofChange crcBytesWrong)

/-- 'watchkeeperlaw01.CrcStill': WHATEVER THE INPUT: true; the input reads as it did. -/
def crcStillSpec : ChangeSpec := { name := "crcStill", fn := fun _ => fun
  | [d] => { results := [.lit (.bool true)], args := [d] }
  | _ => none }
def crcStillRow : OpenClaim := { program := "ytdbibnojeefbpaa", sum := "dd22bd35c9f35a21440682423ece6c72db3db645e57efd141193378562e62fe2", func := "watchkeeper/watchkeeperlaw01.CrcStill", spec := "crcStill", apart := false }
def CrcStillSaid : Prop := crcStillRow.holds Try.pinned (OpenSpec.ofChange crcStillSpec)

/-- ITS FALSE NEIGHBOUR: 'it returns false'. Refute it at one input. -/
def crcStillWrong : ChangeSpec := { name := "crcStill", fn := fun _ => fun
  | [d] => { results := [.lit (.bool false)], args := [d] }
  | _ => none }
def CrcStillWrongFalsely : Prop := crcStillRow.holds Try.pinned (OpenSpec.ofChange crcStillWrong)

/- THE SECOND FORM. 'bulk': how many values and letters a reading holds, each counted each time it is reached (what is shared counts as often as it is met; a slice's spare places count too). A statement '..UptoSaid' is the law's where the arguments, and the package variables that the reading takes, are together of bulk at most 1048576: NARROWER than '..Said'. Prove '..Said' where nothing that the law and all that it calls make is longer than what came in: it says more and counts as full. Else prove '..UptoSaid'. A law counts once. -/
mutual
def uptoBulk {H : Type} : DataW H → Nat
  | .lit (.string bytes) => bytes.length + 1
  | .lit _ => 1
  | .nil => 1
  | .ptr d => uptoBulk d + 1
  | .slice elems spare => uptoBulkAll elems + uptoBulkAll spare + 1
  | .agg parts => uptoBulkAll parts + 1
  | .iface _ d => uptoBulk d + 1
  | .map entries => uptoBulkEntries entries + 1
  | .held _ => 1
def uptoBulkAll {H : Type} : List (DataW H) → Nat
  | [] => 0
  | d :: r => uptoBulk d + uptoBulkAll r
def uptoBulkEntries {H : Type} : List (Lit × DataW H) → Nat
  | [] => 0
  | x :: r => uptoBulkEntry x + uptoBulkEntries r
def uptoBulkEntry {H : Type} : Lit × DataW H → Nat
  | (.string bytes, d) => bytes.length + uptoBulk d + 1
  | (_, d) => uptoBulk d + 1
 end
def uptoSmall : (H : Type) → List (DataW H) → Bool := fun _ ds => decide (uptoBulkAll ds ≤ 1048576)
def OpenSpec.upto (s : _root_.Go.ChangeSpec) : _root_.Go.OpenSpec := { _root_.Go.OpenSpec.ofChange s with cond := some uptoSmall }

/-- 'watchkeeperlaw01.CrcTells', WHERE WHAT IT READS IS OF BULK AT MOST 1048576: true; the input reads as it did. -/
def crcTellsUptoRow : OpenClaim := { program := "ytdbibnojeefbpaa", sum := "dd22bd35c9f35a21440682423ece6c72db3db645e57efd141193378562e62fe2", func := "watchkeeper/watchkeeperlaw01.CrcTells", spec := "crcTells", apart := false, narrowed := true }
def CrcTellsUptoSaid : Prop := crcTellsUptoRow.holds Try.pinned (OpenSpec.upto crcTellsSpec)

/-- 'watchkeeperlaw01.CrcBack', WHERE WHAT IT READS IS OF BULK AT MOST 1048576: true; the input reads as it did. -/
def crcBackUptoRow : OpenClaim := { program := "ytdbibnojeefbpaa", sum := "dd22bd35c9f35a21440682423ece6c72db3db645e57efd141193378562e62fe2", func := "watchkeeper/watchkeeperlaw01.CrcBack", spec := "crcBack", apart := false, narrowed := true }
def CrcBackUptoSaid : Prop := crcBackUptoRow.holds Try.pinned (OpenSpec.upto crcBackSpec)

/-- 'watchkeeperlaw01.CrcBits', WHERE WHAT IT READS IS OF BULK AT MOST 1048576: true; the input reads as it did. -/
def crcBitsUptoRow : OpenClaim := { program := "ytdbibnojeefbpaa", sum := "dd22bd35c9f35a21440682423ece6c72db3db645e57efd141193378562e62fe2", func := "watchkeeper/watchkeeperlaw01.CrcBits", spec := "crcBits", apart := false, narrowed := true }
def CrcBitsUptoSaid : Prop := crcBitsUptoRow.holds Try.pinned (OpenSpec.upto crcBitsSpec)

/-- 'watchkeeperlaw01.CrcZero', WHERE WHAT IT READS IS OF BULK AT MOST 1048576: true; the input reads as it did. -/
def crcZeroUptoRow : OpenClaim := { program := "ytdbibnojeefbpaa", sum := "dd22bd35c9f35a21440682423ece6c72db3db645e57efd141193378562e62fe2", func := "watchkeeper/watchkeeperlaw01.CrcZero", spec := "crcZero", apart := false, narrowed := true }
def CrcZeroUptoSaid : Prop := crcZeroUptoRow.holds Try.pinned (OpenSpec.upto crcZeroSpec)

/-- 'watchkeeperlaw01.CrcBytes', WHERE WHAT IT READS IS OF BULK AT MOST 1048576: true; the input reads as it did. -/
def crcBytesUptoRow : OpenClaim := { program := "ytdbibnojeefbpaa", sum := "dd22bd35c9f35a21440682423ece6c72db3db645e57efd141193378562e62fe2", func := "watchkeeper/watchkeeperlaw01.CrcBytes", spec := "crcBytes", apart := false, narrowed := true }
def CrcBytesUptoSaid : Prop := crcBytesUptoRow.holds Try.pinned (OpenSpec.upto crcBytesSpec)

/-- 'watchkeeperlaw01.CrcStill', WHERE WHAT IT READS IS OF BULK AT MOST 1048576: true; the input reads as it did. -/
def crcStillUptoRow : OpenClaim := { program := "ytdbibnojeefbpaa", sum := "dd22bd35c9f35a21440682423ece6c72db3db645e57efd141193378562e62fe2", func := "watchkeeper/watchkeeperlaw01.CrcStill", spec := "crcStill", apart := false, narrowed := true }
def CrcStillUptoSaid : Prop := crcStillUptoRow.holds Try.pinned (OpenSpec.upto crcStillSpec)

end Rows
end Go.Proofs.Ytdbibnojeefbpaa
