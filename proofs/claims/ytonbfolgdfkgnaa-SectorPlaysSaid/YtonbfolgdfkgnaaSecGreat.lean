/- Great, of the statements on disks: contract. -/
import Derived.Test.YtonbfolgdfkgnaaOps
set_option linter.unusedVariables false
set_option linter.unusedSimpArgs false
set_option maxRecDepth 100000
namespace Go.Proofs.Ytonbfolgdfkgnaa
open Go Go.RowKit

def GreatPost (w : World) (n : Nat) (e : Ending) (w' : World) : Prop := ∃ b : Bool, e = .returned (.bool b) ∧ (b = false → n ≤ 400) ∧ w' = w

set_option maxHeartbeats 1000000 in
theorem great_any (A : Option Addr) (n c B : Nat) (l : List Opr) (w : World) (hr : Ops w B A n l) (hn : n ≤ maxLen) :
    Calls Try.prog 11 #[.slice A n c] w (GreatPost w n) := by
  have hl : l.length = n := hr.1
  have hmax : n ≤ 9223372036854775807 := by unfold maxLen at hn; omega
  go_enter Try.func11, Try.ntmps11
  go_wp2_with fail
  go_loopg [3, 4] n (fun k s i wr => ∃ (j : Nat) (v : Int), k + j = n ∧ i = .int .i64 j ∧ s = .int .i64 v ∧ 0 ≤ v ∧ v ≤ 9223372036854775807 ∧ wr = w)
  case atStart => exact ⟨0, n, by omega, rfl, rfl, by omega, by omega, rfl⟩
  case round =>
    obtain ⟨j, v, hj, rfl, rfl, hv0, hv1, rfl⟩ := hrel
    by_cases hlt : j < n
    · have hi0 : (0 : Int) ≤ (j : Int) := by omega
      have hi1 : (j : Int) < (n : Int) := by omega
      obtain ⟨b, o, rfl, hbB, hc⟩ := hr.2.2 (by omega)
      obtain ⟨r, hr1⟩ : ∃ r, l[j]? = some r := ⟨_, List.getElem?_eq_getElem (by omega)⟩
      obtain ⟨_, _, _, c3⟩ := hc j r hr1
      have hc' := Lib.hid hc
      clear hc hr1
      by_cases hv : v < 30000
      · go_wp2_with fail
        all_goals
          go_roundg (gk - 1)
          case measure => omega
          case rel => exact ⟨j + 1, _, by omega, by go_num, rfl, by omega, by omega, rfl⟩
      · go_wp2_with fail
        go_ret
        exact ⟨_, rfl, fun h => by simp at h, rfl⟩
    · go_wp2_with fail
      all_goals
        go_ret
        exact ⟨_, rfl, fun h => by simp at h <;> omega, rfl⟩
end Go.Proofs.Ytonbfolgdfkgnaa
