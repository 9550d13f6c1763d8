/- great, of the statements on panels: contract. -/
import Derived.Test.YtphghclkfbhagaaPanOps
set_option linter.unusedVariables false
set_option linter.unusedSimpArgs false
set_option maxRecDepth 100000
namespace Go.Proofs.Ytphghclkfbhagaa
open Go Go.RowKit

def GreatPost (w : World) (n : Nat) (e : Ending) (w' : World) : Prop := ∃ b : Bool, e = .returned (.bool b) ∧ (b = false → n ≤ 300) ∧ Below w.heap.size w w'
theorem great_any (A0 : Option Addr) (n0 c0 : Nat) (A : Option Addr) (n c B : Nat) (l : List Opr) (w : World) (hr : Ops w B A n l) (hB : B ≤ w.heap.size) (hnc : n ≤ c) (hcm : c ≤ maxLen) (h0 : n0 ≤ 9223372036854775807) :
    Calls Try.prog 8 #[.slice A0 n0 c0, .slice A n c] w (GreatPost w n) := by
  have hl : l.length = n := hr.1.1
  have hmax : n ≤ 9223372036854775807 := by unfold maxLen at hcm; omega
  have Hl := Lib.hid hl
  clear hl
  go_enter Try.func8, Try.ntmps8
  go_wp2_with fail
  go_loopg [5, 6] n (fun k s i wr => ∃ (j : Nat) (v : Int), k + j = n ∧ i = .int .i64 j ∧ s = .int .i64 v ∧ Below w.heap.size w wr)
  case atStart => exact ⟨0, n0, by omega, rfl, rfl, Below.refl _ _⟩
  case round =>
    obtain ⟨j, v, hj, rfl, rfl, hb⟩ := hrel
    have HB := Lib.hid hb
    have hrr := Lib.hid (hr.below (hb.mono hB))
    clear hb
    by_cases hlt : j < n
    · have hi0 : (0 : Int) ≤ (j : Int) := by omega
      have hi1 : (j : Int) < (n : Int) := by omega
      obtain ⟨b, o, rfl, hbB, hc⟩ := hrr.out.1.2 (by omega)
      obtain ⟨r, hr1⟩ : ∃ r, l[j]? = some r := ⟨_, List.getElem?_eq_getElem (by have := Hl.out; omega)⟩
      have c1 := hc j r hr1 1 _ rfl
      have c2 := hc j r hr1 2 _ rfl
      have c4 := hc j r hr1 4 _ rfl
      clear hc hr1
      by_cases hv : v < 9000
      · have hv' : decide (v < 9000) = true := decide_eq_true hv
        obtain ⟨s1, hs1⟩ : ∃ s, IntKind.i64.wrap ((r.n1 : Int) + (r.n2 : Int)) = s := ⟨_, rfl⟩
        obtain ⟨s2, hs2⟩ : ∃ s, IntKind.i64.wrap (s1 + (r.n3 : Int)) = s := ⟨_, rfl⟩
        obtain ⟨m, hm⟩ : ∃ s, Min.min s2 9000 = s := ⟨_, rfl⟩
        obtain ⟨s3, hs3⟩ : ∃ s, IntKind.i64.wrap (v + m) = s := ⟨_, rfl⟩
        clear hv hlt
        go_wp2_with fail
        go_quiet (fail)
        obtain ⟨wq, hwq⟩ : ∃ W, W = wr.drewN nq := ⟨_, rfl⟩
        have HBq : Hid (Below w.heap.size w wq) := by rw [hwq]; exact HB.out.trans ⟨rfl, rfl, rfl, Nat.le_refl _, fun _ _ => rfl⟩
        rw [← hwq]
        clear hwq
        go_wp2_with fail
        all_goals
          go_roundg (gk - 1)
          case measure => omega
          case rel => exact ⟨j + 1, _, by omega, by go_num, rfl, HBq.out⟩
      · have hv' : decide (v < 9000) = false := decide_eq_false hv
        have hv2 : decide (9000 ≤ v) = true := decide_eq_true (by omega)
        go_wp2_with fail
        go_ret
        exact ⟨_, rfl, fun h => by simp at h, HB.out⟩
    · obtain rfl : j = n := by omega
      by_cases hv : 9000 ≤ v
      · have hv' : decide (9000 ≤ v) = true := decide_eq_true hv
        go_wp2_with fail
        go_ret
        exact ⟨_, rfl, fun h => by simp at h, HB.out⟩
      · have hv' : decide (9000 ≤ v) = false := decide_eq_false hv
        go_wp2_with fail
        go_ret
        exact ⟨_, rfl, fun h => by simp at h; omega, HB.out⟩
end Go.Proofs.Ytphghclkfbhagaa
