/- The document's answer on lamps: Next, Horn. -/
import Derived.Test.YtphghclkfbhagaaLampE
set_option linter.unusedVariables false
set_option linter.unusedSimpArgs false
set_option maxRecDepth 100000
namespace Go.Proofs.Ytphghclkfbhagaa
open Go Go.RowKit

theorem rhushes_any (k : Int) (w : World) : Calls Try.prog 33 #[.int .i64 k] w fun e w' => e = .returned (.bool (hushesB k)) ∧ w' = w := by
  go_enter Try.func33, Try.ntmps33
  rcases (Classical.em (k = 5)) with rfl | h5
  · go_wp2_with fail
    go_ret
    exact ⟨rfl, rfl⟩
  · have t5 : (k == 5) = false := by simpa using h5
    go_wp2_with fail
    go_ret
    exact ⟨by simp [hushesB, t5], rfl⟩
theorem rkeeps_any (k : Int) (w : World) : Calls Try.prog 34 #[.int .i64 k] w fun e w' => e = .returned (.bool (keepsB k)) ∧ w' = w := by
  go_enter Try.func34, Try.ntmps34
  rcases (Classical.em (k = 2)) with rfl | h5
  · go_wp2_with fail
    go_ret
    exact ⟨rfl, rfl⟩
  · have t5 : (k == 2) = false := by simpa using h5
    go_wp2_with fail
    go_ret
    exact ⟨by simp [keepsB, t5], rfl⟩
theorem rrings_any (k : Int) (w : World) : Calls Try.prog 35 #[.int .i64 k] w fun e w' => e = .returned (.bool (ringsB k)) ∧ w' = w := by
  go_enter Try.func35, Try.ntmps35
  go_wp2_with fail
  go_ret
  exact ⟨by simp [ringsB], rfl⟩
theorem rmarks_any (k : Int) (w : World) (k1 : 1 ≤ k) (k2 : k ≤ 6) : Calls Try.prog 27 #[.int .i64 k] w fun e w' => e = .returned (.bool (marksB k)) ∧ w' = w := by
  rcases six k1 k2 with rfl | rfl | rfl | rfl | rfl | rfl <;>
  · go_enter Try.func27, Try.ntmps27
    go_wp2_with fail
    go_ret
    exact ⟨rfl, rfl⟩
theorem rwell_any (k : Int) (w : World) : Calls Try.prog 28 #[.int .i64 k] w fun e w' => e = .returned (.int .i64 (restI (keepsB k) (ringsB k))) ∧ w' = w := by
  have hk := rkeeps_any k
  have hr := rrings_any k
  cases h1 : keepsB k <;> cases h2 : ringsB k <;> rw [h1] at hk <;> rw [h2] at hr <;> clear h1 h2 <;>
  · go_enter Try.func28, Try.ntmps28
    go_wp2_with (first
      | (go_at_call 34; (with_reducible refine (hk _).mono ?_); rintro e w1 ⟨rfl, rfl⟩)
      | (go_at_call 35; (with_reducible refine (hr _).mono ?_); rintro e w2 ⟨rfl, rfl⟩)
      | fail)
    go_ret
    exact ⟨rfl, rfl⟩

def refB (b : Bool) (s : Int) : Int := if s = 0 ∨ s = 4 ∨ s = 5 then (if b then 2 else 1) else if s = 3 then 1 else if s = 8 then 6 else s
set_option maxHeartbeats 2000000 in
theorem rbad_any (k s : Int) (w : World) (s1 : 0 ≤ s) (s2 : s < 9) : Calls Try.prog 26 #[.int .i64 k, .int .i64 s] w fun e w' => e = .returned (.int .i64 (refB (hushesB k) s)) ∧ w' = w := by
  have hk := rhushes_any k
  cases h1 : hushesB k <;> rw [h1] at hk <;> clear h1 <;> rcases nine s1 s2 with rfl | rfl | rfl | rfl | rfl | rfl | rfl | rfl | rfl <;>
  · go_enter Try.func26, Try.ntmps26
    go_wp2_with (first
      | (go_at_call 33; (with_reducible refine (hk _).mono ?_); rintro e w1 ⟨rfl, rfl⟩)
      | fail)
    go_ret
    exact ⟨rfl, rfl⟩
def refN (k s h : Int) : Int := if h = 0 then s else nextI k s h
theorem refN_1 (k s : Int) (k1 : 1 ≤ k) (k2 : k ≤ 6) (s1 : 0 ≤ s) (s2 : s < 9) : refB (hushesB k) s = refN k s 1 := by
  rcases six k1 k2 with rfl | rfl | rfl | rfl | rfl | rfl <;> rcases nine s1 s2 with rfl | rfl | rfl | rfl | rfl | rfl | rfl | rfl | rfl <;> decide +kernel
theorem refN_2 (k s : Int) (k1 : 1 ≤ k) (k2 : k ≤ 6) (s1 : 0 ≤ s) (s2 : s < 9) : (if marksB k then (if s = 2 ∨ s = 7 then s else 6) else refB (hushesB k) s) = refN k s 2 := by
  rcases six k1 k2 with rfl | rfl | rfl | rfl | rfl | rfl <;> rcases nine s1 s2 with rfl | rfl | rfl | rfl | rfl | rfl | rfl | rfl | rfl <;> decide +kernel
theorem refN_3 (k s : Int) (k1 : 1 ≤ k) (k2 : k ≤ 6) (s1 : 0 ≤ s) (s2 : s < 9) : (if s = 1 then 3 else if s = 6 then 8 else if s = 2 ∨ s = 7 then restI (keepsB k) (ringsB k) else s) = refN k s 3 := by
  rcases six k1 k2 with rfl | rfl | rfl | rfl | rfl | rfl <;> rcases nine s1 s2 with rfl | rfl | rfl | rfl | rfl | rfl | rfl | rfl | rfl <;> decide +kernel
theorem refN_4 (k s : Int) (k1 : 1 ≤ k) (k2 : k ≤ 6) (s1 : 0 ≤ s) (s2 : s < 9) : (if s = 1 then 2 else if s = 6 then 7 else if s = 3 ∨ s = 8 then restI (keepsB k) (ringsB k) else s) = refN k s 4 := by
  rcases six k1 k2 with rfl | rfl | rfl | rfl | rfl | rfl <;> rcases nine s1 s2 with rfl | rfl | rfl | rfl | rfl | rfl | rfl | rfl | rfl <;> decide +kernel
theorem refN_5 (k s : Int) (k1 : 1 ≤ k) (k2 : k ≤ 6) (s1 : 0 ≤ s) (s2 : s < 9) : (if s = 4 ∨ s = 5 then 0 else s) = refN k s 5 := by
  rcases six k1 k2 with rfl | rfl | rfl | rfl | rfl | rfl <;> rcases nine s1 s2 with rfl | rfl | rfl | rfl | rfl | rfl | rfl | rfl | rfl <;> decide +kernel
end Go.Proofs.Ytphghclkfbhagaa
