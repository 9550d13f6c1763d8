/- The document's answer on lamps: Next; Horn. -/
import Derived.Test.YtphghclkfbhagaaRef18
set_option linter.unusedVariables false
set_option linter.unusedSimpArgs false
set_option maxRecDepth 100000
namespace Go.Proofs.Ytphghclkfbhagaa
open Go Go.RowKit

set_option maxHeartbeats 4000000 in
theorem rnext2 (k s : Int) (w : World) (k1 : 1 ≤ k) (k2 : k ≤ 6) (s1 : 0 ≤ s) (s2 : s < 9) :
    Calls Try.prog 14 #[.int .i64 k, .int .i64 s, .int .i64 2] w fun e w' => e = .returned (.int .i64 (if marksB k then (if s = 2 ∨ s = 7 then s else 6) else refB (hushesB k) s)) ∧ w' = w := by
  have hm := fun w => rmarks_any k w k1 k2
  cases h1 : marksB k <;> rw [h1] at hm <;> clear h1 <;> rcases nine s1 s2 with rfl | rfl | rfl | rfl | rfl | rfl | rfl | rfl | rfl <;>
  · go_enter Try.func14, Try.ntmps14
    go_wp2_with (first
      | (go_at_call 27; (with_reducible refine (hm _).mono ?_); rintro e w1 ⟨rfl, rfl⟩)
      | (go_at_call 26; (with_reducible refine (rbad_any k _ _ (by omega) (by omega)).mono ?_); rintro e w2 ⟨rfl, rfl⟩)
      | fail)
    go_ret
    exact ⟨rfl, rfl⟩
set_option maxHeartbeats 4000000 in
theorem rnext0 (k s : Int) (w : World) (k1 : 1 ≤ k) (k2 : k ≤ 6) (s1 : 0 ≤ s) (s2 : s < 9) :
    Calls Try.prog 14 #[.int .i64 k, .int .i64 s, .int .i64 0] w fun e w' => e = .returned (.int .i64 s) ∧ w' = w := by
  go_enter Try.func14, Try.ntmps14
  go_wp2_with fail
  go_ret
  exact ⟨rfl, rfl⟩
set_option maxHeartbeats 4000000 in
theorem rnext1 (k s : Int) (w : World) (k1 : 1 ≤ k) (k2 : k ≤ 6) (s1 : 0 ≤ s) (s2 : s < 9) :
    Calls Try.prog 14 #[.int .i64 k, .int .i64 s, .int .i64 1] w fun e w' => e = .returned (.int .i64 (refB (hushesB k) s)) ∧ w' = w := by
  go_enter Try.func14, Try.ntmps14
  go_wp2_with (first
    | (go_at_call 26; (with_reducible refine (rbad_any k _ _ s1 s2).mono ?_); rintro e w2 ⟨rfl, rfl⟩)
    | fail)
  go_ret
  exact ⟨rfl, rfl⟩
set_option maxHeartbeats 4000000 in
theorem rnext3 (k s : Int) (w : World) (k1 : 1 ≤ k) (k2 : k ≤ 6) (s1 : 0 ≤ s) (s2 : s < 9) :
    Calls Try.prog 14 #[.int .i64 k, .int .i64 s, .int .i64 3] w fun e w' => e = .returned (.int .i64 (if s = 1 then 3 else if s = 6 then 8 else if s = 2 ∨ s = 7 then restI (keepsB k) (ringsB k) else s)) ∧ w' = w := by
  rcases nine s1 s2 with rfl | rfl | rfl | rfl | rfl | rfl | rfl | rfl | rfl <;>
  · go_enter Try.func14, Try.ntmps14
    go_wp2_with (first
      | (go_at_call 28; (with_reducible refine (rwell_any k _).mono ?_); rintro e w1 ⟨rfl, rfl⟩)
      | fail)
    go_ret
    exact ⟨rfl, rfl⟩
set_option maxHeartbeats 4000000 in
theorem rnext4 (k s : Int) (w : World) (k1 : 1 ≤ k) (k2 : k ≤ 6) (s1 : 0 ≤ s) (s2 : s < 9) :
    Calls Try.prog 14 #[.int .i64 k, .int .i64 s, .int .i64 4] w fun e w' => e = .returned (.int .i64 (if s = 1 then 2 else if s = 6 then 7 else if s = 3 ∨ s = 8 then restI (keepsB k) (ringsB k) else s)) ∧ w' = w := by
  rcases nine s1 s2 with rfl | rfl | rfl | rfl | rfl | rfl | rfl | rfl | rfl <;>
  · go_enter Try.func14, Try.ntmps14
    go_wp2_with (first
      | (go_at_call 28; (with_reducible refine (rwell_any k _).mono ?_); rintro e w1 ⟨rfl, rfl⟩)
      | fail)
    go_ret
    exact ⟨rfl, rfl⟩
set_option maxHeartbeats 4000000 in
theorem rnext5 (k s : Int) (w : World) (k1 : 1 ≤ k) (k2 : k ≤ 6) (s1 : 0 ≤ s) (s2 : s < 9) :
    Calls Try.prog 14 #[.int .i64 k, .int .i64 s, .int .i64 5] w fun e w' => e = .returned (.int .i64 (if s = 4 ∨ s = 5 then 0 else s)) ∧ w' = w := by
  rcases nine s1 s2 with rfl | rfl | rfl | rfl | rfl | rfl | rfl | rfl | rfl <;>
  · go_enter Try.func14, Try.ntmps14
    go_wp2_with fail
    go_ret
    exact ⟨rfl, rfl⟩
theorem rnext_any (k s h : Int) (w : World) (k1 : 1 ≤ k) (k2 : k ≤ 6) (s1 : 0 ≤ s) (s2 : s < 9) (h1 : 0 ≤ h) (h2 : h ≤ 5) :
    Calls Try.prog 14 #[.int .i64 k, .int .i64 s, .int .i64 h] w fun e w' => e = .returned (.int .i64 (refN k s h)) ∧ w' = w := by
  have : h = 0 ∨ h = 1 ∨ h = 2 ∨ h = 3 ∨ h = 4 ∨ h = 5 := by omega
  rcases this with rfl | rfl | rfl | rfl | rfl | rfl
  · exact rnext0 k s w k1 k2 s1 s2
  · rw [← refN_1 k s k1 k2 s1 s2]; exact rnext1 k s w k1 k2 s1 s2
  · rw [← refN_2 k s k1 k2 s1 s2]; exact rnext2 k s w k1 k2 s1 s2
  · rw [← refN_3 k s k1 k2 s1 s2]; exact rnext3 k s w k1 k2 s1 s2
  · rw [← refN_4 k s k1 k2 s1 s2]; exact rnext4 k s w k1 k2 s1 s2
  · rw [← refN_5 k s k1 k2 s1 s2]; exact rnext5 k s w k1 k2 s1 s2
theorem rhorn_any (s : Int) (w : World) (s1 : 0 ≤ s) (s2 : s < 9) :
    Calls Try.prog 19 #[.int .i64 s] w fun e w' => e = .returned (.int .i64 (hornI s)) ∧ w' = w := by
  rcases nine s1 s2 with rfl | rfl | rfl | rfl | rfl | rfl | rfl | rfl | rfl <;>
  · go_enter Try.func19, Try.ntmps19
    go_wp2_with fail
    go_ret
    exact ⟨rfl, rfl⟩
end Go.Proofs.Ytphghclkfbhagaa
