/- Lamps: Next, Look, Horn. -/
import Derived.Test.YtphghclkfbhagaaLampC
set_option linter.unusedVariables false
set_option linter.unusedSimpArgs false
set_option maxRecDepth 100000
namespace Go.Proofs.Ytphghclkfbhagaa
open Go Go.RowKit

def rowsK (k : Int) : List (List Int) := rowsL (keepsB k) (ringsB k) (hushesB k) (marksB k)
def rowK (k h : Int) : List Int := (rowsK k).getD h.toNat []
def nextI (k s h : Int) : Int := (rowK k h).getD s.toNat 0
theorem six {k : Int} (h1 : 1 ≤ k) (h2 : k ≤ 6) : k = 1 ∨ k = 2 ∨ k = 3 ∨ k = 4 ∨ k = 5 ∨ k = 6 := by omega
theorem five {k : Int} (h1 : 1 ≤ k) (h2 : k ≤ 5) : k = 1 ∨ k = 2 ∨ k = 3 ∨ k = 4 ∨ k = 5 := by omega
theorem nine {k : Int} (h1 : 0 ≤ k) (h2 : k < 9) : k = 0 ∨ k = 1 ∨ k = 2 ∨ k = 3 ∨ k = 4 ∨ k = 5 ∨ k = 6 ∨ k = 7 ∨ k = 8 := by omega
theorem ix1 (k h : Int) (k1 : 1 ≤ k) (k2 : k ≤ 6) (h1 : 1 ≤ h) (h2 : h ≤ 5) (w : World) :
    (Instr.index 51 (.agg (rowA (fl (rowsK k)))) (.int .i64 h)).run Try.prog w = .ok (.agg (rowA (rowK k h))) w := by
  rcases six k1 k2 with rfl | rfl | rfl | rfl | rfl | rfl <;> rcases five h1 h2 with rfl | rfl | rfl | rfl | rfl <;> kernel_rfl
theorem ix2 (k s h : Int) (k1 : 1 ≤ k) (k2 : k ≤ 6) (h1 : 1 ≤ h) (h2 : h ≤ 5) (s1 : 0 ≤ s) (s2 : s < 9) (w : World) :
    (Instr.index 49 (.agg (rowA (rowK k h))) (.int .i64 s)).run Try.prog w = .ok (.int .i64 (nextI k s h)) w := by
  rcases six k1 k2 with rfl | rfl | rfl | rfl | rfl | rfl <;> rcases five h1 h2 with rfl | rfl | rfl | rfl | rfl <;> rcases nine s1 s2 with rfl | rfl | rfl | rfl | rfl | rfl | rfl | rfl | rfl <;> kernel_rfl
set_option maxHeartbeats 2000000 in
theorem next_any (k s h : Int) (w : World) (hk : 1 ≤ k ∧ k ≤ 6) (hs : 0 ≤ s ∧ s < 9) (hh : 1 ≤ h ∧ h ≤ 5) :
    Calls Try.prog 31 #[.int .i64 k, .int .i64 s, .int .i64 h] w fun e w' => e = .returned (.int .i64 (nextI k s h)) ∧ Below w.heap.size w w' := by
  obtain ⟨k1, k2⟩ := hk
  obtain ⟨s1, s2⟩ := hs
  obtain ⟨h1, h2⟩ := hh
  have i1 := ix1 k h k1 k2 h1 h2
  have i2 := ix2 k s h k1 k2 h1 h2 s1 s2
  unfold rowsK at i1
  go_enter Try.func31, Try.ntmps31
  go_wp2_with (first
    | (go_at_call 38; (with_reducible refine (traits_any k _ ⟨k1, k2⟩).mono ?_); rintro e w1 ⟨rfl, hb1⟩)
    | (go_at_call 37; (with_reducible refine (rows_any _ _ _ _ _).mono ?_); rintro e w2 ⟨rfl, hb2⟩)
    | fail)
  go_ret
  exact ⟨rfl, hb1.trans (hb2.mono hb1.size)⟩
end Go.Proofs.Ytphghclkfbhagaa
