/- Package log: the small functions; a log in memory. -/
import Derived.Test.YtcdgaeenfhpnkaaSecD
import Derived.Test.YtcdgaeenfhpnkaaCrcC
import Derived.Test.YtcdgaeenfhpnkaaRound
import Derived.Test.YtcdgaeenfhpnkaaLog
import Derived.Test.YtcdgaeenfhpnkaaOpen
set_option linter.unusedVariables false
set_option linter.unusedSimpArgs false
set_option maxRecDepth 100000
namespace Go.Proofs.Ytcdgaeenfhpnkaa
open Go Go.RowKit CrcMath

theorem bits_or_i64_nat (a b : Nat) (ha : a < 9223372036854775808) (hb : b < 9223372036854775808) : bits .or .i64 (a : Int) (b : Int) = ((a ||| b : Nat) : Int) := by
  have hx : a ||| b < 2 ^ 63 := Nat.or_lt_two_pow (by omega) (by omega)
  have h1 : (BitVec.ofInt 64 (a : Int)).toNat = a := by
    rw [BitVec.ofInt_natCast, BitVec.toNat_ofNat]; exact Nat.mod_eq_of_lt (by omega)
  have h2 : (BitVec.ofInt 64 (b : Int)).toNat = b := by
    rw [BitVec.ofInt_natCast, BitVec.toNat_ofNat]; exact Nat.mod_eq_of_lt (by omega)
  show IntKind.i64.wrap ((BitVec.ofInt 64 (a : Int) ||| BitVec.ofInt 64 (b : Int)).toNat : Int) = _
  rw [BitVec.toNat_or, h1, h2, IntKind.wrap_i64]
  omega
theorem or_byte (a b : Nat) (ha : a < 1000000000) (hb : b < 256) : bits .or .i64 ((a : Int) * 256) (b : Int) = ((a * 256 + b : Nat) : Int) := by
  have h := bits_or_i64_nat (2 ^ 8 * a) b (by omega) (by omega)
  rw [← Nat.two_pow_add_eq_or_of_lt (i := 8) (by omega) a] at h
  rw [show ((a : Int) * 256) = ((2 ^ 8 * a : Nat) : Int) by omega, h]
  omega
theorem ret_int {k : IntKind} {a b : Int} (h : a = b) : Ending.returned (.int k a) = .returned (.int k b) := by rw [h]
theorem right_any (A : Option Addr) (n c : Nat) (w : World) (hn : n ≤ 9223372036854775807) :
    Calls Try.prog 71 #[.slice A n c] w fun e w' => e = .returned (.bool (decide (1 ≤ n ∧ n ≤ 448))) ∧ w' = w := by
  by_cases h1 : 1 ≤ n
  · have t1 : (1 : Int) ≤ (n : Int) := by omega
    by_cases h2 : n ≤ 448
    · have t2 : (n : Int) ≤ 448 := by omega
      rw [decide_eq_true ⟨h1, h2⟩]
      go_enter Try.func71, Try.ntmps71
      go_wp2_with fail
      go_ret
      exact ⟨by simp [t1, t2], rfl⟩
    · have t2 : ¬ (n : Int) ≤ 448 := by omega
      rw [decide_eq_false (by omega)]
      go_enter Try.func71, Try.ntmps71
      go_wp2_with fail
      go_ret
      exact ⟨by simp [t1], rfl⟩
  · have t1 : ¬ (1 : Int) ≤ (n : Int) := by omega
    rw [decide_eq_false (by omega)]
    go_enter Try.func71, Try.ntmps71
    go_wp2_with fail
    go_ret
    exact ⟨by simp, rfl⟩
theorem needs_any (A : Option Addr) (n c : Nat) (w : World) (hn : n ≤ 1000000000) :
    Calls Try.prog 72 #[.slice A n c] w fun e w' => e = .returned (.int .i64 ((n + 55) / 56 : Nat)) ∧ w' = w := by
  go_enter Try.func72, Try.ntmps72
  go_wp2_with fail
  go_ret
  refine ⟨ret_int ?_, rfl⟩
  omega
end Go.Proofs.Ytcdgaeenfhpnkaa
