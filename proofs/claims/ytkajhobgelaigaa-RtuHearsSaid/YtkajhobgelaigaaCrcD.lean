/- What the reference of layer 1 computes: contracts, walked once each. -/
import Derived.Test.YtkajhobgelaigaaCrcC
set_option linter.unusedVariables false
set_option linter.unusedSimpArgs false
set_option maxRecDepth 100000
namespace Go.Proofs.Ytkajhobgelaigaa
open Go Go.RowKit CrcMath

theorem iter_eight (y : Nat) : iter 8 y = bit4 (bit4 y) := rfl
theorem mod2 (x : Nat) (h : x % 2 = 1) : ((x : Int) % 2 == 1) = true := by simp; omega
theorem mod2' (x : Nat) (h : ¬ x % 2 = 1) : ((x : Int) % 2 == 1) = false := by simp; omega

theorem rsum_any (A : Option Addr) (n c B : Nat) (l : List Nat) (w : World) (hr : Rd w B 1 A n (l.map bv)) (hB : B ≤ w.heap.size) (hb : ∀ c ∈ l, c < 256) (hn : n ≤ 9223372036854775807) :
    Calls Try.prog 27 #[.slice A n c] w fun e w' => e = .returned (.int .u16 (sum l : Nat)) ∧ Below w.heap.size w w' := by
  have hl : l.length = n := by have := hr.1; simpa using this
  have ha1 := hr.2
  go_enter Try.func27, Try.ntmps27
  go_wp2_with fail
  go_loopg [3, 4] n (fun k s i wr => ∃ j : Nat, k + j = n ∧ i = .int .i64 j ∧ s = .int .u16 (crc 65535 (l.take j) : Nat) ∧ wr = w)
  case atStart => exact ⟨0, by omega, rfl, rfl, rfl⟩
  case round =>
    obtain ⟨j, hj, rfl, rfl, rfl⟩ := hrel
    by_cases hlt : j < n
    · obtain ⟨b, o, rfl, _, hc⟩ := ha1 (by omega)
      have hjl : j < l.length := by omega
      obtain ⟨x, hx⟩ : ∃ x, x = crc 65535 (l.take j) := ⟨_, rfl⟩
      obtain ⟨d, hd⟩ : ∃ d, d = l[j] := ⟨_, rfl⟩
      have hcell := hc j (bv d) (by rw [hd, List.getElem?_map, List.getElem?_eq_getElem hjl]; rfl)
      have hstep : crc 65535 (l.take (j + 1)) = bit4 (bit4 (x ^^^ d)) := by
        rw [List.take_succ_eq_append_getElem hjl, crc_snoc, ← hx, ← hd]; rfl
      have hxl : x < 65536 := by rw [hx]; exact crc_lt _ _ (by decide) (fun e he => hb e (List.mem_of_mem_take he))
      have hdl : d < 256 := by rw [hd]; exact hb _ (List.getElem_mem hjl)
      rw [← hx]
      unfold bv at hcell
      obtain ⟨y, hy⟩ : ∃ y, y = x ^^^ d := ⟨_, rfl⟩
      have hyl : y < 65536 := by rw [hy]; exact xor_lt _ _ hxl (by omega)
      have f1 : bits .xor .u16 (x : Int) (d : Int) = (y : Int) := by rw [hy]; exact u16_xor_nat x d hxl (by omega)
      rw [← hy] at hstep
      have H := Lib.hid hstep
      clear hstep hx hd hy hc ha1
      go_wp2_with fail
      go_loop [3, 5] (fun v c => ∃ m : Nat, m ≤ 8 ∧ c = .int .i64 m ∧ v = .int .u16 (iter m y : Nat)) (fun _ c => 8 - (intOf c).toNat)
      case atStart => exact ⟨0, by omega, rfl, rfl⟩
      case round =>
        obtain ⟨m, hm, rfl, rfl⟩ := hrel
        have hil := iter_lt m y hyl
        by_cases hmlt : m < 8
        · by_cases hod : iter m y % 2 = 1
          · have h1 := mod2 _ hod
            go_wp2_with fail
            go_round
            case rel => exact ⟨m + 1, by omega, by go_num, by rw [bit_odd _ hil hod]; rfl⟩
            case measure => simp [intOf]; omega
          · have h1 := mod2' _ hod
            go_wp2_with fail
            go_round
            case rel => exact ⟨m + 1, by omega, by go_num, by rw [← bit_evn _ hod]; rfl⟩
            case measure => simp [intOf]; omega
        · obtain rfl : m = 8 := by omega
          go_wp2_with fail
          go_roundg (n - (j + 1))
          case measure => omega
          case rel => exact ⟨j + 1, by omega, by go_num, by rw [H.out, ← iter_eight], rfl⟩
    · obtain rfl : j = n := by omega
      rw [List.take_of_length_le (by omega)]
      go_wp2_with fail
      go_ret
      exact ⟨rfl, Below.refl _ _⟩
end Go.Proofs.Ytkajhobgelaigaa
