/- What the functions of package crc, and of its reference, compute: contracts, walked once each. -/
import Derived.Test.YtcdgaeenfhpnkaaBase
import Derived.Test.YtcdgaeenfhpnkaaCrcMath
set_option linter.unusedVariables false
set_option linter.unusedSimpArgs false
set_option maxRecDepth 100000
namespace Go.Proofs.Ytcdgaeenfhpnkaa
open Go Go.RowKit CrcMath

theorem info_u8 : (Try.prog.info? 5).map (fun i => (i.zero, i.size, i.bytes)) = some (some (.int .u8 0), 1, 1) := by kernel_rfl

def tabN (j : Nat) : Array Value := ((List.range 16).map fun i => Value.int .u16 (if i < j then (bit4 i : Nat) else 0)).toArray
def iter (m : Nat) (s : Nat) : Nat := match m with | 0 => s | m + 1 => bit (iter m s)
theorem iter_lt (m s : Nat) (h : s < 65536) : iter m s < 65536 := by
  induction m with
  | zero => exact h
  | succ m ih => exact bit_lt _ ih
theorem and_one (x : Nat) (h : x < 65536) : bits .and .u16 (x : Int) 1 = ((x % 2 : Nat) : Int) := by
  have := u16_and_nat x 1 h (by omega)
  rw [Nat.and_one_is_mod] at this
  exact this
theorem bit_odd (x : Nat) (h : x < 65536) (ho : x % 2 = 1) : bits .xor .u16 ((x : Int) / 2) 40961 = ((bit x : Nat) : Int) := by
  have := u16_xor_nat (x / 2) 40961 (by omega) (by omega)
  rw [show ((x / 2 : Nat) : Int) = (x : Int) / 2 by omega] at this
  rw [show ((40961 : Nat) : Int) = 40961 from rfl] at this
  rw [this]; unfold bit; rw [if_pos ho]
theorem bit_evn (x : Nat) (ho : ¬ x % 2 = 1) : ((bit x : Nat) : Int) = (x : Int) / 2 := by
  unfold bit; rw [if_neg ho]; omega
theorem tab_step (j : Nat) (h : j < 16) : (tabN j).setIfInBounds j (.int .u16 (iter 4 j : Nat)) = tabN (j + 1) := by
  unfold tabN
  apply Array.ext'
  simp only [Array.toList_setIfInBounds]
  apply List.ext_getElem?
  intro i
  rw [List.getElem?_set]
  simp only [List.length_map, List.length_range, List.getElem?_map]
  by_cases hi : i < 16
  · rw [List.getElem?_range hi]
    by_cases e : j = i
    · subst e; simp [hi]; rfl
    · have : (i < j + 1) ↔ (i < j) := by omega
      simp [e, this]
  · rw [List.getElem?_eq_none (by simp; omega)]
    simp; omega
theorem tab_get (j : Nat) (h : j < 16) : (tabN j)[j]? = some (.int .u16 0) := by
  unfold tabN
  simp [h]
theorem tab_cell (i : Nat) (h : i < 16) : (tabN 16)[i]? = some (.int .u16 (bit4 i : Nat)) := by
  unfold tabN
  simp [h]
theorem half (y : Nat) (h : y < 65536) : bits .and .u16 (y : Int) 15 = ((y % 16 : Nat) : Int) ∧ bits .xor .u16 ((y : Int) / 16) ((bit4 (y % 16) : Nat) : Int) = ((bit4 y : Nat) : Int) := by
  constructor
  · have := u16_and_nat y 15 h (by omega)
    rw [show (15 : Nat) = 2 ^ 4 - 1 from rfl, Nat.and_two_pow_sub_one_eq_mod] at this
    exact this
  · have := u16_xor_nat (y / 16) (bit4 (y % 16)) (by omega) (bit4_lt _ (by omega))
    rw [nib] at this
    exact this

/-- table: what each half of a byte comes to -/
theorem table_any (w : World) :
    Calls Try.prog 102 #[] w fun e w' => e = .returned (.agg (tabN 16)) ∧ Below w.heap.size w w' := by
  go_enter Try.func102, Try.ntmps102
  go_wp2_with fail
  go_loopg [5] 16 (fun k i wr => ∃ j : Nat, k + j = 16 ∧ i = .int .i64 j ∧ wr = (w.alloc (.cells (tabN 0) 154)).alloc (.cells (tabN j) 154))
  case atStart => exact ⟨0, by omega, rfl, rfl⟩
  case round =>
    obtain ⟨j, hj, rfl, rfl⟩ := hrel
    by_cases hlt : j < 16
    · go_wp2_with fail
      go_loop [3, 10] (fun v c => ∃ m : Nat, m ≤ 4 ∧ c = .int .i64 m ∧ v = .int .u16 (iter m j : Nat)) (fun _ c => 4 - (intOf c).toNat)
      case atStart => exact ⟨0, by omega, rfl, rfl⟩
      case round =>
        obtain ⟨m, hm, rfl, rfl⟩ := hrel
        have hil := iter_lt m j (by omega)
        by_cases hmlt : m < 4
        · by_cases hod : iter m j % 2 = 1
          · have h1 : (bits BinOp.and IntKind.u16 (↑(iter m j)) 1 == 1) = true := by rw [and_one _ hil, hod]; rfl
            go_wp2_with fail
            go_round
            case rel => exact ⟨m + 1, by omega, by go_num, by rw [bit_odd _ hil hod]; rfl⟩
            case measure => simp [intOf]; omega
          · have h1 : (bits BinOp.and IntKind.u16 (↑(iter m j)) 1 == 1) = false := by
              rw [and_one _ hil]; simp; omega
            go_wp2_with fail
            go_round
            case rel => exact ⟨m + 1, by omega, by go_num, by rw [← bit_evn _ hod]; rfl⟩
            case measure => simp [intOf]; omega
        · obtain rfl : m = 4 := by omega
          have hg := tab_get j hlt
          go_wp2_with fail
          go_roundg (15 - j)
          case measure => omega
          case rel => exact ⟨j + 1, by omega, by go_num, by rw [tab_step j hlt]⟩
    · obtain rfl : j = 16 := by omega
      have e1 : (w.alloc (.cells (tabN 0) 154)).heap.size = w.heap.size + 1 := by simp
      have hb := heap_alloc2_new w (.cells (tabN 0) 154) (.cells (tabN 16) 154)
      have ha := heap_alloc2_old w (.cells (tabN 0) 154) (.cells (tabN 16) 154)
      go_wp2_with (first
        | (with_reducible refine wpList_load_row rfl 154 (.tmp 1) rfl (w.heap.size + 1) rfl 154 (tabN 16) (0, 0) _ ?hg Try.underlying154 rfl ?hj ?_)
        | (with_reducible refine wpList_store_row rfl 154 (.tmp 0) (.tmp 25) rfl w.heap.size (tabN 16) rfl rfl 154 (tabN 0) ?ha ?hi ?h0 ?h1 ?_))
      case hg => exact hb
      case hj => kernel_rfl
      case ha => exact ha
      case hi => kernel_rfl
      case h0 => rfl
      case h1 => kernel_rfl
      refine bodyPost_ret (results_cell_row rfl _ _ w.heap.size 154 (tabN 16) (0, 0) _ rfl (setRow_heap _ _ _ _ _ _ ha) Try.underlying154 rfl (by kernel_rfl)) rfl ⟨rfl, ?_⟩
      exact below_setRow (((Below.refl _ _).alloc (Nat.le_refl _) _).alloc (by simp) _) (Nat.le_refl _) _

/-- the sum of any bytes -/
theorem sum_any (A : Option Addr) (n c B : Nat) (l : List Nat) (w : World) (hr : Rd w B 1 A n (l.map bv)) (hB : B ≤ w.heap.size) (hb : ∀ c ∈ l, c < 256) (hn : n ≤ 9223372036854775807) :
    Calls Try.prog 97 #[.slice A n c] w fun e w' => e = .returned (.int .u16 (sum l : Nat)) ∧ Below w.heap.size w w' := by
  have hl : l.length = n := by have := hr.1; simpa using this
  go_enter Try.func97, Try.ntmps97
  go_wp2_with (first
    | (go_at_call 102; refine (table_any _).mono ?_; rintro e w1 ⟨rfl, hb1⟩)
    | (with_reducible refine wpList_store_row rfl 154 (.tmp 3) (.tmp 7) rfl w1.heap.size (tabN 16) rfl rfl 154 _ (heap_alloc_new w1 _) ?hi ?h0 ?h1 ?_))
  case hi => kernel_rfl
  case h0 => rfl
  case h1 => kernel_rfl
  obtain ⟨W1, hW1⟩ : ∃ W, W = (w1.alloc (.cells (tabN 16) 154)) := ⟨_, rfl⟩
  have htab : ∀ i, i < 16 → W1.cell? ⟨w1.heap.size, i, none⟩ = some (.int .u16 (bit4 i : Nat)) := by
    intro i hi; rw [hW1, World.cell?_alloc_new]; exact tab_cell i hi
  have hbe : Below w.heap.size w W1 := by rw [hW1]; exact hb1.alloc hb1.size _
  rw [World.setRow_alloc_new, ← hW1]
  have hr1 := (hr.more hB).below hbe
  have ha1 := hr1.2
  clear hW1 hb1 hr1 hr
  go_wp2_with fail
  go_loopg [4, 10] n (fun k s i wr => ∃ j : Nat, k + j = n ∧ i = .int .i64 j ∧ s = .int .u16 (crc 65535 (l.take j) : Nat) ∧ wr = W1)
  case atStart => exact ⟨0, by omega, rfl, rfl, rfl⟩
  case round =>
    obtain ⟨j, hj, rfl, rfl, rfl⟩ := hrel
    by_cases hlt : j < n
    · obtain ⟨b, o, rfl, _, hc⟩ := ha1 (by omega)
      have hjl : j < l.length := by omega
      obtain ⟨x, hx⟩ : ∃ x, x = crc 65535 (l.take j) := ⟨_, rfl⟩
      obtain ⟨d, hd⟩ : ∃ d, d = l[j] := ⟨_, rfl⟩
      have hcell := hc j (bv d) (by rw [hd, List.getElem?_map, List.getElem?_eq_getElem hjl]; rfl)
      have hstep : crc 65535 (l.take (j + 1)) = bit4 (bit4 (x ^^^ d)) := by
        rw [List.take_succ_eq_append_getElem hjl, crc_snoc, ← hx, ← hd]; rfl
      have hxl : x < 65536 := by rw [hx]; exact crc_lt _ _ (by decide) (fun e he => hb e (List.mem_of_mem_take he))
      have hdl : d < 256 := by rw [hd]; exact hb _ (List.getElem_mem hjl)
      rw [← hx]
      unfold bv at hcell
      obtain ⟨y, hy⟩ : ∃ y, y = x ^^^ d := ⟨_, rfl⟩
      have hyl : y < 65536 := by rw [hy]; exact xor_lt _ _ hxl (by omega)
      have f1 : bits .xor .u16 (x : Int) (d : Int) = (y : Int) := by rw [hy]; exact u16_xor_nat x d hxl (by omega)
      obtain ⟨g1, g2⟩ := half y hyl
      have g3 := htab (y % 16) (by omega)
      obtain ⟨z, hz⟩ : ∃ z, z = bit4 y := ⟨_, rfl⟩
      have hzl : z < 65536 := by rw [hz]; exact bit4_lt _ hyl
      rw [← hz] at g2
      obtain ⟨g4, g5⟩ := half z hzl
      have g6 := htab (z % 16) (by omega)
      rw [← hy, ← hz] at hstep
      have H := Lib.hid hstep
      clear hstep hx hd hy hz hc ha1
      go_wp2_with fail
      go_roundg (n - (j + 1))
      case measure => omega
      case rel => exact ⟨j + 1, by omega, by go_num, by rw [H.out], rfl⟩
    · obtain rfl : j = n := by omega
      rw [List.take_of_length_le (by omega)]
      go_wp2_with fail
      go_ret
      exact ⟨rfl, hbe⟩
end Go.Proofs.Ytcdgaeenfhpnkaa
