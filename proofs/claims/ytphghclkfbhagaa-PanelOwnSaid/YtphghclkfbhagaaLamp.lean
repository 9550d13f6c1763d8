/- Lamps: what the functions of package lamp compute. -/
import Derived.Test.YtphghclkfbhagaaInv
set_option linter.unusedVariables false
set_option linter.unusedSimpArgs false
set_option maxRecDepth 100000
namespace Go.Proofs.Ytphghclkfbhagaa
open Go Go.RowKit

def iv (n : Int) : Value := .int .i64 n
def rowA (r : List Int) : Array Value := (r.map iv).toArray
def toL (r : List Int) (s : Int) (of : List Int) : List Int := of.foldl (fun r k => r.set k.toNat s) r
def zr : List Int := List.replicate 9 0
def sameL : List Int := [0, 1, 2, 3, 4, 5, 6, 7, 8]
def sameN (j : Nat) : List Int := sameL.take j ++ zr.drop j

theorem toL_length (r : List Int) (s : Int) (of : List Int) : (toL r s of).length = r.length := by
  unfold toL
  induction of generalizing r with
  | nil => rfl
  | cons k of ih => rw [List.foldl_cons, ih]; simp
theorem toL_snoc (r : List Int) (s : Int) (of : List Int) (k : Int) : toL r s (of ++ [k]) = (toL r s of).set k.toNat s := by
  unfold toL; rw [List.foldl_append]; rfl
theorem rowA_set (r : List Int) (k : Nat) (s : Int) : (rowA r).setIfInBounds k (.int .i64 s) = rowA (r.set k s) := by
  unfold rowA
  apply Array.ext'
  simp [List.map_set, iv]
theorem rowA_get (r : List Int) (k : Nat) (h : k < r.length) : ∃ v, (rowA r)[k]? = some v ∧ v.oneCell' = true := by
  refine ⟨iv r[k], ?_, rfl⟩
  simp [rowA, h]
theorem rowA_zr : rowA zr = #[.int .i64 0, .int .i64 0, .int .i64 0, .int .i64 0, .int .i64 0, .int .i64 0, .int .i64 0, .int .i64 0, .int .i64 0] := rfl
theorem rowA_one (r : List Int) : (rowA r).all (fun x => x.oneCell') = true := by
  rw [Array.all_eq_true_iff_forall_mem]
  intro x hx
  simp only [rowA, List.mem_toArray, List.mem_map] at hx
  obtain ⟨y, _, rfl⟩ := hx
  rfl
theorem sameN_step (j : Nat) (h : j < 9) : (sameN j).set j (j : Int) = sameN (j + 1) := by
  have : ∀ j : Fin 9, (sameN j).set j (j : Int) = sameN (j + 1) := by decide +kernel
  exact this ⟨j, h⟩
theorem sameN_length (j : Nat) (h : j ≤ 9) : (sameN j).length = 9 := by
  have : ∀ j : Fin 10, (sameN j).length = 9 := by decide +kernel
  exact this ⟨j, by omega⟩
theorem sameN_all : sameN 9 = sameL := rfl

theorem same_any (w : World) :
    Calls Try.prog 39 #[] w fun e w' => e = .returned (.agg (rowA sameL)) ∧ Below w.heap.size w w' := by
  go_enter Try.func39, Try.ntmps39
  go_wp2_with fail
  go_loopg [3] 9 (fun k i wr => ∃ j : Nat, k + j = 9 ∧ i = .int .i64 j ∧ wr = (w.alloc (.cells (rowA zr) 49)).alloc (.cells (rowA (sameN j)) 49))
  case atStart => exact ⟨0, by omega, rfl, rfl⟩
  case round =>
    obtain ⟨j, hj, rfl, rfl⟩ := hrel
    by_cases hlt : j < 9
    · obtain ⟨v, hg, hv⟩ := rowA_get (sameN j) j (by rw [sameN_length j (by omega)]; exact hlt)
      go_wp2_with fail
      go_roundg (gk - 1)
      case measure => omega
      case rel => exact ⟨j + 1, by omega, by go_num, by rw [← sameN_step j hlt, ← rowA_set]⟩
    · obtain rfl : j = 9 := by omega
      have hb := heap_alloc2_new w (.cells (rowA zr) 49) (.cells (rowA (sameN 9)) 49)
      have ha := heap_alloc2_old w (.cells (rowA zr) 49) (.cells (rowA (sameN 9)) 49)
      go_wp2_with (first
        | (with_reducible refine wpList_load_row rfl 49 (.tmp 1) rfl (w.heap.size + 1) rfl 49 (rowA (sameN 9)) (0, 0) _ ?hg Try.underlying49 rfl ?hj ?_)
        | (with_reducible refine wpList_store_row rfl 49 (.tmp 0) (.tmp 10) rfl w.heap.size (rowA (sameN 9)) rfl rfl 49 (rowA zr) ?ha ?hi ?h0 ?h1 ?_))
      case hg => exact hb
      case hj => kernel_rfl
      case ha => exact ha
      case hi => kernel_rfl
      case h0 => rfl
      case h1 => kernel_rfl
      refine bodyPost_ret (results_cell_row rfl _ _ w.heap.size 49 (rowA (sameN 9)) (0, 0) _ rfl (setRow_heap _ _ _ _ _ _ ha) Try.underlying49 rfl (by kernel_rfl)) rfl ⟨rfl, ?_⟩
      exact below_setRow (((Below.refl _ _).alloc (Nat.le_refl _) _).alloc (by simp) _) (Nat.le_refl _) _

theorem to_any (r : List Int) (s : Int) (A : Option Addr) (n c B : Nat) (of : List Int) (w : World) (h9 : r.length = 9) (hr : Rd w B 1 A n (of.map iv)) (hB : B ≤ w.heap.size) (hof : ∀ k ∈ of, 0 ≤ k ∧ k < 9) (hn : n ≤ 9) :
    Calls Try.prog 36 #[.agg (rowA r), .int .i64 s, .slice A n c] w fun e w' => e = .returned (.agg (rowA (toL r s of))) ∧ Below w.heap.size w w' := by
  have hl : of.length = n := by have := hr.1; simpa using this
  go_enter Try.func36, Try.ntmps36
  go_wp2_with fail
  go_loopg [11] n (fun k i wr => ∃ j : Nat, k + j = n ∧ i = .int .i64 j ∧ wr = (w.alloc (.cells (rowA (toL r s (of.take j))) 49)).alloc (.cells (rowA zr) 49))
  case atStart => exact ⟨0, by omega, rfl, rfl⟩
  case round =>
    obtain ⟨j, hj, rfl, rfl⟩ := hrel
    by_cases hlt : j < n
    · obtain ⟨b, o, rfl, hbB, hc⟩ := hr.2 (by omega)
      obtain ⟨k, hk⟩ : ∃ k, k = of[j] := ⟨_, rfl⟩
      have hk9 := hof k (by rw [hk]; exact List.getElem_mem _)
      have hcell := hc j (.int .i64 k) (by rw [List.getElem?_map, List.getElem?_eq_getElem (by omega), ← hk]; rfl)
      have hcell' := ((((Below.refl w.heap.size w).alloc (Nat.le_refl _) (.cells (rowA (toL r s (of.take j))) 49)).alloc (by simp) (.cells (rowA zr) 49)).cell (p := ⟨b, o + j, none⟩) (by show b < _; omega)).trans hcell
      have htk : toL r s (of.take (j + 1)) = (toL r s (of.take j)).set k.toNat s := by
        rw [List.take_succ_eq_append_getElem (by omega), toL_snoc, ← hk]
      obtain ⟨v, hg, hv⟩ := rowA_get (toL r s (of.take j)) k.toNat (by rw [toL_length]; omega)
      have k0 := hk9.1
      have k1 := hk9.2
      clear hk hk9 hcell hc
      go_wp2_with fail
      go_roundg (gk - 1)
      case measure => omega
      case rel => exact ⟨j + 1, by omega, by go_num, by rw [htk, ← rowA_set]⟩
    · obtain rfl : j = n := by omega
      rw [List.take_of_length_le (by omega)]
      obtain ⟨R, hR⟩ : ∃ R, R = toL r s of := ⟨_, rfl⟩
      rw [← hR]
      have hb := heap_alloc2_new w (.cells (rowA R) 49) (.cells (rowA zr) 49)
      have ha := heap_alloc2_old w (.cells (rowA R) 49) (.cells (rowA zr) 49)
      have hRl : (rowA R).size = 9 := by rw [hR]; simp [rowA, toL_length, h9]
      have HR := Lib.hid hR
      clear hR
      go_wp2_with (first
        | (with_reducible refine wpList_load_row rfl 49 (.tmp 3) rfl w.heap.size rfl 49 (rowA R) (0, 0) _ ?hg Try.underlying49 rfl ?hj ?_)
        | (with_reducible refine wpList_store_row rfl 49 (.tmp 6) (.tmp 19) rfl (w.heap.size + 1) (rowA R) rfl rfl 49 (rowA zr) ?ha ?hi ?h0 ?h1 ?_))
      case hg => exact ha
      case hj => rw [hRl]; kernel_rfl
      case ha => exact hb
      case hi => rw [hRl]; kernel_rfl
      case h0 => rw [hRl]; rfl
      case h1 => exact rowA_one R
      refine bodyPost_ret (results_cell_row rfl _ _ (w.heap.size + 1) 49 (rowA R) (0, 0) _ rfl (setRow_heap _ _ _ _ _ _ hb) Try.underlying49 rfl (by rw [hRl]; kernel_rfl)) rfl ⟨by rw [HR.out], ?_⟩
      exact below_setRow (((Below.refl _ _).alloc (Nat.le_refl _) _).alloc (by simp) _) (by omega) _

/-! ### traits -/
def keepsB (k : Int) : Bool := k == 2 || k == 5
def ringsB (k : Int) : Bool := k == 3
def hushesB (k : Int) : Bool := k == 5 || k == 6
def marksB (k : Int) : Bool := k == 4 || k == 5 || k == 6
def trV (a b c d : Bool) : Value := .agg #[.bool a, .bool b, .bool c, .bool d]
set_option maxHeartbeats 2000000 in
theorem traits_any (k : Int) (w : World) (h : 1 ≤ k ∧ k ≤ 6) :
    Calls Try.prog 38 #[.int .i64 k] w fun e w' => e = .returned (trV (keepsB k) (ringsB k) (hushesB k) (marksB k)) ∧ Below w.heap.size w w' := by
  obtain ⟨h1, h2⟩ := h
  have : k = 1 ∨ k = 2 ∨ k = 3 ∨ k = 4 ∨ k = 5 ∨ k = 6 := by omega
  rcases this with rfl | rfl | rfl | rfl | rfl | rfl <;>
  · go_enter Try.func38, Try.ntmps38
    go_wp2_with fail
    refine bodyPost_ret (results_cell_row rfl _ _ w.heap.size 54 _ (0, 0) _ rfl (heap_alloc_new w _) Try.underlying54 rfl (by kernel_rfl)) rfl ⟨rfl, (Below.refl _ _).alloc (Nat.le_refl _) _⟩

def restI (a b : Bool) : Int := if a then 4 else if b then 5 else 0
theorem rest_any (a b c d : Bool) (w : World) :
    Calls Try.prog 40 #[trV a b c d] w fun e w' => e = .returned (.int .i64 (restI a b)) ∧ Below w.heap.size w w' := by
  unfold trV
  cases a <;> cases b <;>
  · go_enter Try.func40, Try.ntmps40
    go_wp2_with fail
    go_ret
    exact ⟨rfl, (Below.refl _ _).alloc (Nat.le_refl _) _⟩
end Go.Proofs.Ytphghclkfbhagaa
