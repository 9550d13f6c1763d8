/- great, of the statements on frames: contract. -/
import Derived.Test.YtkajhobgelaigaaOps2
set_option linter.unusedVariables false
set_option linter.unusedSimpArgs false
set_option maxRecDepth 100000
namespace Go.Proofs.Ytkajhobgelaigaa
open Go Go.RowKit

def lens (l : List Opr) : Nat := (l.map Opr.len).sum
def caps (l : List Opr) : Nat := (l.map fun r => min r.len 20000).sum
theorem caps_snoc (l : List Opr) (j : Nat) (r : Opr) (h : l[j]? = some r) : caps (l.take (j + 1)) = caps (l.take j) + min r.len 20000 := by
  have hj := (List.getElem?_eq_some_iff.1 h).1
  have e : l.take (j + 1) = l.take j ++ [r] := by
    rw [List.take_succ_eq_append_getElem hj]
    have := (List.getElem?_eq_some_iff.1 h).2
    rw [this]
  rw [e]
  simp [caps]
theorem lens_snoc (l : List Opr) (j : Nat) (r : Opr) (h : l[j]? = some r) : lens (l.take (j + 1)) = lens (l.take j) + r.len := by
  have hj := (List.getElem?_eq_some_iff.1 h).1
  have e : l.take (j + 1) = l.take j ++ [r] := by
    rw [List.take_succ_eq_append_getElem hj]
    have := (List.getElem?_eq_some_iff.1 h).2
    rw [this]
  rw [e]
  simp [lens]
theorem lens_caps : ∀ l : List Opr, caps l < 20000 → lens l = caps l := by
  intro l
  induction l with
  | nil => intro _; rfl
  | cons r l ih =>
    intro h
    simp only [caps, lens, List.map_cons, List.sum_cons] at h ⊢
    have := ih (by unfold caps; omega)
    unfold caps lens at this
    omega
theorem lens_take (l : List Opr) (j : Nat) : lens (l.take j) ≤ lens l := by
  have : lens l = lens (l.take j) + lens (l.drop j) := by
    unfold lens
    rw [← List.sum_append, ← List.map_append, List.take_append_drop]
  omega
def GreatPost (w : World) (n : Nat) (l : List Opr) (e : Ending) (w' : World) : Prop := ∃ b : Bool, e = .returned (.bool b) ∧ (b = false → n + lens l < 20000) ∧ w' = w

set_option maxHeartbeats 1000000 in
theorem great_any (A : Option Addr) (n c B : Nat) (l : List Opr) (w : World) (hr : Ops w B A n l) (hn : n ≤ maxLen) :
    Calls Try.prog 16 #[.slice A n c] w (GreatPost w n l) := by
  have hl : l.length = n := hr.1
  have hmax : n ≤ 9223372036854775807 := by unfold maxLen at hn; omega
  have Hl := Lib.hid hl
  clear hl
  go_enter Try.func16, Try.ntmps16
  go_wp2_with fail
  go_loopg [3, 4] n (fun k s i wr => ∃ (j v : Nat), k + j = n ∧ i = .int .i64 j ∧ s = .int .i64 v ∧ v = n + caps (l.take j) ∧ v ≤ 9223372036854775807 ∧ wr = w)
  case atStart => exact ⟨0, n, by omega, rfl, rfl, by simp [caps], by omega, rfl⟩
  case round =>
    obtain ⟨j, v, hj, rfl, rfl, hv0, hv1, rfl⟩ := hrel
    have Hv := Lib.hid hv0
    have hv2 : (0 : Int) ≤ (v : Int) := by omega
    clear hv0
    by_cases hlt : j < n
    · have hi0 : (0 : Int) ≤ (j : Int) := by omega
      have hi1 : (j : Int) < (n : Int) := by omega
      obtain ⟨b, o, rfl, hbB, hc⟩ := hr.2.2 (by omega)
      obtain ⟨r, hr1⟩ : ∃ r, l[j]? = some r := ⟨_, List.getElem?_eq_getElem (by have := Hl.out; omega)⟩
      obtain ⟨_, c3⟩ := hc j r hr1
      have hcs := Lib.hid (caps_snoc l j r hr1)
      clear hc hr1
      by_cases hv : (v : Int) < 20000
      · by_cases hm : r.len ≤ 20000
        · have hm' : (r.len : Int) ≤ 20000 := by omega
          go_wp2_with fail
          all_goals
            go_roundg (gk - 1)
            case measure => omega
            case rel => exact ⟨j + 1, v + r.len, by omega, by go_num, by go_num, by have := hcs.out; have := Hv.out; omega, by omega, rfl⟩
        · have hm' : (20000 : Int) < (r.len : Int) := by omega
          go_wp2_with fail
          all_goals
            go_roundg (gk - 1)
            case measure => omega
            case rel => exact ⟨j + 1, v + 20000, by omega, by go_num, by go_num, by have := hcs.out; have := Hv.out; omega, by omega, rfl⟩
      · have hv' : decide ((20000 : Int) ≤ (v : Int)) = true := decide_eq_true (by omega)
        go_wp2_with fail
        go_ret
        exact ⟨_, rfl, fun h => by simp at h, rfl⟩
    · obtain rfl : j = n := by omega
      go_wp2_with fail
      all_goals
        go_ret
        refine ⟨_, rfl, fun h => ?_, rfl⟩
        have h1 : v < 20000 := by simp at h; omega
        have h2 := Hv.out
        rw [List.take_of_length_le (by rw [Hl.out]; exact Nat.le_refl _)] at h2
        have := lens_caps l (by omega)
        omega
end Go.Proofs.Ytkajhobgelaigaa
