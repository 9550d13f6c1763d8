/- Slices of numbers: Clone, SameInts. -/
import Derived.Test.YtphghclkfbhagaaRef18N
import Derived.Laws.Cover3
set_option linter.unusedVariables false
set_option linter.unusedSimpArgs false
set_option maxRecDepth 100000
namespace Go.Proofs.Ytphghclkfbhagaa
open Go Go.RowKit

theorem info_int : (Try.prog.info? 3).map (fun i => (i.zero, i.size, i.bytes)) = some (some (.int .i64 0), 1, 8) := by kernel_rfl
theorem iv_one (l : List Int) : ∀ u ∈ l.map iv, u.oneCell' = true := by
  intro u hu
  obtain ⟨c, _, rfl⟩ := List.mem_map.1 hu
  rfl
theorem eql_nil (A : Option Addr) (l c : Nat) (w : World) : (binOp .eql 22 (.slice A l c) (.slice none 0 0)).run Try.prog w = .ok (.bool A.isNone) w := by
  simp only [binOp]
  simp [run_equal_slice_nil w 22 3 A l c Try.underlying22]
set_option maxHeartbeats 2000000 in
theorem clone_any (A : Option Addr) (n c B : Nat) (l : List Int) (w : World) (hr : Rd w B 1 A n (l.map iv)) (hB : B ≤ w.heap.size) (hn : n ≤ 100000) (hnc : n ≤ c) :
    Calls Try.prog 21 #[.slice A n c] w fun e w' => ∃ A' c', e = .returned (.slice A' n c') ∧ w'.ownsRow w.heap.size 3 1 (.slice A' n c') n (l.map iv) ∧ Below w.heap.size w w' := by
  obtain ⟨i0, hi, hz0, hz1, hz2⟩ := info_parts info_int
  go_enter Try.func21, Try.ntmps21
  have hq := eql_nil A n c
  cases A with
  | none =>
    have h0 : n = 0 := by
      rcases Nat.eq_zero_or_pos n with h | h
      · exact h
      · obtain ⟨b, o, e, _⟩ := hr.2 h; cases e
    subst h0
    have hl0 : l = [] := List.eq_nil_of_length_eq_zero (by have := hr.1; simpa using this)
    subst hl0
    go_wp2_with fail
    go_ret
    exact ⟨none, 0, rfl, World.ownsRow_nil _ _ _ _, Below.refl _ _⟩
  | some a =>
    go_wp2_with (first
      | (at_builtin
         (with_reducible refine wpList_app _ rfl (.tmp 5) (.tmp 6) 22 rfl w.heap.size 3 i0 (.int .i64 0) 1 8 Try.underlying22 hi hz0 hz1 hz2 rfl ?g0 _ 0 [] rfl (World.ownsRow_made w #[] 0 (Nat.le_refl _) ?gm rfl) w.heap.size (some a) n c (l.map iv) rfl ?gr (iv_one l) ?g2 ?g3 ?g4 ?_))
      | fail)
    case g0 => omega
    case gm => unfold maxLen; omega
    case gr => exact (hr.more hB).alloc (Nat.le_refl _) _
    case g2 => unfold maxLen; omega
    case g3 => omega
    case g4 => simp
    intro v4 w4 hown4 hg4 hat4
    have hbw4 : Below w.heap.size w w4 := ((Below.refl _ w).alloc (Nat.le_refl _) _).grown hg4 (by simp) (by intro q hq; simp [Value.ownBlock] at hq; omega)
    obtain ⟨A4, c4, rfl⟩ := own_shape hown4
    have hown4' : w4.ownsRow w.heap.size 3 1 (.slice A4 n c4) n (l.map iv) := by simpa using hown4
    go_wp2_with fail
    go_ret
    exact ⟨A4, c4, by simp, hown4', hbw4⟩

set_option maxHeartbeats 2000000 in
theorem sameints_any (A A' : Option Addr) (n n' c c' B : Nat) (l l' : List Int) (w : World) (hr : Rd w B 1 A n (l.map iv)) (hr' : Rd w B 1 A' n' (l'.map iv)) (hB : B ≤ w.heap.size) (hn : n ≤ 100000) :
    Calls Try.prog 17 #[.slice A n c, .slice A' n' c'] w fun e w' => e = .returned (.bool (decide (l = l'))) ∧ Below w.heap.size w w' := by
  have hl : l.length = n := by have := hr.1; simpa using this
  have hl' : l'.length = n' := by have := hr'.1; simpa using this
  go_enter Try.func17, Try.ntmps17
  by_cases hnn : n = n'
  · subst hnn
    go_wp2_with fail
    go_loopg [5] n (fun k i wr => ∃ j : Nat, k + j = n ∧ i = .int .i64 j ∧ Below w.heap.size w wr ∧ l.take j = l'.take j)
    case atStart => exact ⟨0, by omega, rfl, Below.refl _ _, by simp⟩
    case round =>
      obtain ⟨j, hj, rfl, hbr, htk⟩ := hrel
      by_cases hlt : j < n
      · have hi0 : (0 : Int) ≤ (j : Int) := by omega
        have hi1 : (j : Int) < (n : Int) := by omega
        obtain ⟨b, o, rfl, hbB, hc⟩ := (hr.more hB).2 (by omega)
        obtain ⟨b', o', rfl, hbB', hc'⟩ := (hr'.more hB).2 (by omega)
        obtain ⟨x, hx⟩ : ∃ x, x = l[j] := ⟨_, rfl⟩
        obtain ⟨x', hx'⟩ : ∃ x, x = l'[j] := ⟨_, rfl⟩
        have c1 : wr.cell? ⟨b, o + j, none⟩ = some (.int .i64 x) := (hbr.cell (p := ⟨b, o + j, none⟩) hbB).trans (hc j _ (by rw [List.getElem?_map, List.getElem?_eq_getElem (by omega), ← hx]; rfl))
        have c2 : wr.cell? ⟨b', o' + j, none⟩ = some (.int .i64 x') := (hbr.cell (p := ⟨b', o' + j, none⟩) hbB').trans (hc' j _ (by rw [List.getElem?_map, List.getElem?_eq_getElem (by omega), ← hx']; rfl))
        clear hc hc'
        have hs : l.take (j + 1) = l.take j ++ [x] := by rw [hx]; exact List.take_succ_eq_append_getElem (by omega)
        have hs' : l'.take (j + 1) = l'.take j ++ [x'] := by rw [hx']; exact List.take_succ_eq_append_getElem (by omega)
        have Hx := Lib.hid hx
        have Hx' := Lib.hid hx'
        clear hx hx'
        by_cases hxx : x = x'
        · have t : (x == x') = true := by simpa using hxx
          have Hxx := Lib.hid hxx
          clear hxx
          have t2 : (x != x') = false := by simp [bne, t]
          go_wp2_with fail
          go_quiet (fail)
          obtain ⟨wq, hwq⟩ : ∃ W, W = wr.drewN nq := ⟨_, rfl⟩
          have hbq : Below w.heap.size w wq := by rw [hwq]; exact hbr.trans ⟨rfl, rfl, rfl, Nat.le_refl _, fun _ _ => rfl⟩
          rw [← hwq]
          clear hwq
          go_wp2_with fail
          go_roundg (gk - 1)
          case measure => omega
          case rel => exact ⟨j + 1, by omega, by go_num, hbq, by rw [hs, hs', htk, Hxx.out]⟩
        · have t2 : (x != x') = true := by simp [bne, hxx]
          have hne : decide (l = l') = false := decide_eq_false (fun e => hxx (by rw [Hx.out, Hx'.out]; subst e; rfl))
          clear hxx
          go_wp2_with fail
          go_quiet (fail)
          obtain ⟨wq, hwq⟩ : ∃ W, W = wr.drewN nq := ⟨_, rfl⟩
          have hbq : Below w.heap.size w wq := by rw [hwq]; exact hbr.trans ⟨rfl, rfl, rfl, Nat.le_refl _, fun _ _ => rfl⟩
          rw [← hwq]
          clear hwq
          go_wp2_with fail
          go_ret
          exact ⟨by rw [hne]; rfl, hbq⟩
      · obtain rfl : j = n := by omega
        have he : decide (l = l') = true := decide_eq_true (by rw [List.take_of_length_le (by omega), List.take_of_length_le (by omega)] at htk; exact htk)
        go_wp2_with fail
        go_ret
        exact ⟨by rw [he]; rfl, hbr⟩
  · have hne : decide (l = l') = false := decide_eq_false (fun e => hnn (by rw [← hl, ← hl', e]))
    have t1 : ((n : Int) != (n' : Int)) = true := by simp [bne]; omega
    go_wp2_with fail
    go_ret
    exact ⟨by rw [hne]; rfl, Below.refl _ _⟩
end Go.Proofs.Ytphghclkfbhagaa
