/- Package store: latches, notes and times that are right. -/
import Derived.Test.YtcdgaeenfhpnkaaLogQ
set_option linter.unusedVariables false
set_option linter.unusedSimpArgs false
set_option maxRecDepth 100000
namespace Go.Proofs.Ytcdgaeenfhpnkaa
open Go Go.RowKit
attribute [local go_sem] Oper.semAt_some

structure Lt where
  set : Bool
  at_ : Int
  first : Bool
deriving DecidableEq
structure Nt where
  kind : Int
  who : Int
  at_ : Int
deriving DecidableEq
structure St where
  causes : List Lt
  effects : List Lt
  ends : List Int
deriving DecidableEq
def okT (t : Int) : Prop := 0 ≤ t ∧ t ≤ 2199023255552
instance (t : Int) : Decidable (okT t) := by unfold okT; infer_instance
def okL (x : Lt) : Prop := if x.set then okT x.at_ else x = ⟨false, 0, false⟩
instance (x : Lt) : Decidable (okL x) := by unfold okL; infer_instance
def okN (x : Nt) : Prop := 1 ≤ x.kind ∧ x.kind ≤ 7 ∧ 0 ≤ x.who ∧ x.who ≤ 255 ∧ okT x.at_
instance (x : Nt) : Decidable (okN x) := by unfold okN; infer_instance
def okS (x : St) : Prop := x.causes.length ≤ 8 ∧ x.ends.length = x.causes.length ∧ x.effects.length ≤ 8 ∧ (∀ l ∈ x.causes, okL l) ∧ (∀ l ∈ x.effects, okL l) ∧ ∀ t ∈ x.ends, okT t
instance (x : St) : Decidable (okS x) := by unfold okS; infer_instance

theorem ret_bool2 {a b : Bool} (h : a = b) : Ending.returned (.bool a) = .returned (.bool b) := by rw [h]
theorem rightTime_any (t : Int) (w : World) : Calls Try.prog 63 #[.int .i64 t] w fun e w' => e = .returned (.bool (decide (okT t))) ∧ w' = w := by
  have go : okT t ∨ ¬ 0 ≤ t ∧ ¬ okT t ∨ 0 ≤ t ∧ ¬ t ≤ 2199023255552 ∧ ¬ okT t := by unfold okT; omega
  rcases go with h | ⟨h1, h⟩ | ⟨h1, h2, h⟩
  · rw [decide_eq_true h]
    obtain ⟨h1, h2⟩ := h
    go_enter Try.func63, Try.ntmps63
    go_wp2_with fail
    go_ret
    exact ⟨by simp [h1, h2], rfl⟩
  · rw [decide_eq_false h]
    clear h
    go_enter Try.func63, Try.ntmps63
    go_wp2_with fail
    go_ret
    exact ⟨by simp, rfl⟩
  · rw [decide_eq_false h]
    clear h
    go_enter Try.func63, Try.ntmps63
    go_wp2_with fail
    go_ret
    exact ⟨by simp [h1], rfl⟩
theorem rightLatch_any (x : Lt) (w : World) : Calls Try.prog 62 #[.agg #[.bool x.set, .int .i64 x.at_, .bool x.first]] w fun e w' => e = .returned (.bool (decide (okL x))) ∧ Below w.heap.size w w' := by
  obtain ⟨s, t, f⟩ := x
  have al : ∀ o : Obj, Below w.heap.size w (w.alloc o) := fun o => (Below.refl _ _).alloc (Nat.le_refl _) _
  have Al := Lib.hid al
  clear al
  cases s
  · go_enter Try.func62, Try.ntmps62
    go_wp2_with fail
    all_goals
      go_ret
      refine ⟨ret_bool2 ?_, Al.out _⟩
      simp [okL, *]
  · go_enter Try.func62, Try.ntmps62
    go_wp2_with (first
      | (go_at_call 63; (with_reducible refine (rightTime_any t _).mono ?_)
         rintro e w1 ⟨rfl, rfl⟩))
    go_ret
    refine ⟨ret_bool2 ?_, Al.out _⟩
    simp [okL]
theorem rightNote_any (x : Nt) (w : World) : Calls Try.prog 35 #[.agg #[.int .i64 x.kind, .int .i64 x.who, .int .i64 x.at_]] w fun e w' => e = .returned (.bool (decide (okN x))) ∧ Below w.heap.size w w' := by
  obtain ⟨k, o, t⟩ := x
  have al : ∀ o : Obj, Below w.heap.size w (w.alloc o) := fun o => (Below.refl _ _).alloc (Nat.le_refl _) _
  have Al := Lib.hid al
  have go : ¬ 1 ≤ k ∨ 1 ≤ k ∧ ¬ k ≤ 7 ∨ 1 ≤ k ∧ k ≤ 7 ∧ ¬ 0 ≤ o ∨ 1 ≤ k ∧ k ≤ 7 ∧ 0 ≤ o ∧ ¬ o ≤ 255 ∨ 1 ≤ k ∧ k ≤ 7 ∧ 0 ≤ o ∧ o ≤ 255 := by omega
  clear al
  rcases go with h1 | ⟨h1, h2⟩ | ⟨h1, h2, h3⟩ | ⟨h1, h2, h3, h4⟩ | ⟨h1, h2, h3, h4⟩
  all_goals
    go_enter Try.func35, Try.ntmps35
    go_wp2_with (first
      | (go_at_call 63; (with_reducible refine (rightTime_any t _).mono ?_)
         rintro e w1 ⟨rfl, rfl⟩))
    go_ret
    refine ⟨ret_bool2 ?_, Al.out _⟩
    first
      | (show false = _; symm; apply decide_eq_false; unfold okN; dsimp only; omega)
      | (simp [okN, *]; done)
/-! ### all -/
def Lt.cells (x : Lt) : List Value := [.bool x.set, .int .i64 x.at_, .bool x.first]
def Nt.cells (x : Nt) : List Value := [.int .i64 x.kind, .int .i64 x.who, .int .i64 x.at_]
set_option maxHeartbeats 1000000 in
theorem all_lt (A : Option Addr) (n c B : Nat) (l : List Lt) (w : World) (hr : RdS Lt.cells w B 3 A n l) (hB : B ≤ w.heap.size) (hn : n ≤ maxLen) :
    Calls Try.prog 64 #[.slice A n c, .func (.func 62) #[] #[]] w fun e w' => e = .returned (.bool (decide (∀ x ∈ l, okL x))) ∧ Below w.heap.size w w' := by
  have hl : l.length = n := hr.1
  have hmax : n ≤ 9223372036854775807 := by unfold maxLen at hn; omega
  have Hr := Lib.hid hr
  have Hl := Lib.hid hl
  clear hr hl
  go_enter Try.func64, Try.ntmps64
  go_wp2_with fail
  go_loopg [9] n (fun k i wr => ∃ (j : Nat), k + j = n ∧ i = .int .i64 j ∧ (∀ x ∈ l.take j, okL x) ∧ Below w.heap.size w wr)
  case atStart => exact ⟨0, by omega, rfl, by simp, Below.refl _ _⟩
  case round =>
    obtain ⟨j, hj, rfl, hall, hb⟩ := hrel
    have Hall := Lib.hid hall
    clear hall
    by_cases hlt : j < n
    · have hi0 : (0 : Int) ≤ (j : Int) := by omega
      have hi1 : (j : Int) < (n : Int) := by omega
      obtain ⟨bb, o, rfl, hbB, hc⟩ := (Hr.out.below (hb.mono hB)).2 (by omega)
      obtain ⟨x, hx⟩ : ∃ x, l[j]? = some x := ⟨_, List.getElem?_eq_getElem (by have := Hl.out; omega)⟩
      have c0 := hc j x hx 0 _ rfl
      have c1 := hc j x hx 1 _ rfl
      have c2 := hc j x hx 2 _ rfl
      rw [Nat.add_zero] at c0
      have HB := Lib.hid hb
      have Hx := Lib.hid hx
      clear hc hb hx
      by_cases hok : okL x
      · have hd : decide (okL x) = true := decide_eq_true hok
        have Hok := Lib.hid hok
        clear hok
        go_wp2_with (first
          | (go_at_call 62; (with_reducible refine (rightLatch_any x _).mono ?_)
             rintro e w1 ⟨he, hb1⟩
             rw [hd] at he
             subst he
             have HB1 : Hid (Below w.heap.size w w1) := HB.out.trans (((Below.refl _ _).alloc (Nat.le_refl _) _).trans (hb1.mono (by rw [World.size_alloc]; omega)) |>.mono HB.out.size)
             clear hb1))
        go_roundg (gk - 1)
        case measure => omega
        case rel =>
          refine ⟨j + 1, by omega, by go_num, fun y hy => ?_, HB1.out⟩
          rw [List.take_succ_eq_append_getElem (by have := Hl.out; omega), List.mem_append, List.mem_singleton] at hy
          rcases hy with hy | rfl
          · exact Hall.out y hy
          · have := Hx.out
            rw [List.getElem?_eq_getElem (by have := Hl.out; omega)] at this
            injection this with this
            rw [this]; exact Hok.out
      · have hd : decide (okL x) = false := decide_eq_false hok
        have hno : decide (∀ x ∈ l, okL x) = false := decide_eq_false (fun h => hok (h x (List.mem_of_getElem? Hx.out)))
        have Hno := Lib.hid hno
        clear hok hno
        go_wp2_with (first
          | (go_at_call 62; (with_reducible refine (rightLatch_any x _).mono ?_)
             rintro e w1 ⟨he, hb1⟩
             rw [hd] at he
             subst he
             have HB1 : Hid (Below w.heap.size w w1) := HB.out.trans (((Below.refl _ _).alloc (Nat.le_refl _) _).trans (hb1.mono (by rw [World.size_alloc]; omega)) |>.mono HB.out.size)
             clear hb1))
        go_ret
        exact ⟨ret_bool2 Hno.out.symm, HB1.out⟩
    · have hjn : l.take j = l := List.take_of_length_le (by have := Hl.out; omega)
      have hyes : decide (∀ x ∈ l, okL x) = true := decide_eq_true (by have := Hall.out; rwa [hjn] at this)
      have hi0 : ¬ (j : Int) < (n : Int) := by omega
      have Hyes := Lib.hid hyes
      clear hjn hyes
      go_wp2_with fail
      go_ret
      exact ⟨ret_bool2 Hyes.out.symm, hb⟩
set_option maxHeartbeats 1000000 in
theorem all_nt (A : Option Addr) (n c B : Nat) (l : List Nt) (w : World) (hr : RdS Nt.cells w B 3 A n l) (hB : B ≤ w.heap.size) (hn : n ≤ maxLen) :
    Calls Try.prog 39 #[.slice A n c, .func (.func 35) #[] #[]] w fun e w' => e = .returned (.bool (decide (∀ x ∈ l, okN x))) ∧ Below w.heap.size w w' := by
  have hl : l.length = n := hr.1
  have hmax : n ≤ 9223372036854775807 := by unfold maxLen at hn; omega
  have Hr := Lib.hid hr
  have Hl := Lib.hid hl
  clear hr hl
  go_enter Try.func39, Try.ntmps39
  go_wp2_with fail
  go_loopg [9] n (fun k i wr => ∃ (j : Nat), k + j = n ∧ i = .int .i64 j ∧ (∀ x ∈ l.take j, okN x) ∧ Below w.heap.size w wr)
  case atStart => exact ⟨0, by omega, rfl, by simp, Below.refl _ _⟩
  case round =>
    obtain ⟨j, hj, rfl, hall, hb⟩ := hrel
    have Hall := Lib.hid hall
    clear hall
    by_cases hlt : j < n
    · have hi0 : (0 : Int) ≤ (j : Int) := by omega
      have hi1 : (j : Int) < (n : Int) := by omega
      obtain ⟨bb, o, rfl, hbB, hc⟩ := (Hr.out.below (hb.mono hB)).2 (by omega)
      obtain ⟨x, hx⟩ : ∃ x, l[j]? = some x := ⟨_, List.getElem?_eq_getElem (by have := Hl.out; omega)⟩
      have c0 := hc j x hx 0 _ rfl
      have c1 := hc j x hx 1 _ rfl
      have c2 := hc j x hx 2 _ rfl
      rw [Nat.add_zero] at c0
      have HB := Lib.hid hb
      have Hx := Lib.hid hx
      clear hc hb hx
      by_cases hok : okN x
      · have hd : decide (okN x) = true := decide_eq_true hok
        have Hok := Lib.hid hok
        clear hok
        go_wp2_with (first
          | (go_at_call 35; (with_reducible refine (rightNote_any x _).mono ?_)
             rintro e w1 ⟨he, hb1⟩
             rw [hd] at he
             subst he
             have HB1 : Hid (Below w.heap.size w w1) := HB.out.trans (((Below.refl _ _).alloc (Nat.le_refl _) _).trans (hb1.mono (by rw [World.size_alloc]; omega)) |>.mono HB.out.size)
             clear hb1))
        go_roundg (gk - 1)
        case measure => omega
        case rel =>
          refine ⟨j + 1, by omega, by go_num, fun y hy => ?_, HB1.out⟩
          rw [List.take_succ_eq_append_getElem (by have := Hl.out; omega), List.mem_append, List.mem_singleton] at hy
          rcases hy with hy | rfl
          · exact Hall.out y hy
          · have := Hx.out
            rw [List.getElem?_eq_getElem (by have := Hl.out; omega)] at this
            injection this with this
            rw [this]; exact Hok.out
      · have hd : decide (okN x) = false := decide_eq_false hok
        have hno : decide (∀ x ∈ l, okN x) = false := decide_eq_false (fun h => hok (h x (List.mem_of_getElem? Hx.out)))
        have Hno := Lib.hid hno
        clear hok hno
        go_wp2_with (first
          | (go_at_call 35; (with_reducible refine (rightNote_any x _).mono ?_)
             rintro e w1 ⟨he, hb1⟩
             rw [hd] at he
             subst he
             have HB1 : Hid (Below w.heap.size w w1) := HB.out.trans (((Below.refl _ _).alloc (Nat.le_refl _) _).trans (hb1.mono (by rw [World.size_alloc]; omega)) |>.mono HB.out.size)
             clear hb1))
        go_ret
        exact ⟨ret_bool2 Hno.out.symm, HB1.out⟩
    · have hjn : l.take j = l := List.take_of_length_le (by have := Hl.out; omega)
      have hyes : decide (∀ x ∈ l, okN x) = true := decide_eq_true (by have := Hall.out; rwa [hjn] at this)
      have hi0 : ¬ (j : Int) < (n : Int) := by omega
      have Hyes := Lib.hid hyes
      clear hjn hyes
      go_wp2_with fail
      go_ret
      exact ⟨ret_bool2 Hyes.out.symm, hb⟩
set_option maxHeartbeats 1000000 in
theorem all_time (A : Option Addr) (n c B : Nat) (l : List Int) (w : World) (hr : RdS ivw w B 1 A n l) (hB : B ≤ w.heap.size) (hn : n ≤ maxLen) :
    Calls Try.prog 65 #[.slice A n c, .func (.func 63) #[] #[]] w fun e w' => e = .returned (.bool (decide (∀ x ∈ l, okT x))) ∧ Below w.heap.size w w' := by
  have hl : l.length = n := hr.1
  have hmax : n ≤ 9223372036854775807 := by unfold maxLen at hn; omega
  have Hr := Lib.hid hr
  have Hl := Lib.hid hl
  clear hr hl
  go_enter Try.func65, Try.ntmps65
  go_wp2_with fail
  go_loopg [9] n (fun k i wr => ∃ (j : Nat), k + j = n ∧ i = .int .i64 j ∧ (∀ x ∈ l.take j, okT x) ∧ Below w.heap.size w wr)
  case atStart => exact ⟨0, by omega, rfl, by simp, Below.refl _ _⟩
  case round =>
    obtain ⟨j, hj, rfl, hall, hb⟩ := hrel
    have Hall := Lib.hid hall
    clear hall
    by_cases hlt : j < n
    · have hi0 : (0 : Int) ≤ (j : Int) := by omega
      have hi1 : (j : Int) < (n : Int) := by omega
      obtain ⟨bb, o, rfl, hbB, hc⟩ := (Hr.out.below (hb.mono hB)).2 (by omega)
      obtain ⟨x, hx⟩ : ∃ x, l[j]? = some x := ⟨_, List.getElem?_eq_getElem (by have := Hl.out; omega)⟩
      have c0 := hc j x hx 0 _ rfl
      rw [Nat.add_zero, Nat.mul_one] at c0
      have HB := Lib.hid hb
      have Hx := Lib.hid hx
      clear hc hb hx
      by_cases hok : okT x
      · have hd : decide (okT x) = true := decide_eq_true hok
        have Hok := Lib.hid hok
        clear hok
        go_wp2_with (first
          | (go_at_call 63; (with_reducible refine (rightTime_any x _).mono ?_)
             rintro e w1 ⟨he, hb1⟩
             rw [hd] at he
             subst he
             have HB1 : Hid (Below w.heap.size w w1) := by rw [hb1]; exact HB.out
             clear hb1))
        go_roundg (gk - 1)
        case measure => omega
        case rel =>
          refine ⟨j + 1, by omega, by go_num, fun y hy => ?_, HB1.out⟩
          rw [List.take_succ_eq_append_getElem (by have := Hl.out; omega), List.mem_append, List.mem_singleton] at hy
          rcases hy with hy | rfl
          · exact Hall.out y hy
          · have := Hx.out
            rw [List.getElem?_eq_getElem (by have := Hl.out; omega)] at this
            injection this with this
            rw [this]; exact Hok.out
      · have hd : decide (okT x) = false := decide_eq_false hok
        have hno : decide (∀ x ∈ l, okT x) = false := decide_eq_false (fun h => hok (h x (List.mem_of_getElem? Hx.out)))
        have Hno := Lib.hid hno
        clear hok hno
        go_wp2_with (first
          | (go_at_call 63; (with_reducible refine (rightTime_any x _).mono ?_)
             rintro e w1 ⟨he, hb1⟩
             rw [hd] at he
             subst he
             have HB1 : Hid (Below w.heap.size w w1) := by rw [hb1]; exact HB.out
             clear hb1))
        go_ret
        exact ⟨ret_bool2 Hno.out.symm, HB1.out⟩
    · have hjn : l.take j = l := List.take_of_length_le (by have := Hl.out; omega)
      have hyes : decide (∀ x ∈ l, okT x) = true := decide_eq_true (by have := Hall.out; rwa [hjn] at this)
      have hi0 : ¬ (j : Int) < (n : Int) := by omega
      have Hyes := Lib.hid hyes
      clear hjn hyes
      go_wp2_with fail
      go_ret
      exact ⟨ret_bool2 Hyes.out.symm, hb⟩
end Go.Proofs.Ytcdgaeenfhpnkaa
