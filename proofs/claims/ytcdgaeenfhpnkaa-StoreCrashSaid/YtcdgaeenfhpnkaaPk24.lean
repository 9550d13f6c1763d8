/- Package store: Same. -/
import Derived.Test.YtcdgaeenfhpnkaaPk23
set_option linter.unusedVariables false
set_option linter.unusedSimpArgs false
set_option maxRecDepth 100000
namespace Go.Proofs.Ytcdgaeenfhpnkaa
open Go Go.RowKit
attribute [local go_sem] Oper.semAt_some

theorem take_eq {α : Type} {l m : List α} {j : Nat} {x : α} (h : l.take j = m.take j) (hx : l[j]? = some x) (hy : m[j]? = some x) : l.take (j + 1) = m.take (j + 1) := by
  rw [List.take_add_one, List.take_add_one, h, hx, hy]
theorem ne_at {α : Type} {l m : List α} {j : Nat} {x y : α} (hx : l[j]? = some x) (hy : m[j]? = some y) (h : x ≠ y) : l ≠ m := by
  rintro rfl
  rw [hx] at hy
  exact h (Option.some.inj hy)
theorem lt_go (a b : Lt) : a = b ∨ a ≠ b ∧ (a.set == b.set) = false ∨ a ≠ b ∧ a.set = b.set ∧ (a.at_ == b.at_) = false ∨ a ≠ b ∧ a.set = b.set ∧ a.at_ = b.at_ ∧ (a.first == b.first) = false := by
  obtain ⟨s, t, f⟩ := a
  obtain ⟨s', t', f'⟩ := b
  by_cases h1 : s = s'
  · by_cases h2 : t = t'
    · by_cases h3 : f = f'
      · exact .inl (by rw [h1, h2, h3])
      · exact .inr (.inr (.inr ⟨fun e => h3 (congrArg Lt.first e), h1, h2, beq_eq_false_iff_ne.2 h3⟩))
    · exact .inr (.inr (.inl ⟨fun e => h2 (congrArg Lt.at_ e), h1, beq_eq_false_iff_ne.2 h2⟩))
  · exact .inr (.inl ⟨fun e => h1 (congrArg Lt.set e), beq_eq_false_iff_ne.2 h1⟩)
theorem nt_go (a b : Nt) : a = b ∨ a ≠ b ∧ (a.kind == b.kind) = false ∨ a ≠ b ∧ a.kind = b.kind ∧ (a.who == b.who) = false ∨ a ≠ b ∧ a.kind = b.kind ∧ a.who = b.who ∧ (a.at_ == b.at_) = false := by
  obtain ⟨s, t, f⟩ := a
  obtain ⟨s', t', f'⟩ := b
  by_cases h1 : s = s'
  · by_cases h2 : t = t'
    · by_cases h3 : f = f'
      · exact .inl (by rw [h1, h2, h3])
      · exact .inr (.inr (.inr ⟨fun e => h3 (congrArg Nt.at_ e), h1, h2, beq_eq_false_iff_ne.2 h3⟩))
    · exact .inr (.inr (.inl ⟨fun e => h2 (congrArg Nt.who e), h1, beq_eq_false_iff_ne.2 h2⟩))
  · exact .inr (.inl ⟨fun e => h1 (congrArg Nt.kind e), beq_eq_false_iff_ne.2 h1⟩)
theorem z_go (a b : Int) : a = b ∨ a ≠ b ∧ (a == b) = false := by
  by_cases h : a = b
  · exact .inl h
  · exact .inr ⟨h, beq_eq_false_iff_ne.2 h⟩
set_option maxHeartbeats 8000000 in
theorem same_lt (A1 A2 : Option Addr) (n1 n2 c1 c2 : Nat) (l1 l2 : List Lt) (w : World) (h1 : RdS Lt.cells w w.heap.size 3 A1 n1 l1) (h2 : RdS Lt.cells w w.heap.size 3 A2 n2 l2) (hn1 : n1 ≤ maxLen) (hn2 : n2 ≤ maxLen) :
    Calls Try.prog 46 #[.slice A1 n1 c1, .slice A2 n2 c2] w fun e w' => e = .returned (.bool (decide (l1 = l2))) ∧ Below w.heap.size w w' := by
  have hl1 : l1.length = n1 := h1.1
  have hl2 : l2.length = n2 := h2.1
  have hm1 : n1 ≤ 9223372036854775807 := by unfold maxLen at hn1; omega
  have hm2 : n2 ≤ 9223372036854775807 := by unfold maxLen at hn2; omega
  have H1 := Lib.hid h1
  have H2 := Lib.hid h2
  have Hl1 := Lib.hid hl1
  have Hl2 := Lib.hid hl2
  clear h1 h2 hl1 hl2
  by_cases hne : n1 = n2
  rotate_left
  · have hno : decide (l1 = l2) = false := decide_eq_false (fun e => hne (by have := Hl1.out; have := Hl2.out; rw [e] at *; omega))
    have Hno := Lib.hid hno
    have hne' : ((n1 : Int) == (n2 : Int)) = false := beq_eq_false_iff_ne.2 (by omega)
    clear hno
    go_enter Try.func46, Try.ntmps46
    go_wp2_with fail
    go_ret
    exact ⟨ret_bool2 Hno.out.symm, Below.refl _ _⟩
  subst hne
  go_enter Try.func46, Try.ntmps46
  go_wp2_with fail
  go_loopg [5] n1 (fun k i wr => ∃ (j : Nat), k + j = n1 ∧ i = .int .i64 j ∧ Below w.heap.size w wr ∧ l1.take j = l2.take j)
  case atStart => exact ⟨0, by omega, rfl, Below.refl _ _, by simp⟩
  case round =>
    obtain ⟨j, hj, rfl, hb, ht⟩ := hrel
    have Ht := Lib.hid ht
    clear ht
    by_cases hlt : j < n1
    · have hi0 : (0 : Int) ≤ (j : Int) := by omega
      have hi1 : (j : Int) < (n1 : Int) := by omega
      obtain ⟨g1, o1, rfl, hb1, k1⟩ := H1.out.2 (by omega)
      obtain ⟨g2, o2, rfl, hb2, k2⟩ := H2.out.2 (by omega)
      obtain ⟨x, hx⟩ : ∃ x, l1[j]? = some x := ⟨_, List.getElem?_eq_getElem (by have := Hl1.out; omega)⟩
      obtain ⟨y, hy⟩ : ∃ y, l2[j]? = some y := ⟨_, List.getElem?_eq_getElem (by have := Hl2.out; omega)⟩
      have x0 := k1 j x hx 0 _ rfl
      have x1 := k1 j x hx 1 _ rfl
      have x2 := k1 j x hx 2 _ rfl
      rw [Nat.add_zero] at x0
      have ux0 := (hb.drew.cell (p := ⟨g1, o1 + j * 3, none⟩) hb1).trans x0
      have ux1 := (hb.drew.cell (p := ⟨g1, o1 + j * 3 + 1, none⟩) hb1).trans x1
      have ux2 := (hb.drew.cell (p := ⟨g1, o1 + j * 3 + 2, none⟩) hb1).trans x2
      clear x0 x1 x2
      have y0 := k2 j y hy 0 _ rfl
      have y1 := k2 j y hy 1 _ rfl
      have y2 := k2 j y hy 2 _ rfl
      rw [Nat.add_zero] at y0
      have uy0 := (hb.drew.cell (p := ⟨g2, o2 + j * 3, none⟩) hb2).trans y0
      have uy1 := (hb.drew.cell (p := ⟨g2, o2 + j * 3 + 1, none⟩) hb2).trans y1
      have uy2 := (hb.drew.cell (p := ⟨g2, o2 + j * 3 + 2, none⟩) hb2).trans y2
      clear y0 y1 y2
      try dsimp only at ux0 ux1 ux2 uy0 uy1 uy2
      have Hx := Lib.hid hx
      have Hy := Lib.hid hy
      have Hb := Lib.hid hb.drew
      clear hx hy hb k1 k2
      have HQ : Hid (wr.drew.cell? ⟨g1, o1 + j * 3, none⟩ = some (.bool x.set) ∧ wr.drew.cell? ⟨g1, o1 + j * 3 + 1, none⟩ = some (.int .i64 x.at_) ∧ wr.drew.cell? ⟨g1, o1 + j * 3 + 2, none⟩ = some (.bool x.first) ∧ wr.drew.cell? ⟨g2, o2 + j * 3, none⟩ = some (.bool y.set) ∧ wr.drew.cell? ⟨g2, o2 + j * 3 + 1, none⟩ = some (.int .i64 y.at_) ∧ wr.drew.cell? ⟨g2, o2 + j * 3 + 2, none⟩ = some (.bool y.first)) := ⟨ux0, ux1, ux2, uy0, uy1, uy2⟩
      clear ux0 ux1 ux2 uy0 uy1 uy2
      rcases lt_go x y with rfl | ⟨hd, q0⟩ | ⟨hd, q0, q1⟩ | ⟨hd, q0, q1, q2⟩
      · go_wp2_with fail
        refine sk (fun w' => w'.cell? ⟨g1, o1 + j * 3, none⟩ = some (.bool x.set) ∧ w'.cell? ⟨g1, o1 + j * 3 + 1, none⟩ = some (.int .i64 x.at_) ∧ w'.cell? ⟨g1, o1 + j * 3 + 2, none⟩ = some (.bool x.first) ∧ w'.cell? ⟨g2, o2 + j * 3, none⟩ = some (.bool x.set) ∧ w'.cell? ⟨g2, o2 + j * 3 + 1, none⟩ = some (.int .i64 x.at_) ∧ w'.cell? ⟨g2, o2 + j * 3 + 2, none⟩ = some (.bool x.first)) 9 ?_ (fun hHeld => ?_)
        · (exact HQ.out)
        refine tk 0 17 hHeld ?_
        refine tk 1 18 hHeld ?_
        refine tk 2 19 hHeld ?_
        refine tk 3 20 hHeld ?_
        refine tk 4 21 hHeld ?_
        refine tk 5 22 hHeld ?_
        refine tk 6 23 hHeld ?_
        refine tk 7 24 hHeld ?_
        refine tk 8 25 hHeld ?_
        refine wpAnyH_done (by kernel_rfl) ?_ _
        refine NoPanic.normal ?_
        go_wp2_with fail
        go_roundg (gk - 1)
        case measure => omega
        case rel => exact ⟨j + 1, by omega, by go_num, Hb.out, take_eq Ht.out Hx.out Hy.out⟩
      · have Hno : Hid (decide (l1 = l2) = false) := decide_eq_false (ne_at Hx.out Hy.out hd)
        clear hd
        go_wp2_with fail
        refine sk (fun w' => w'.cell? ⟨g1, o1 + j * 3, none⟩ = some (.bool x.set) ∧ w'.cell? ⟨g1, o1 + j * 3 + 1, none⟩ = some (.int .i64 x.at_) ∧ w'.cell? ⟨g1, o1 + j * 3 + 2, none⟩ = some (.bool x.first) ∧ w'.cell? ⟨g2, o2 + j * 3, none⟩ = some (.bool y.set) ∧ w'.cell? ⟨g2, o2 + j * 3 + 1, none⟩ = some (.int .i64 y.at_) ∧ w'.cell? ⟨g2, o2 + j * 3 + 2, none⟩ = some (.bool y.first)) 9 ?_ (fun hHeld => ?_)
        · (exact HQ.out)
        refine tk 0 17 hHeld ?_
        refine tk 1 18 hHeld ?_
        refine tk 2 19 hHeld ?_
        refine tk 3 20 hHeld ?_
        refine tk 4 21 hHeld ?_
        refine tk 5 22 hHeld ?_
        refine tk 6 23 hHeld ?_
        refine tk 7 24 hHeld ?_
        refine tk 8 25 hHeld ?_
        refine wpAnyH_done (by kernel_rfl) ?_ _
        refine NoPanic.normal ?_
        go_wp2_with fail
        go_ret
        exact ⟨ret_bool2 Hno.out.symm, Hb.out⟩
      · have Hno : Hid (decide (l1 = l2) = false) := decide_eq_false (ne_at Hx.out Hy.out hd)
        clear hd
        go_wp2_with fail
        refine sk (fun w' => w'.cell? ⟨g1, o1 + j * 3, none⟩ = some (.bool x.set) ∧ w'.cell? ⟨g1, o1 + j * 3 + 1, none⟩ = some (.int .i64 x.at_) ∧ w'.cell? ⟨g1, o1 + j * 3 + 2, none⟩ = some (.bool x.first) ∧ w'.cell? ⟨g2, o2 + j * 3, none⟩ = some (.bool y.set) ∧ w'.cell? ⟨g2, o2 + j * 3 + 1, none⟩ = some (.int .i64 y.at_) ∧ w'.cell? ⟨g2, o2 + j * 3 + 2, none⟩ = some (.bool y.first)) 9 ?_ (fun hHeld => ?_)
        · (exact HQ.out)
        refine tk 0 17 hHeld ?_
        refine tk 1 18 hHeld ?_
        refine tk 2 19 hHeld ?_
        refine tk 3 20 hHeld ?_
        refine tk 4 21 hHeld ?_
        refine tk 5 22 hHeld ?_
        refine tk 6 23 hHeld ?_
        refine tk 7 24 hHeld ?_
        refine tk 8 25 hHeld ?_
        refine wpAnyH_done (by kernel_rfl) ?_ _
        refine NoPanic.normal ?_
        go_wp2_with fail
        go_ret
        exact ⟨ret_bool2 Hno.out.symm, Hb.out⟩
      · have Hno : Hid (decide (l1 = l2) = false) := decide_eq_false (ne_at Hx.out Hy.out hd)
        clear hd
        go_wp2_with fail
        refine sk (fun w' => w'.cell? ⟨g1, o1 + j * 3, none⟩ = some (.bool x.set) ∧ w'.cell? ⟨g1, o1 + j * 3 + 1, none⟩ = some (.int .i64 x.at_) ∧ w'.cell? ⟨g1, o1 + j * 3 + 2, none⟩ = some (.bool x.first) ∧ w'.cell? ⟨g2, o2 + j * 3, none⟩ = some (.bool y.set) ∧ w'.cell? ⟨g2, o2 + j * 3 + 1, none⟩ = some (.int .i64 y.at_) ∧ w'.cell? ⟨g2, o2 + j * 3 + 2, none⟩ = some (.bool y.first)) 9 ?_ (fun hHeld => ?_)
        · (exact HQ.out)
        refine tk 0 17 hHeld ?_
        refine tk 1 18 hHeld ?_
        refine tk 2 19 hHeld ?_
        refine tk 3 20 hHeld ?_
        refine tk 4 21 hHeld ?_
        refine tk 5 22 hHeld ?_
        refine tk 6 23 hHeld ?_
        refine tk 7 24 hHeld ?_
        refine tk 8 25 hHeld ?_
        refine wpAnyH_done (by kernel_rfl) ?_ _
        refine NoPanic.normal ?_
        go_wp2_with fail
        go_ret
        exact ⟨ret_bool2 Hno.out.symm, Hb.out⟩
    · have hi0 : ¬ (j : Int) < (n1 : Int) := by omega
      have hyes : decide (l1 = l2) = true := by
        have := Ht.out
        rw [List.take_of_length_le (by have := Hl1.out; omega), List.take_of_length_le (by have := Hl2.out; omega)] at this
        exact decide_eq_true this
      have Hyes := Lib.hid hyes
      clear hyes
      go_wp2_with fail
      go_ret
      exact ⟨ret_bool2 Hyes.out.symm, hb⟩
set_option maxHeartbeats 8000000 in
theorem same_nt (A1 A2 : Option Addr) (n1 n2 c1 c2 : Nat) (l1 l2 : List Nt) (w : World) (h1 : RdS Nt.cells w w.heap.size 3 A1 n1 l1) (h2 : RdS Nt.cells w w.heap.size 3 A2 n2 l2) (hn1 : n1 ≤ maxLen) (hn2 : n2 ≤ maxLen) :
    Calls Try.prog 18 #[.slice A1 n1 c1, .slice A2 n2 c2] w fun e w' => e = .returned (.bool (decide (l1 = l2))) ∧ Below w.heap.size w w' := by
  have hl1 : l1.length = n1 := h1.1
  have hl2 : l2.length = n2 := h2.1
  have hm1 : n1 ≤ 9223372036854775807 := by unfold maxLen at hn1; omega
  have hm2 : n2 ≤ 9223372036854775807 := by unfold maxLen at hn2; omega
  have H1 := Lib.hid h1
  have H2 := Lib.hid h2
  have Hl1 := Lib.hid hl1
  have Hl2 := Lib.hid hl2
  clear h1 h2 hl1 hl2
  by_cases hne : n1 = n2
  rotate_left
  · have hno : decide (l1 = l2) = false := decide_eq_false (fun e => hne (by have := Hl1.out; have := Hl2.out; rw [e] at *; omega))
    have Hno := Lib.hid hno
    have hne' : ((n1 : Int) == (n2 : Int)) = false := beq_eq_false_iff_ne.2 (by omega)
    clear hno
    go_enter Try.func18, Try.ntmps18
    go_wp2_with fail
    go_ret
    exact ⟨ret_bool2 Hno.out.symm, Below.refl _ _⟩
  subst hne
  go_enter Try.func18, Try.ntmps18
  go_wp2_with fail
  go_loopg [5] n1 (fun k i wr => ∃ (j : Nat), k + j = n1 ∧ i = .int .i64 j ∧ Below w.heap.size w wr ∧ l1.take j = l2.take j)
  case atStart => exact ⟨0, by omega, rfl, Below.refl _ _, by simp⟩
  case round =>
    obtain ⟨j, hj, rfl, hb, ht⟩ := hrel
    have Ht := Lib.hid ht
    clear ht
    by_cases hlt : j < n1
    · have hi0 : (0 : Int) ≤ (j : Int) := by omega
      have hi1 : (j : Int) < (n1 : Int) := by omega
      obtain ⟨g1, o1, rfl, hb1, k1⟩ := H1.out.2 (by omega)
      obtain ⟨g2, o2, rfl, hb2, k2⟩ := H2.out.2 (by omega)
      obtain ⟨x, hx⟩ : ∃ x, l1[j]? = some x := ⟨_, List.getElem?_eq_getElem (by have := Hl1.out; omega)⟩
      obtain ⟨y, hy⟩ : ∃ y, l2[j]? = some y := ⟨_, List.getElem?_eq_getElem (by have := Hl2.out; omega)⟩
      have x0 := k1 j x hx 0 _ rfl
      have x1 := k1 j x hx 1 _ rfl
      have x2 := k1 j x hx 2 _ rfl
      rw [Nat.add_zero] at x0
      have ux0 := (hb.drew.cell (p := ⟨g1, o1 + j * 3, none⟩) hb1).trans x0
      have ux1 := (hb.drew.cell (p := ⟨g1, o1 + j * 3 + 1, none⟩) hb1).trans x1
      have ux2 := (hb.drew.cell (p := ⟨g1, o1 + j * 3 + 2, none⟩) hb1).trans x2
      clear x0 x1 x2
      have y0 := k2 j y hy 0 _ rfl
      have y1 := k2 j y hy 1 _ rfl
      have y2 := k2 j y hy 2 _ rfl
      rw [Nat.add_zero] at y0
      have uy0 := (hb.drew.cell (p := ⟨g2, o2 + j * 3, none⟩) hb2).trans y0
      have uy1 := (hb.drew.cell (p := ⟨g2, o2 + j * 3 + 1, none⟩) hb2).trans y1
      have uy2 := (hb.drew.cell (p := ⟨g2, o2 + j * 3 + 2, none⟩) hb2).trans y2
      clear y0 y1 y2
      try dsimp only at ux0 ux1 ux2 uy0 uy1 uy2
      have Hx := Lib.hid hx
      have Hy := Lib.hid hy
      have Hb := Lib.hid hb.drew
      clear hx hy hb k1 k2
      have HQ : Hid (wr.drew.cell? ⟨g1, o1 + j * 3, none⟩ = some (.int .i64 x.kind) ∧ wr.drew.cell? ⟨g1, o1 + j * 3 + 1, none⟩ = some (.int .i64 x.who) ∧ wr.drew.cell? ⟨g1, o1 + j * 3 + 2, none⟩ = some (.int .i64 x.at_) ∧ wr.drew.cell? ⟨g2, o2 + j * 3, none⟩ = some (.int .i64 y.kind) ∧ wr.drew.cell? ⟨g2, o2 + j * 3 + 1, none⟩ = some (.int .i64 y.who) ∧ wr.drew.cell? ⟨g2, o2 + j * 3 + 2, none⟩ = some (.int .i64 y.at_)) := ⟨ux0, ux1, ux2, uy0, uy1, uy2⟩
      clear ux0 ux1 ux2 uy0 uy1 uy2
      rcases nt_go x y with rfl | ⟨hd, q0⟩ | ⟨hd, q0, q1⟩ | ⟨hd, q0, q1, q2⟩
      · go_wp2_with fail
        refine sk (fun w' => w'.cell? ⟨g1, o1 + j * 3, none⟩ = some (.int .i64 x.kind) ∧ w'.cell? ⟨g1, o1 + j * 3 + 1, none⟩ = some (.int .i64 x.who) ∧ w'.cell? ⟨g1, o1 + j * 3 + 2, none⟩ = some (.int .i64 x.at_) ∧ w'.cell? ⟨g2, o2 + j * 3, none⟩ = some (.int .i64 x.kind) ∧ w'.cell? ⟨g2, o2 + j * 3 + 1, none⟩ = some (.int .i64 x.who) ∧ w'.cell? ⟨g2, o2 + j * 3 + 2, none⟩ = some (.int .i64 x.at_)) 9 ?_ (fun hHeld => ?_)
        · (exact HQ.out)
        refine tk 0 17 hHeld ?_
        refine tk 1 18 hHeld ?_
        refine tk 2 19 hHeld ?_
        refine tk 3 20 hHeld ?_
        refine tk 4 21 hHeld ?_
        refine tk 5 22 hHeld ?_
        refine tk 6 23 hHeld ?_
        refine tk 7 24 hHeld ?_
        refine tk 8 25 hHeld ?_
        refine wpAnyH_done (by kernel_rfl) ?_ _
        refine NoPanic.normal ?_
        go_wp2_with fail
        go_roundg (gk - 1)
        case measure => omega
        case rel => exact ⟨j + 1, by omega, by go_num, Hb.out, take_eq Ht.out Hx.out Hy.out⟩
      · have Hno : Hid (decide (l1 = l2) = false) := decide_eq_false (ne_at Hx.out Hy.out hd)
        clear hd
        go_wp2_with fail
        refine sk (fun w' => w'.cell? ⟨g1, o1 + j * 3, none⟩ = some (.int .i64 x.kind) ∧ w'.cell? ⟨g1, o1 + j * 3 + 1, none⟩ = some (.int .i64 x.who) ∧ w'.cell? ⟨g1, o1 + j * 3 + 2, none⟩ = some (.int .i64 x.at_) ∧ w'.cell? ⟨g2, o2 + j * 3, none⟩ = some (.int .i64 y.kind) ∧ w'.cell? ⟨g2, o2 + j * 3 + 1, none⟩ = some (.int .i64 y.who) ∧ w'.cell? ⟨g2, o2 + j * 3 + 2, none⟩ = some (.int .i64 y.at_)) 9 ?_ (fun hHeld => ?_)
        · (exact HQ.out)
        refine tk 0 17 hHeld ?_
        refine tk 1 18 hHeld ?_
        refine tk 2 19 hHeld ?_
        refine tk 3 20 hHeld ?_
        refine tk 4 21 hHeld ?_
        refine tk 5 22 hHeld ?_
        refine tk 6 23 hHeld ?_
        refine tk 7 24 hHeld ?_
        refine tk 8 25 hHeld ?_
        refine wpAnyH_done (by kernel_rfl) ?_ _
        refine NoPanic.normal ?_
        go_wp2_with fail
        go_ret
        exact ⟨ret_bool2 Hno.out.symm, Hb.out⟩
      · have Hno : Hid (decide (l1 = l2) = false) := decide_eq_false (ne_at Hx.out Hy.out hd)
        clear hd
        go_wp2_with fail
        refine sk (fun w' => w'.cell? ⟨g1, o1 + j * 3, none⟩ = some (.int .i64 x.kind) ∧ w'.cell? ⟨g1, o1 + j * 3 + 1, none⟩ = some (.int .i64 x.who) ∧ w'.cell? ⟨g1, o1 + j * 3 + 2, none⟩ = some (.int .i64 x.at_) ∧ w'.cell? ⟨g2, o2 + j * 3, none⟩ = some (.int .i64 y.kind) ∧ w'.cell? ⟨g2, o2 + j * 3 + 1, none⟩ = some (.int .i64 y.who) ∧ w'.cell? ⟨g2, o2 + j * 3 + 2, none⟩ = some (.int .i64 y.at_)) 9 ?_ (fun hHeld => ?_)
        · (exact HQ.out)
        refine tk 0 17 hHeld ?_
        refine tk 1 18 hHeld ?_
        refine tk 2 19 hHeld ?_
        refine tk 3 20 hHeld ?_
        refine tk 4 21 hHeld ?_
        refine tk 5 22 hHeld ?_
        refine tk 6 23 hHeld ?_
        refine tk 7 24 hHeld ?_
        refine tk 8 25 hHeld ?_
        refine wpAnyH_done (by kernel_rfl) ?_ _
        refine NoPanic.normal ?_
        go_wp2_with fail
        go_ret
        exact ⟨ret_bool2 Hno.out.symm, Hb.out⟩
      · have Hno : Hid (decide (l1 = l2) = false) := decide_eq_false (ne_at Hx.out Hy.out hd)
        clear hd
        go_wp2_with fail
        refine sk (fun w' => w'.cell? ⟨g1, o1 + j * 3, none⟩ = some (.int .i64 x.kind) ∧ w'.cell? ⟨g1, o1 + j * 3 + 1, none⟩ = some (.int .i64 x.who) ∧ w'.cell? ⟨g1, o1 + j * 3 + 2, none⟩ = some (.int .i64 x.at_) ∧ w'.cell? ⟨g2, o2 + j * 3, none⟩ = some (.int .i64 y.kind) ∧ w'.cell? ⟨g2, o2 + j * 3 + 1, none⟩ = some (.int .i64 y.who) ∧ w'.cell? ⟨g2, o2 + j * 3 + 2, none⟩ = some (.int .i64 y.at_)) 9 ?_ (fun hHeld => ?_)
        · (exact HQ.out)
        refine tk 0 17 hHeld ?_
        refine tk 1 18 hHeld ?_
        refine tk 2 19 hHeld ?_
        refine tk 3 20 hHeld ?_
        refine tk 4 21 hHeld ?_
        refine tk 5 22 hHeld ?_
        refine tk 6 23 hHeld ?_
        refine tk 7 24 hHeld ?_
        refine tk 8 25 hHeld ?_
        refine wpAnyH_done (by kernel_rfl) ?_ _
        refine NoPanic.normal ?_
        go_wp2_with fail
        go_ret
        exact ⟨ret_bool2 Hno.out.symm, Hb.out⟩
    · have hi0 : ¬ (j : Int) < (n1 : Int) := by omega
      have hyes : decide (l1 = l2) = true := by
        have := Ht.out
        rw [List.take_of_length_le (by have := Hl1.out; omega), List.take_of_length_le (by have := Hl2.out; omega)] at this
        exact decide_eq_true this
      have Hyes := Lib.hid hyes
      clear hyes
      go_wp2_with fail
      go_ret
      exact ⟨ret_bool2 Hyes.out.symm, hb⟩
set_option maxHeartbeats 8000000 in
theorem same_i64 (A1 A2 : Option Addr) (n1 n2 c1 c2 : Nat) (l1 l2 : List Int) (w : World) (h1 : RdS ivw w w.heap.size 1 A1 n1 l1) (h2 : RdS ivw w w.heap.size 1 A2 n2 l2) (hn1 : n1 ≤ maxLen) (hn2 : n2 ≤ maxLen) :
    Calls Try.prog 47 #[.slice A1 n1 c1, .slice A2 n2 c2] w fun e w' => e = .returned (.bool (decide (l1 = l2))) ∧ Below w.heap.size w w' := by
  have hl1 : l1.length = n1 := h1.1
  have hl2 : l2.length = n2 := h2.1
  have hm1 : n1 ≤ 9223372036854775807 := by unfold maxLen at hn1; omega
  have hm2 : n2 ≤ 9223372036854775807 := by unfold maxLen at hn2; omega
  have H1 := Lib.hid h1
  have H2 := Lib.hid h2
  have Hl1 := Lib.hid hl1
  have Hl2 := Lib.hid hl2
  clear h1 h2 hl1 hl2
  by_cases hne : n1 = n2
  rotate_left
  · have hno : decide (l1 = l2) = false := decide_eq_false (fun e => hne (by have := Hl1.out; have := Hl2.out; rw [e] at *; omega))
    have Hno := Lib.hid hno
    have hne' : ((n1 : Int) == (n2 : Int)) = false := beq_eq_false_iff_ne.2 (by omega)
    clear hno
    go_enter Try.func47, Try.ntmps47
    go_wp2_with fail
    go_ret
    exact ⟨ret_bool2 Hno.out.symm, Below.refl _ _⟩
  subst hne
  go_enter Try.func47, Try.ntmps47
  go_wp2_with fail
  go_loopg [5] n1 (fun k i wr => ∃ (j : Nat), k + j = n1 ∧ i = .int .i64 j ∧ Below w.heap.size w wr ∧ l1.take j = l2.take j)
  case atStart => exact ⟨0, by omega, rfl, Below.refl _ _, by simp⟩
  case round =>
    obtain ⟨j, hj, rfl, hb, ht⟩ := hrel
    have Ht := Lib.hid ht
    clear ht
    by_cases hlt : j < n1
    · have hi0 : (0 : Int) ≤ (j : Int) := by omega
      have hi1 : (j : Int) < (n1 : Int) := by omega
      obtain ⟨g1, o1, rfl, hb1, k1⟩ := H1.out.2 (by omega)
      obtain ⟨g2, o2, rfl, hb2, k2⟩ := H2.out.2 (by omega)
      obtain ⟨x, hx⟩ : ∃ x, l1[j]? = some x := ⟨_, List.getElem?_eq_getElem (by have := Hl1.out; omega)⟩
      obtain ⟨y, hy⟩ : ∃ y, l2[j]? = some y := ⟨_, List.getElem?_eq_getElem (by have := Hl2.out; omega)⟩
      have x0 := k1 j x hx 0 _ rfl
      rw [Nat.add_zero] at x0
      rw [Nat.mul_one] at x0
      have ux0 := (hb.drew.cell (p := ⟨g1, o1 + j, none⟩) hb1).trans x0
      clear x0
      have y0 := k2 j y hy 0 _ rfl
      rw [Nat.add_zero] at y0
      rw [Nat.mul_one] at y0
      have uy0 := (hb.drew.cell (p := ⟨g2, o2 + j, none⟩) hb2).trans y0
      clear y0
      try dsimp only at ux0 uy0
      have Hx := Lib.hid hx
      have Hy := Lib.hid hy
      have Hb := Lib.hid hb.drew
      clear hx hy hb k1 k2
      have HQ : Hid (wr.drew.cell? ⟨g1, o1 + j, none⟩ = some (.int .i64 x) ∧ wr.drew.cell? ⟨g2, o2 + j, none⟩ = some (.int .i64 y)) := ⟨ux0, uy0⟩
      clear ux0 uy0
      rcases z_go x y with rfl | ⟨hd, q0⟩
      · go_wp2_with fail
        refine sk (fun w' => w'.cell? ⟨g1, o1 + j, none⟩ = some (.int .i64 x) ∧ w'.cell? ⟨g2, o2 + j, none⟩ = some (.int .i64 x)) 9 ?_ (fun hHeld => ?_)
        · (exact HQ.out)
        refine tk 0 17 hHeld ?_
        refine tk 1 18 hHeld ?_
        refine tk 2 19 hHeld ?_
        refine tk 3 20 hHeld ?_
        refine tk 4 21 hHeld ?_
        refine tk 5 22 hHeld ?_
        refine tk 6 23 hHeld ?_
        refine tk 7 24 hHeld ?_
        refine tk 8 25 hHeld ?_
        refine wpAnyH_done (by kernel_rfl) ?_ _
        refine NoPanic.normal ?_
        go_wp2_with fail
        go_roundg (gk - 1)
        case measure => omega
        case rel => exact ⟨j + 1, by omega, by go_num, Hb.out, take_eq Ht.out Hx.out Hy.out⟩
      · have Hno : Hid (decide (l1 = l2) = false) := decide_eq_false (ne_at Hx.out Hy.out hd)
        clear hd
        go_wp2_with fail
        refine sk (fun w' => w'.cell? ⟨g1, o1 + j, none⟩ = some (.int .i64 x) ∧ w'.cell? ⟨g2, o2 + j, none⟩ = some (.int .i64 y)) 9 ?_ (fun hHeld => ?_)
        · (exact HQ.out)
        refine tk 0 17 hHeld ?_
        refine tk 1 18 hHeld ?_
        refine tk 2 19 hHeld ?_
        refine tk 3 20 hHeld ?_
        refine tk 4 21 hHeld ?_
        refine tk 5 22 hHeld ?_
        refine tk 6 23 hHeld ?_
        refine tk 7 24 hHeld ?_
        refine tk 8 25 hHeld ?_
        refine wpAnyH_done (by kernel_rfl) ?_ _
        refine NoPanic.normal ?_
        go_wp2_with fail
        go_ret
        exact ⟨ret_bool2 Hno.out.symm, Hb.out⟩
    · have hi0 : ¬ (j : Int) < (n1 : Int) := by omega
      have hyes : decide (l1 = l2) = true := by
        have := Ht.out
        rw [List.take_of_length_le (by have := Hl1.out; omega), List.take_of_length_le (by have := Hl2.out; omega)] at this
        exact decide_eq_true this
      have Hyes := Lib.hid hyes
      clear hyes
      go_wp2_with fail
      go_ret
      exact ⟨ret_bool2 Hyes.out.symm, hb⟩
theorem st_go (a b : St) (l m : List Nt) : (decide (a.causes = b.causes) = false ∧ decide (a = b ∧ l = m) = false) ∨ (decide (a.causes = b.causes) = true ∧ decide (a.effects = b.effects) = false ∧ decide (a = b ∧ l = m) = false) ∨
    (decide (a.causes = b.causes) = true ∧ decide (a.effects = b.effects) = true ∧ decide (a.ends = b.ends) = false ∧ decide (a = b ∧ l = m) = false) ∨
    (decide (a.causes = b.causes) = true ∧ decide (a.effects = b.effects) = true ∧ decide (a.ends = b.ends) = true ∧ decide (l = m) = decide (a = b ∧ l = m)) := by
  obtain ⟨a1, a2, a3⟩ := a
  obtain ⟨b1, b2, b3⟩ := b
  by_cases h1 : a1 = b1
  · by_cases h2 : a2 = b2
    · by_cases h3 : a3 = b3
      · subst h1 h2 h3
        exact .inr (.inr (.inr ⟨by simp, by simp, by simp, by simp⟩))
      · exact .inr (.inr (.inl ⟨by simp [h1], by simp [h2], by simp [h3], decide_eq_false (fun e => h3 (congrArg St.ends e.1))⟩))
    · exact .inr (.inl ⟨by simp [h1], by simp [h2], decide_eq_false (fun e => h2 (congrArg St.effects e.1))⟩)
  · exact .inl ⟨by simp [h1], decide_eq_false (fun e => h1 (congrArg St.causes e.1))⟩
set_option maxHeartbeats 8000000 in
theorem same22_any (v1 v2 : StV) (s1 s2 : St) (A1 A2 : Option Addr) (n1 n2 c1 c2 : Nat) (l1 l2 : List Nt) (w : World) (h1 : StR w w.heap.size v1 s1) (h2 : StR w w.heap.size v2 s2) (h3 : RdS Nt.cells w w.heap.size 3 A1 n1 l1) (h4 : RdS Nt.cells w w.heap.size 3 A2 n2 l2) (hn1 : n1 ≤ maxLen) (hn2 : n2 ≤ maxLen) :
    Calls Try.prog 14 #[.agg #[.slice v1.A1 v1.n1 v1.c1, .slice v1.A2 v1.n2 v1.c2, .slice v1.A3 v1.n3 v1.c3], .slice A1 n1 c1, .agg #[.slice v2.A1 v2.n1 v2.c1, .slice v2.A2 v2.n2 v2.c2, .slice v2.A3 v2.n3 v2.c3], .slice A2 n2 c2] w fun e w' => e = .returned (.bool (decide (s1 = s2 ∧ l1 = l2))) ∧ Below w.heap.size w w' := by
  obtain ⟨P1, p1, q1, P2, p2, q2, P3, p3, q3⟩ := v1
  obtain ⟨R1, r1, t1, R2, r2, t2, R3, r3, t3⟩ := v2
  obtain ⟨wb, hwb⟩ : ∃ x, x = (w.alloc (.cells #[.slice P1 p1 q1, .slice P2 p2 q2, .slice P3 p3 q3] 25)).alloc (.cells #[.slice R1 r1 t1, .slice R2 r2 t2, .slice R3 r3 t3] 25) := ⟨_, rfl⟩
  have al : Below w.heap.size w wb := by
    rw [hwb]
    exact ((Below.refl _ w).alloc (Nat.le_refl _) _).alloc (by simp only [World.size_alloc]; omega) _
  have hzb : wb.heap.size = w.heap.size + 2 := by rw [hwb]; simp only [World.size_alloc]
  have hx1 : wb.heap[w.heap.size]? = some (.cells #[.slice P1 p1 q1, .slice P2 p2 q2, .slice P3 p3 q3] 25) := by
    rw [hwb]; exact heap_alloc_keep _ (heap_alloc_new w _)
  have hx2 : wb.heap[w.heap.size + 1]? = some (.cells #[.slice R1 r1 t1, .slice R2 r2 t2, .slice R3 r3 t3] 25) := by
    rw [hwb]
    have := heap_alloc_new (w.alloc (.cells #[.slice P1 p1 q1, .slice P2 p2 q2, .slice P3 p3 q3] 25)) (.cells #[.slice R1 r1 t1, .slice R2 r2 t2, .slice R3 r3 t3] 25)
    rw [World.size_alloc] at this
    exact this
  have hcs : ∀ W, Below wb.heap.size wb W → ((W.cell? ⟨w.heap.size, 0, none⟩ = some (.slice P1 p1 q1) ∧ W.cell? ⟨w.heap.size, 1, none⟩ = some (.slice P2 p2 q2) ∧ W.cell? ⟨w.heap.size, 2, none⟩ = some (.slice P3 p3 q3)) ∧ (W.cell? ⟨w.heap.size + 1, 0, none⟩ = some (.slice R1 r1 t1) ∧ W.cell? ⟨w.heap.size + 1, 1, none⟩ = some (.slice R2 r2 t2) ∧ W.cell? ⟨w.heap.size + 1, 2, none⟩ = some (.slice R3 r3 t3))) := fun W hW => by
    have b1 := (hW.block w.heap.size (by omega)).trans hx1
    have b2 := (hW.block (w.heap.size + 1) (by omega)).trans hx2
    have y0 := cell_of_row W w.heap.size 0 _ _ _ b1
    have y1 := cell_of_row W w.heap.size 1 _ _ _ b1
    have y2 := cell_of_row W w.heap.size 2 _ _ _ b1
    have x0 := cell_of_row W (w.heap.size + 1) 0 _ _ _ b2
    have x1 := cell_of_row W (w.heap.size + 1) 1 _ _ _ b2
    have x2 := cell_of_row W (w.heap.size + 1) 2 _ _ _ b2
    simp at y0 y1 y2 x0 x1 x2
    exact ⟨⟨y0, y1, y2⟩, x0, x1, x2⟩
  obtain ⟨⟨y0, y1, y2⟩, x0, x1, x2⟩ := hcs wb (Below.refl _ _)
  have K1 : Hid (∀ W, Below w.heap.size w W → StR W W.heap.size ⟨P1, p1, q1, P2, p2, q2, P3, p3, q3⟩ s1) := fun W hW => (h1.below hW).more hW.size
  have K2 : Hid (∀ W, Below w.heap.size w W → StR W W.heap.size ⟨R1, r1, t1, R2, r2, t2, R3, r3, t3⟩ s2) := fun W hW => (h2.below hW).more hW.size
  have K3 : Hid (∀ W, Below w.heap.size w W → RdS Nt.cells W W.heap.size 3 A1 n1 l1) := fun W hW => (h3.below hW).more hW.size
  have K4 : Hid (∀ W, Below w.heap.size w W → RdS Nt.cells W W.heap.size 3 A2 n2 l2) := fun W hW => (h4.below hW).more hW.size
  have m1 : p1 ≤ maxLen := Nat.le_trans h1.k1.1 h1.k1.2
  have m2 : p2 ≤ maxLen := Nat.le_trans h1.k2.1 h1.k2.2
  have m3 : p3 ≤ maxLen := Nat.le_trans h1.k3.1 h1.k3.2
  have o1 : r1 ≤ maxLen := Nat.le_trans h2.k1.1 h2.k1.2
  have o2 : r2 ≤ maxLen := Nat.le_trans h2.k2.1 h2.k2.2
  have o3 : r3 ≤ maxLen := Nat.le_trans h2.k3.1 h2.k3.2
  have Al := Lib.hid al
  have Hwb := Lib.hid hwb
  have Hcs := Lib.hid hcs
  have Bel := fun (W : World) (h : Below wb.heap.size wb W) => al.trans (h.mono (by omega))
  have HBel := Lib.hid Bel
  clear h1 h2 h3 h4 al hwb hzb hx1 hx2 hcs Bel
  rcases st_go s1 s2 l1 l2 with ⟨d1, dd⟩ | ⟨d1, d2, dd⟩ | ⟨d1, d2, d3, dd⟩ | ⟨d1, d2, d3, dd⟩
  all_goals
    have D1 := Lib.hid d1
    have DD := Lib.hid dd
    try have D2 := Lib.hid d2
    try have D3 := Lib.hid d3
    clear d1 dd
    try clear d2
    try clear d3
    go_enter Try.func14, Try.ntmps14
    go_wp2_with (first
      | (rw [← Hwb.out]
         go_at_call 46; (with_reducible refine (same_lt P1 R1 p1 r1 q1 t1 s1.causes s2.causes _ (K1.out _ Al.out).r1 (K2.out _ Al.out).r1 m1 o1).mono ?_)
         rintro e w1 ⟨he, hb1⟩
         rw [D1.out] at he
         subst he
         obtain ⟨⟨e0, e1, e2⟩, f0, f1, f2⟩ := Hcs.out w1 hb1
         have HB1 := Lib.hid hb1
         clear hb1 y0 y1 y2 x0 x1 x2)
      | (go_at_call 46; (with_reducible refine (same_lt P2 R2 p2 r2 q2 t2 s1.effects s2.effects _ (K1.out _ (HBel.out _ HB1.out)).r2 (K2.out _ (HBel.out _ HB1.out)).r2 m2 o2).mono ?_)
         rintro e w2 ⟨he, hb2⟩
         rw [D2.out] at he
         subst he
         have hb2' := HB1.out.trans (hb2.mono HB1.out.size)
         clear e0 e1 e2 f0 f1 f2
         obtain ⟨⟨e0, e1, e2⟩, f0, f1, f2⟩ := Hcs.out w2 hb2'
         have HB2 := Lib.hid hb2'
         clear hb2 hb2' HB1)
      | (go_at_call 47; (with_reducible refine (same_i64 P3 R3 p3 r3 q3 t3 s1.ends s2.ends _ (K1.out _ (HBel.out _ HB2.out)).r3 (K2.out _ (HBel.out _ HB2.out)).r3 m3 o3).mono ?_)
         rintro e w3 ⟨he, hb3⟩
         rw [D3.out] at he
         subst he
         have hb3' := HB2.out.trans (hb3.mono HB2.out.size)
         have HB3 := Lib.hid hb3'
         clear hb3 hb3' HB2 e0 e1 e2 f0 f1 f2)
      | (go_at_call 18; (with_reducible refine (same_nt A1 A2 n1 n2 c1 c2 l1 l2 _ (K3.out _ (HBel.out _ HB3.out)) (K4.out _ (HBel.out _ HB3.out)) hn1 hn2).mono ?_)
         rintro e w4 ⟨he, hb4⟩
         rw [DD.out] at he
         subst he
         have hb4' := HB3.out.trans (hb4.mono HB3.out.size)
         have HB4 := Lib.hid hb4'
         clear hb4 hb4' HB3))
    go_ret
    first
      | exact ⟨ret_bool2 DD.out.symm, HBel.out _ HB1.out⟩
      | exact ⟨ret_bool2 DD.out.symm, HBel.out _ HB2.out⟩
      | exact ⟨ret_bool2 DD.out.symm, HBel.out _ HB3.out⟩
      | exact ⟨ret_bool2 (Bool.decide_and _ _).symm, HBel.out _ HB4.out⟩
end Go.Proofs.Ytcdgaeenfhpnkaa
