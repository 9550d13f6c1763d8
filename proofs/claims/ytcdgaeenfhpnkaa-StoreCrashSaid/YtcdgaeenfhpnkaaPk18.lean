/- Reference of the store: what is right, bytes. -/
import Derived.Test.YtcdgaeenfhpnkaaPk17
set_option linter.unusedVariables false
set_option linter.unusedSimpArgs false
set_option maxRecDepth 100000
namespace Go.Proofs.Ytcdgaeenfhpnkaa
open Go Go.RowKit
attribute [local go_sem] Oper.semAt_some

theorem bytes_any (v : StV) (s : St) (A : Option Addr) (n c B : Nat) (l : List Nt) (w : World) (h : StR w B v s) (hr : RdS Nt.cells w B 3 A n l) (hn : n ≤ maxLen) (hB : B ≤ w.heap.size) :
    Calls Try.prog 12 #[.agg #[.slice v.A1 v.n1 v.c1, .slice v.A2 v.n2 v.c2, .slice v.A3 v.n3 v.c3], .slice A n c] w (NewPost w (bytesF s l)) := by
  unfold bytesF
  split
  · exact bytes_ok v s A n c B l w h hr hn hB ‹_›
  · exact bytes_no v s A n c B l w h hr hn hB ‹_›
theorem refTime_any (t : Int) (w : World) : Calls Try.prog 66 #[.int .i64 t] w fun e w' => e = .returned (.bool (decide (okT t))) ∧ w' = w := by
  have go : okT t ∨ ¬ 0 ≤ t ∧ ¬ okT t ∨ 0 ≤ t ∧ ¬ t ≤ 2199023255552 ∧ ¬ okT t := by unfold okT; omega
  rcases go with h | ⟨h1, h⟩ | ⟨h1, h2, h⟩
  · rw [decide_eq_true h]
    obtain ⟨h1, h2⟩ := h
    go_enter Try.func66, Try.ntmps66
    go_wp2_with fail
    go_ret
    exact ⟨by simp [h1, h2], rfl⟩
  · rw [decide_eq_false h]
    clear h
    go_enter Try.func66, Try.ntmps66
    go_wp2_with fail
    go_ret
    exact ⟨by simp, rfl⟩
  · rw [decide_eq_false h]
    clear h
    go_enter Try.func66, Try.ntmps66
    go_wp2_with fail
    go_ret
    exact ⟨by simp [h1], rfl⟩
theorem take_all {α : Type} {P : α → Prop} (l : List α) (j : Nat) (x : α) (hx : l[j]? = some x) (h : ∀ y ∈ l.take j, P y) (hp : P x) : ∀ y ∈ l.take (j + 1), P y := by
  intro y hy
  have hj := (List.getElem?_eq_some_iff.1 hx).1
  rw [List.take_succ_eq_append_getElem hj, (List.getElem?_eq_some_iff.1 hx).2, List.mem_append, List.mem_singleton] at hy
  rcases hy with hy | rfl
  · exact h y hy
  · exact hp
theorem latch_go (s : Bool) (t : Int) (f : Bool) : okL ⟨s, t, f⟩ ∧ decide (okT t) = true ∧ (s = true ∨ s = false ∧ t = 0 ∧ f = false) ∨ ¬ okL ⟨s, t, f⟩ ∧ (s = true ∧ decide (okT t) = false ∨ s = false ∧ (t == 0) = false ∨ s = false ∧ t = 0 ∧ f = true) := by
  cases s
  · by_cases h0 : t = 0
    · subst h0
      cases f
      · exact .inl ⟨by simp [okL], by decide, .inr ⟨rfl, rfl, rfl⟩⟩
      · exact .inr ⟨by simp [okL], .inr (.inr ⟨rfl, rfl, rfl⟩)⟩
    · exact .inr ⟨by simp [okL, h0], .inr (.inl ⟨rfl, by simpa using h0⟩)⟩
  · by_cases h0 : okT t
    · exact .inl ⟨by simpa [okL] using h0, decide_eq_true h0, .inl rfl⟩
    · exact .inr ⟨by simpa [okL] using h0, .inl ⟨rfl, decide_eq_false h0⟩⟩
set_option maxHeartbeats 2000000 in
theorem latches_any (A : Option Addr) (n c B : Nat) (l : List Lt) (w : World) (hr : RdS Lt.cells w B 3 A n l) (hn : n ≤ maxLen) :
    Calls Try.prog 67 #[.slice A n c] w fun e w' => e = .returned (.bool (decide (∀ x ∈ l, okL x) && decide (n ≤ 8))) ∧ Below w.heap.size w w' := by
  have hl : l.length = n := hr.1
  have hmax : n ≤ 9223372036854775807 := by unfold maxLen at hn; omega
  have Hr := Lib.hid hr
  have Hl := Lib.hid hl
  clear hr hl
  go_enter Try.func67, Try.ntmps67
  go_wp2_with fail
  go_loopg [3] n (fun k i wr => ∃ (j : Nat), k + j = n ∧ i = .int .i64 j ∧ (∀ x ∈ l.take j, okL x) ∧ wr = w)
  case atStart => exact ⟨0, by omega, rfl, by simp, rfl⟩
  case round =>
    obtain ⟨j, hj, rfl, hall, rfl⟩ := hrel
    have Hall := Lib.hid hall
    clear hall
    by_cases hlt : j < n
    · have hi0 : (0 : Int) ≤ (j : Int) := by omega
      have hi1 : (j : Int) < (n : Int) := by omega
      obtain ⟨bb, o, rfl, hbB, hc⟩ := Hr.out.2 (by omega)
      obtain ⟨x, hx⟩ : ∃ x, l[j]? = some x := ⟨_, List.getElem?_eq_getElem (by have := Hl.out; omega)⟩
      have k0 := hc j x hx 0 _ rfl
      have k1 := hc j x hx 1 _ rfl
      have k2 := hc j x hx 2 _ rfl
      rw [Nat.add_zero] at k0
      have Hx := Lib.hid hx
      clear hc hx
      obtain ⟨s, t, f⟩ := x
      dsimp only at k0 k1 k2
      have go : okL ⟨s, t, f⟩ ∧ decide (okT t) = true ∧ (s = true ∨ s = false ∧ t = 0 ∧ f = false) ∨ ¬ okL ⟨s, t, f⟩ ∧ (s = true ∧ decide (okT t) = false ∨ s = false ∧ (t == 0) = false ∨ s = false ∧ t = 0 ∧ f = true) := latch_go s t f
      rcases go with ⟨hok, hd, hs⟩ | ⟨hok, hs⟩
      · have Hok := Lib.hid hok
        clear hok
        rcases hs with rfl | ⟨rfl, rfl, rfl⟩
        all_goals
          have HD := Lib.hid hd
          clear hd
          go_wp2_with (first
            | (go_at_call 66; (with_reducible refine (refTime_any _ _).mono ?_)
               rintro e w1 ⟨he, rfl⟩
               rw [HD.out] at he
               subst he))
          go_roundg (gk - 1)
          case measure => omega
          case rel => exact ⟨j + 1, by omega, by go_num, take_all l j _ Hx.out Hall.out Hok.out, rfl⟩
      · have hno : (decide (∀ x ∈ l, okL x) && decide (n ≤ 8)) = false := by rw [decide_eq_false (fun h => hok (h _ (List.mem_of_getElem? Hx.out)))]; rfl
        have Hno := Lib.hid hno
        clear hok hno
        rcases hs with ⟨rfl, hd⟩ | ⟨rfl, h0⟩ | ⟨rfl, rfl, rfl⟩
        · have HD := Lib.hid hd
          clear hd
          go_wp2_with (first
            | (go_at_call 66; (with_reducible refine (refTime_any _ _).mono ?_)
               rintro e w1 ⟨he, rfl⟩
               rw [HD.out] at he
               subst he))
          go_ret
          exact ⟨ret_bool2 Hno.out.symm, Below.refl _ _⟩
        · have h0' : ¬ t = 0 := by simpa using h0
          go_wp2_with fail
          all_goals
            go_ret
            exact ⟨ret_bool2 Hno.out.symm, Below.refl _ _⟩
        · go_wp2_with fail
          go_ret
          exact ⟨ret_bool2 Hno.out.symm, Below.refl _ _⟩
    · have hi0 : ¬ (j : Int) < (n : Int) := by omega
      have hall : ∀ x ∈ l, okL x := by
        have := Hall.out
        rwa [List.take_of_length_le (by have := Hl.out; omega)] at this
      have hyes : (decide (∀ x ∈ l, okL x) && decide (n ≤ 8)) = decide ((n : Int) ≤ 8) := by
        rw [decide_eq_true hall, Bool.true_and]
        by_cases h8 : n ≤ 8
        · rw [decide_eq_true h8, decide_eq_true (by omega)]
        · rw [decide_eq_false h8, decide_eq_false (by omega)]
      have Hyes := Lib.hid hyes
      clear hall hyes
      go_wp2_with fail
      go_ret
      exact ⟨ret_bool2 Hyes.out.symm, Below.refl _ _⟩
/-! ### right -/
set_option maxHeartbeats 4000000 in
theorem right22_any (v : StV) (s : St) (A : Option Addr) (n c B : Nat) (l : List Nt) (w : World) (h : StR w B v s) (hr : RdS Nt.cells w B 3 A n l) (hn : n ≤ maxLen) (hB : B ≤ w.heap.size) :
    Calls Try.prog 43 #[.agg #[.slice v.A1 v.n1 v.c1, .slice v.A2 v.n2 v.c2, .slice v.A3 v.n3 v.c3], .slice A n c] w fun e w' => e = .returned (.bool (decide (okR s l))) ∧ Below w.heap.size w w' := by
  obtain ⟨A1, n1, c1, A2, n2, c2, A3, n3, c3⟩ := v
  have hl1 : s.causes.length = n1 := h.r1.1
  have hl2 : s.effects.length = n2 := h.r2.1
  have hl3 : s.ends.length = n3 := h.r3.1
  have hln : l.length = n := hr.1
  have hk1 := h.k1
  have hk2 := h.k2
  have hk3 := h.k3
  dsimp only at hk1 hk2 hk3
  have m1 : n1 ≤ maxLen := by omega
  have m2 : n2 ≤ maxLen := by omega
  have m3 : n3 ≤ 9223372036854775807 := by have := hk3.2; unfold maxLen at this; omega
  have m4 : n ≤ 9223372036854775807 := by unfold maxLen at hn; omega
  have al : Below w.heap.size w (w.alloc (.cells #[.slice A1 n1 c1, .slice A2 n2 c2, .slice A3 n3 c3] 25)) := (Below.refl _ _).alloc (Nat.le_refl _) _
  obtain ⟨wb, hwb⟩ : ∃ x, x = w.alloc (.cells #[.slice A1 n1 c1, .slice A2 n2 c2, .slice A3 n3 c3] 25) := ⟨_, rfl⟩
  rw [← hwb] at al
  have hbx : wb.heap[w.heap.size]? = some (.cells #[.slice A1 n1 c1, .slice A2 n2 c2, .slice A3 n3 c3] 25) := by rw [hwb]; exact heap_alloc_new _ _
  have hzb : wb.heap.size = w.heap.size + 1 := by rw [hwb]; simp
  have z0 := cell_of_row wb w.heap.size 0 _ _ _ hbx
  have z1 := cell_of_row wb w.heap.size 1 _ _ _ hbx
  have z2 := cell_of_row wb w.heap.size 2 _ _ _ hbx
  simp at z0 z1 z2
  have H := Lib.hid (h.below (al.mono hB))
  have Hr := Lib.hid (hr.below (al.mono hB))
  have Al := Lib.hid al
  have Hwb := Lib.hid hwb
  have Hzb := Lib.hid hzb
  have Hl1 := Lib.hid hl1
  have Hl2 := Lib.hid hl2
  have Hl3 := Lib.hid hl3
  have Hln := Lib.hid hln
  clear h hr al hwb hzb hbx hl1 hl2 hl3 hln hk1 hk2 hk3
  go_enter Try.func43, Try.ntmps43
  go_wp2_with fail
  rw [← Hwb.out]
  go_loopg [5] n3 (fun k i wr => ∃ (j : Nat), k + j = n3 ∧ i = .int .i64 j ∧ (∀ x ∈ s.ends.take j, okT x) ∧ wr = wb)
  case atStart => exact ⟨0, by omega, rfl, by simp, rfl⟩
  case round =>
    obtain ⟨j, hj, rfl, hall, rfl⟩ := hrel
    have Hall := Lib.hid hall
    clear hall
    by_cases hlt : j < n3
    · have hi0 : (0 : Int) ≤ (j : Int) := by omega
      have hi1 : (j : Int) < (n3 : Int) := by omega
      obtain ⟨bb, o, rfl, hbB, hc⟩ := H.out.r3.2 (by show 0 < n3; omega)
      obtain ⟨x, hx⟩ : ∃ x, s.ends[j]? = some x := ⟨_, List.getElem?_eq_getElem (by have := Hl3.out; omega)⟩
      have k0 := hc j x hx 0 _ rfl
      rw [Nat.add_zero, Nat.mul_one] at k0
      have Hx := Lib.hid hx
      clear hc hx
      by_cases hok : okT x
      · have HD := Lib.hid (decide_eq_true hok)
        have Hok := Lib.hid hok
        clear hok
        go_wp2_with (first
          | (go_at_call 66; (with_reducible refine (refTime_any _ _).mono ?_)
             rintro e w1 ⟨he, rfl⟩
             rw [HD.out] at he
             subst he))
        go_roundg (gk - 1)
        case measure => omega
        case rel => exact ⟨j + 1, by omega, by go_num, take_all s.ends j _ Hx.out Hall.out Hok.out, rfl⟩
      · have HD := Lib.hid (decide_eq_false hok)
        have hno : decide (okR s l) = false := decide_eq_false (fun h => hok (h.1.2.2.2.2.2 _ (List.mem_of_getElem? Hx.out)))
        have Hno := Lib.hid hno
        clear hok hno
        go_wp2_with (first
          | (go_at_call 66; (with_reducible refine (refTime_any _ _).mono ?_)
             rintro e w1 ⟨he, rfl⟩
             rw [HD.out] at he
             subst he))
        go_ret
        exact ⟨ret_bool2 Hno.out.symm, Al.out⟩
    · have hi0 : ¬ (j : Int) < (n3 : Int) := by omega
      have hall : ∀ x ∈ s.ends, okT x := by
        have := Hall.out
        rwa [List.take_of_length_le (by have := Hl3.out; omega)] at this
      have HT := Lib.hid hall
      clear hall Hall hlt hj
      go_wp2_with fail
      go_loopg [6] n (fun k i wr2 => ∃ (j : Nat), k + j = n ∧ i = .int .i64 j ∧ (∀ x ∈ l.take j, okN x) ∧ wr2 = wr)
      case atStart => exact ⟨0, by omega, rfl, by simp, rfl⟩
      case round =>
        obtain ⟨j, hj, rfl, hall, rfl⟩ := hrel
        have Hall := Lib.hid hall
        clear hall
        by_cases hlt : j < n
        · have hi0 : (0 : Int) ≤ (j : Int) := by omega
          have hi1 : (j : Int) < (n : Int) := by omega
          obtain ⟨bb, o, rfl, hbB, hc⟩ := Hr.out.2 (by omega)
          obtain ⟨x, hx⟩ : ∃ x, l[j]? = some x := ⟨_, List.getElem?_eq_getElem (by have := Hln.out; omega)⟩
          have k0 := hc j x hx 0 _ rfl
          have k1 := hc j x hx 1 _ rfl
          have k2 := hc j x hx 2 _ rfl
          rw [Nat.add_zero] at k0
          have Hx := Lib.hid hx
          clear hc hx
          obtain ⟨kd, wo, t⟩ := x
          dsimp only at k0 k1 k2
          by_cases hok : okN ⟨kd, wo, t⟩
          · have Hok := Lib.hid hok
            obtain ⟨y1, y2, y3, y4, y5⟩ := hok
            dsimp only at y1 y2 y3 y4 y5
            have HD := Lib.hid (decide_eq_true y5)
            have u1 : ¬ kd < 1 := by omega
            have u2 : ¬ 7 < kd := by omega
            have u3 : ¬ wo < 0 := by omega
            have u4 : ¬ 255 < wo := by omega
            clear y5
            go_wp2_with (first
              | (go_at_call 66; (with_reducible refine (refTime_any _ _).mono ?_)
                 rintro e w1 ⟨he, rfl⟩
                 rw [HD.out] at he
                 subst he))
            go_roundg (gk - 1)
            case measure => omega
            case rel => exact ⟨j + 1, by omega, by go_num, take_all l j _ Hx.out Hall.out Hok.out, rfl⟩
          · have hno : decide (okR s l) = false := decide_eq_false (fun h => hok (h.2.2 _ (List.mem_of_getElem? Hx.out)))
            have Hno := Lib.hid hno
            have go : kd < 1 ∨ ¬ kd < 1 ∧ 7 < kd ∨ ¬ kd < 1 ∧ ¬ 7 < kd ∧ wo < 0 ∨ ¬ kd < 1 ∧ ¬ 7 < kd ∧ ¬ wo < 0 ∧ 255 < wo ∨ ¬ kd < 1 ∧ ¬ 7 < kd ∧ ¬ wo < 0 ∧ ¬ 255 < wo ∧ decide (okT t) = false := by
              have hok' : ¬ (1 ≤ kd ∧ kd ≤ 7 ∧ 0 ≤ wo ∧ wo ≤ 255 ∧ okT t) := hok
              by_cases h5 : okT t
              · have : ¬ (1 ≤ kd ∧ kd ≤ 7 ∧ 0 ≤ wo ∧ wo ≤ 255) := fun h => hok' ⟨h.1, h.2.1, h.2.2.1, h.2.2.2, h5⟩
                omega
              · have := decide_eq_false h5
                rw [this]
                simp only [and_true]
                omega
            clear hok hno
            rcases go with u1 | ⟨u1, u2⟩ | ⟨u1, u2, u3⟩ | ⟨u1, u2, u3, u4⟩ | ⟨u1, u2, u3, u4, u5⟩
            all_goals
              try (have HD := Lib.hid u5; clear u5)
              go_wp2_with (first
                | (go_at_call 66; (with_reducible refine (refTime_any _ _).mono ?_)
                   rintro e w1 ⟨he, rfl⟩
                   rw [HD.out] at he
                   subst he))
              go_ret
              exact ⟨ret_bool2 Hno.out.symm, Al.out⟩
        · have hi0 : ¬ (j : Int) < (n : Int) := by omega
          have hall : ∀ x ∈ l, okN x := by
            have := Hall.out
            rwa [List.take_of_length_le (by have := Hln.out; omega)] at this
          have hR : decide (okR s l) = (decide (∀ x ∈ s.causes, okL x) && decide (n1 ≤ 8) && (decide (∀ x ∈ s.effects, okL x) && decide (n2 ≤ 8)) && decide (n3 = n1) && decide (n ≤ 32)) := by
            rw [Bool.eq_iff_iff]
            simp only [Bool.and_eq_true, decide_eq_true_eq, okR, okS, Hl1.out, Hl2.out, Hl3.out, Hln.out]
            have := HT.out
            constructor
            · rintro ⟨⟨a1, a2, a3, a4, a5, a6⟩, a7, a8⟩
              exact ⟨⟨⟨⟨a4, a1⟩, a5, a3⟩, a2⟩, a7⟩
            · rintro ⟨⟨⟨⟨a4, a1⟩, a5, a3⟩, a2⟩, a7⟩
              exact ⟨⟨a1, a2, a3, a4, a5, this⟩, a7, hall⟩
          have HR := Lib.hid hR
          clear hall Hall hlt hj hR HT
          obtain ⟨p1, hp1⟩ : ∃ b : Bool, b = (decide (∀ x ∈ s.causes, okL x) && decide (n1 ≤ 8)) := ⟨_, rfl⟩
          obtain ⟨p2, hp2⟩ : ∃ b : Bool, b = (decide (∀ x ∈ s.effects, okL x) && decide (n2 ≤ 8)) := ⟨_, rfl⟩
          obtain ⟨p3, hp3⟩ : ∃ b : Bool, b = ((n3 : Int) == (n1 : Int)) := ⟨_, rfl⟩
          have hp3' : decide (n3 = n1) = p3 := by
            rw [hp3, Bool.eq_iff_iff]; simp only [decide_eq_true_eq, beq_iff_eq]; omega
          have HRv : Hid (decide (okR s l) = (p1 && p2 && p3 && decide (n ≤ 32))) := by
            show _ = _
            rw [HR.out, hp3', hp1, hp2]
          have HP1 := Lib.hid hp1
          have HP2 := Lib.hid hp2
          clear HR hp1 hp2 hp3'
          have m2' : n2 ≤ 9223372036854775807 := by unfold maxLen at m2; omega
          cases p1 <;> cases p2 <;> cases p3
          all_goals
            have h32 : (n : Int) ≤ 32 ∨ ¬ (n : Int) ≤ 32 := by omega
            have t3 := hp3.symm
            clear hp3
            rcases h32 with h32 | h32
          all_goals
            go_wp2_with (first
              | (go_at_call 67; (with_reducible refine (latches_any A1 n1 c1 B s.causes _ H.out.r1 m1).mono ?_)
                 rintro e w1 ⟨he, hb1⟩
                 rw [← HP1.out] at he
                 subst he
                 have HB1 := Lib.hid hb1
                 have y1 := (hb1.cell (p := ⟨w.heap.size, 1, none⟩) (by have := Hzb.out; show w.heap.size < _; omega)).trans z1
                 have y2 := (hb1.cell (p := ⟨w.heap.size, 2, none⟩) (by have := Hzb.out; show w.heap.size < _; omega)).trans z2
                 have y0 := (hb1.cell (p := ⟨w.heap.size, 0, none⟩) (by have := Hzb.out; show w.heap.size < _; omega)).trans z0
                 clear hb1)
              | (go_at_call 67; (with_reducible refine (latches_any A2 n2 c2 B s.effects w1 (H.out.r2.below (HB1.out.mono (by have := Hzb.out; omega))) m2).mono ?_)
                 rintro e w2 ⟨he, hb2⟩
                 rw [← HP2.out] at he
                 subst he
                 have x2 := (hb2.cell (p := ⟨w.heap.size, 2, none⟩) (by have := Hzb.out; have := HB1.out.size; show w.heap.size < _; omega)).trans y2
                 have x0 := (hb2.cell (p := ⟨w.heap.size, 0, none⟩) (by have := Hzb.out; have := HB1.out.size; show w.heap.size < _; omega)).trans y0
                 have HB2 := Lib.hid (HB1.out.trans (hb2.mono HB1.out.size))
                 clear hb2))
            go_ret
            refine ⟨ret_bool2 ?_, ?_⟩
            · rw [HRv.out]
              first
                | rfl
                | (rw [decide_eq_true (by omega : n ≤ 32)]; rfl)
                | (rw [decide_eq_false (by omega : ¬ n ≤ 32)]; rfl)
                | (simp; omega)
            · first
                | exact Al.out.trans (HB2.out.mono Al.out.size)
                | exact Al.out.trans (HB1.out.mono Al.out.size)
end Go.Proofs.Ytcdgaeenfhpnkaa
/- Reference of the store: six bytes, a latch's. -/
set_option linter.unusedVariables false
set_option linter.unusedSimpArgs false
set_option maxRecDepth 100000
namespace Go.Proofs.Ytcdgaeenfhpnkaa
open Go Go.RowKit
attribute [local go_sem] Oper.semAt_some

theorem six_eq (t : Nat) (ht : t ≤ 2199023255552) : (#[Value.int .u8 ((t : Int) / 1099511627776), .int .u8 ((t : Int) / 4294967296 % 256), .int .u8 ((t : Int) / 16777216 % 256), .int .u8 ((t : Int) / 65536 % 256), .int .u8 ((t : Int) / 256 % 256), .int .u8 ((t : Int) % 256)] : Array Value) = ((six t).map bv).toArray := by
  simp only [six, bv, List.map_cons, List.map_nil]
  have e : (t : Int) / 1099511627776 = ((t / 1099511627776 % 256 : Nat) : Int) := by omega
  rw [e]
  rfl
set_option maxHeartbeats 1000000 in
theorem six22_any (base : Nat) (v : Value) (xs : List Nat) (t : Nat) (w : World) (ho : w.ownsRow base 5 1 v xs.length (xs.map bv)) (hb : base ≤ w.heap.size) (ht : t ≤ 2199023255552) (hx : xs.length ≤ 100000) :
    Calls Try.prog 45 #[v, .int .i64 t] w (RowPost base v w (xs ++ six t)) := by
  obtain ⟨A, c, rfl⟩ := own_shape ho
  have ht0 : (0 : Int) ≤ (t : Int) := by omega
  have ht1 : (t : Int) ≤ 2199023255552 := by omega
  have Ho := Lib.hid ho
  have He := Lib.hid (six_eq t ht)
  clear ho
  go_enter Try.func45, Try.ntmps45
  go_wp2_with (first
    | (with_reducible refine wpList_bytes (w0 := w) rfl (.tmp 5) (.tmp 23) rfl base (.slice A xs.length c) xs.length xs Ho.out rfl _ (six t) 6 rfl He.out rfl rfl (by omega) hb ?_
       intro v1 w1 hown1 hf1
       have hl1 : xs.length + 6 = (xs ++ six t).length := by rw [List.length_append]; rfl
       rw [hl1] at hown1
       have Hown1 := Lib.hid hown1
       have Hf1 := Lib.hid hf1
       clear hown1 hf1 hl1))
  go_ret
  exact ⟨_, rfl, Hown1.out, Hf1.out⟩
theorem wpList_bytesG {w w0 : World} {ops : Array Oper} {rest : List Oper} {o : Oper} {a : Act} {Q : Exit → Act → World → Prop} (hgd : o.guard = none) (s x : Operand)
    (ho : o.op = .call { callee := .builtin .append, args := #[s, x], argTypes := #[27, 27] }) (g : Nat) (hg : w0.heap.size = g)
    (base : Nat) (v : Value) (k : Nat) (xs : List Nat) (hown : w0.ownsRow base 5 1 v k (xs.map bv)) (hs : a.eval s = v) (cs : Array Value) (bs : List Nat) (n : Nat) (hw : w = w0.alloc (.cells cs 5)) (hcs : cs = (bs.map bv).toArray) (hn : bs.length = n)
    (hx : a.eval x = .slice (some ⟨g, 0, none⟩) n n) (hl : k + n ≤ 1000000) (hbase : base ≤ w0.heap.size)
    (h : ∀ v' w', w'.ownsRow base 5 1 v' (k + n) ((xs ++ bs).map bv) → RowFr v w0 v' w' → wpList Try.prog ops Q rest (a.put o.dst v') w') : wpList Try.prog ops Q (o :: rest) a w := by
  subst hg
  exact wpList_bytes hgd s x ho base v k xs hown hs cs bs n hw hcs hn hx hl hbase h
set_option maxHeartbeats 4000000 in
theorem latch22_any (base : Nat) (v : Value) (xs : List Nat) (x : Lt) (w : World) (ho : w.ownsRow base 5 1 v xs.length (xs.map bv)) (hb : base ≤ w.heap.size) (ht : okT x.at_) (hx : xs.length ≤ 10000) :
    Calls Try.prog 44 #[v, .agg #[.bool x.set, .int .i64 x.at_, .bool x.first]] w (RowPost base v w (xs ++ encL x)) := by
  obtain ⟨s, t, f⟩ := x
  obtain ⟨A, c, rfl⟩ := own_shape ho
  obtain ⟨tn, rfl⟩ : ∃ tn : Nat, t = (tn : Int) := ⟨t.toNat, by unfold okT at ht; dsimp only at ht; omega⟩
  have ht1 : tn ≤ 2199023255552 := by unfold okT at ht; dsimp only at ht; omega
  have al : Below w.heap.size w (w.alloc (.cells #[.bool s, .int .i64 tn, .bool f] 61)) := (Below.refl _ _).alloc (Nat.le_refl _) _
  obtain ⟨w1, hw1⟩ : ∃ x, x = w.alloc (.cells #[.bool s, .int .i64 tn, .bool f] 61) := ⟨_, rfl⟩
  rw [← hw1] at al
  have hbx : w1.heap[w.heap.size]? = some (.cells #[.bool s, .int .i64 tn, .bool f] 61) := by rw [hw1]; exact heap_alloc_new _ _
  have hz1 : w1.heap.size = w.heap.size + 1 := by rw [hw1]; simp
  have c1 := cell_of_row w1 w.heap.size 1 _ _ _ hbx
  simp at c1
  have Ho := Lib.hid (own_below ho al)
  have Al := Lib.hid al
  have Hz1 := Lib.hid hz1
  have Hw1 := Lib.hid hw1
  obtain ⟨M, hK0⟩ : ∃ M, M = b2 s + 2 * b2 f := ⟨_, rfl⟩
  have hE : encL ⟨s, tn, f⟩ = [M] ++ six tn := by rw [hK0]; rfl
  have HK0 := Lib.hid hK0
  have HE := Lib.hid hE
  have Hnb : Hid (∀ {v' : Value} {w' : World}, RowFr (.slice A xs.length c) w1 v' w' → w'.cell? ⟨w.heap.size, 1, none⟩ = some (.int .i64 tn)) := fun hf => by
    have h1 := hf.1.at_ (i := w.heap.size) (by rw [hw1]; simp) (fun e => box_ne ho e.symm)
    exact (World.cell?_of_block h1).trans c1
  clear ho al hbx hz1 hw1 hK0 hE ht
  cases s <;> cases f
  · have Hcs : Hid ((#[Value.int .u8 0] : Array Value) = (([M] : List Nat).map bv).toArray) := by show _ = _; rw [HK0.out]; rfl
    go_enter Try.func44, Try.ntmps44
    go_wp2_with (first
      | (rw [← Hw1.out]
         with_reducible refine wpList_bytesG (w0 := w1) rfl (.tmp 12) (.tmp 14) rfl (w.heap.size + 1) Hz1.out base (.slice A xs.length c) xs.length xs Ho.out rfl _ [M] 1 rfl Hcs.out rfl rfl (by omega) (by have := Hz1.out; omega) ?_
         intro v3 w3 hown3 hf3
         have hc3 := Hnb.out hf3
         obtain ⟨A3, c3, rfl⟩ := own_shape hown3
         have Hown3 : Hid (w3.ownsRow base 5 1 (.slice A3 (xs.length + 1) c3) (xs ++ [M]).length ((xs ++ [M]).map bv)) := by
           show World.ownsRow _ _ _ _ _ _ _
           rw [List.length_append, List.length_singleton]; exact hown3
         have Hf3 := Lib.hid hf3
         clear hown3 hf3)
      | (go_at_call 45; (with_reducible refine (six22_any base (.slice A3 (xs.length + 1) c3) (xs ++ [M]) tn _ Hown3.out (Nat.le_trans (by have := Hz1.out; omega) (RowFr.size Hf3.out)) ht1 (by rw [List.length_append, List.length_singleton]; omega)).mono ?_)
         rintro e w6 ⟨v6, rfl, hown6, hf6⟩
         have Hown6 := Lib.hid hown6
         have Hf6 := Lib.hid (Hf3.out.trans hf6)
         clear hown6 hf6))
    go_ret
    refine ⟨_, rfl, ?_, (RowFr.of Al.out).trans Hf6.out⟩
    rw [HE.out, ← List.append_assoc]
    exact Hown6.out
  · have Hcs : Hid ((#[Value.int .u8 2] : Array Value) = (([M] : List Nat).map bv).toArray) := by show _ = _; rw [HK0.out]; rfl
    go_enter Try.func44, Try.ntmps44
    go_wp2_with (first
      | (rw [← Hw1.out]
         with_reducible refine wpList_bytesG (w0 := w1) rfl (.tmp 12) (.tmp 14) rfl (w.heap.size + 1) Hz1.out base (.slice A xs.length c) xs.length xs Ho.out rfl _ [M] 1 rfl Hcs.out rfl rfl (by omega) (by have := Hz1.out; omega) ?_
         intro v3 w3 hown3 hf3
         have hc3 := Hnb.out hf3
         obtain ⟨A3, c3, rfl⟩ := own_shape hown3
         have Hown3 : Hid (w3.ownsRow base 5 1 (.slice A3 (xs.length + 1) c3) (xs ++ [M]).length ((xs ++ [M]).map bv)) := by
           show World.ownsRow _ _ _ _ _ _ _
           rw [List.length_append, List.length_singleton]; exact hown3
         have Hf3 := Lib.hid hf3
         clear hown3 hf3)
      | (go_at_call 45; (with_reducible refine (six22_any base (.slice A3 (xs.length + 1) c3) (xs ++ [M]) tn _ Hown3.out (Nat.le_trans (by have := Hz1.out; omega) (RowFr.size Hf3.out)) ht1 (by rw [List.length_append, List.length_singleton]; omega)).mono ?_)
         rintro e w6 ⟨v6, rfl, hown6, hf6⟩
         have Hown6 := Lib.hid hown6
         have Hf6 := Lib.hid (Hf3.out.trans hf6)
         clear hown6 hf6))
    go_ret
    refine ⟨_, rfl, ?_, (RowFr.of Al.out).trans Hf6.out⟩
    rw [HE.out, ← List.append_assoc]
    exact Hown6.out
  · have Hcs : Hid ((#[Value.int .u8 1] : Array Value) = (([M] : List Nat).map bv).toArray) := by show _ = _; rw [HK0.out]; rfl
    go_enter Try.func44, Try.ntmps44
    go_wp2_with (first
      | (rw [← Hw1.out]
         with_reducible refine wpList_bytesG (w0 := w1) rfl (.tmp 12) (.tmp 14) rfl (w.heap.size + 1) Hz1.out base (.slice A xs.length c) xs.length xs Ho.out rfl _ [M] 1 rfl Hcs.out rfl rfl (by omega) (by have := Hz1.out; omega) ?_
         intro v3 w3 hown3 hf3
         have hc3 := Hnb.out hf3
         obtain ⟨A3, c3, rfl⟩ := own_shape hown3
         have Hown3 : Hid (w3.ownsRow base 5 1 (.slice A3 (xs.length + 1) c3) (xs ++ [M]).length ((xs ++ [M]).map bv)) := by
           show World.ownsRow _ _ _ _ _ _ _
           rw [List.length_append, List.length_singleton]; exact hown3
         have Hf3 := Lib.hid hf3
         clear hown3 hf3)
      | (go_at_call 45; (with_reducible refine (six22_any base (.slice A3 (xs.length + 1) c3) (xs ++ [M]) tn _ Hown3.out (Nat.le_trans (by have := Hz1.out; omega) (RowFr.size Hf3.out)) ht1 (by rw [List.length_append, List.length_singleton]; omega)).mono ?_)
         rintro e w6 ⟨v6, rfl, hown6, hf6⟩
         have Hown6 := Lib.hid hown6
         have Hf6 := Lib.hid (Hf3.out.trans hf6)
         clear hown6 hf6))
    go_ret
    refine ⟨_, rfl, ?_, (RowFr.of Al.out).trans Hf6.out⟩
    rw [HE.out, ← List.append_assoc]
    exact Hown6.out
  · have Hcs : Hid ((#[Value.int .u8 3] : Array Value) = (([M] : List Nat).map bv).toArray) := by show _ = _; rw [HK0.out]; rfl
    go_enter Try.func44, Try.ntmps44
    go_wp2_with (first
      | (rw [← Hw1.out]
         with_reducible refine wpList_bytesG (w0 := w1) rfl (.tmp 12) (.tmp 14) rfl (w.heap.size + 1) Hz1.out base (.slice A xs.length c) xs.length xs Ho.out rfl _ [M] 1 rfl Hcs.out rfl rfl (by omega) (by have := Hz1.out; omega) ?_
         intro v3 w3 hown3 hf3
         have hc3 := Hnb.out hf3
         obtain ⟨A3, c3, rfl⟩ := own_shape hown3
         have Hown3 : Hid (w3.ownsRow base 5 1 (.slice A3 (xs.length + 1) c3) (xs ++ [M]).length ((xs ++ [M]).map bv)) := by
           show World.ownsRow _ _ _ _ _ _ _
           rw [List.length_append, List.length_singleton]; exact hown3
         have Hf3 := Lib.hid hf3
         clear hown3 hf3)
      | (go_at_call 45; (with_reducible refine (six22_any base (.slice A3 (xs.length + 1) c3) (xs ++ [M]) tn _ Hown3.out (Nat.le_trans (by have := Hz1.out; omega) (RowFr.size Hf3.out)) ht1 (by rw [List.length_append, List.length_singleton]; omega)).mono ?_)
         rintro e w6 ⟨v6, rfl, hown6, hf6⟩
         have Hown6 := Lib.hid hown6
         have Hf6 := Lib.hid (Hf3.out.trans hf6)
         clear hown6 hf6))
    go_ret
    refine ⟨_, rfl, ?_, (RowFr.of Al.out).trans Hf6.out⟩
    rw [HE.out, ← List.append_assoc]
    exact Hown6.out
end Go.Proofs.Ytcdgaeenfhpnkaa
