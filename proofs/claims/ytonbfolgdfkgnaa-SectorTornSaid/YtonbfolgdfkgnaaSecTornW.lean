/- SectorTorn, walked. -/
import Derived.Test.YtonbfolgdfkgnaaSecStaysW
set_option linter.unusedVariables false
set_option linter.unusedSimpArgs false
set_option maxRecDepth 100000
namespace Go.Proofs.Ytonbfolgdfkgnaa
open Go Go.RowKit

/-- the first j sectors of four have these bytes -/
def Lot (d : DD) (b : List Nat) (j : Nat) : Prop := d.down = false ∧ d.cut = none ∧ d.writes = j ∧ d.L.length = 4 ∧ ∀ i, i < j → d.L[i]? = some (pad b)
theorem lot_step {d : DD} {b : List Nat} {j : Nat} (h : Lot d b j) (hj : j < 4) (hb : b.length ≤ 64) : ∃ d', d.write j b = (0, d') ∧ Lot d' b (j + 1) := by
  obtain ⟨h1, h2, h3, h4, h5⟩ := h
  refine ⟨{ d with L := d.L.set (j : Int).toNat (pad b), writes := d.writes + 1 }, ?_, ⟨h1, h2, by show d.writes + 1 = j + 1; omega, by simpa using h4, fun i hi => ?_⟩⟩
  · rw [DD.write, if_neg (by simp [h1]), if_pos ⟨by omega, by omega, hb⟩, h2]
  · simp only [Int.toNat_natCast]
    by_cases hij : i = j
    · subst hij; rw [List.getElem?_set_self (by omega)]
    · rw [List.getElem?_set_ne (by omega)]; exact h5 i (by omega)
def torn (was now : List Nat) (n : Nat) : List Nat := (pad now).take n ++ (pad was).drop n
theorem torn_all {d : DD} {o : List Nat} (h : Lot d o 4) (was now : List Nat) (hw : was.length ≤ 64) (hn : now.length ≤ 64) (k : Nat) (hk : k < 4) (n : Int) (hn0 : 0 ≤ n) :
    ∃ d1 d2, d.write k was = (0, d1) ∧ d1.writes = 5 ∧ (d1.setCut 0 n).writes = 5 ∧ (d1.setCut 0 n).write k now = (101, d2) ∧ d2.down = true ∧ d2.boot.read k = (0, torn was now (min n 64).toNat) ∧ d2.boot.read (((k : Int) + 1) % 4) = (0, pad o) := by
  obtain ⟨h1, h2, h3, h4, h5⟩ := h
  refine ⟨{ d with L := d.L.set k (pad was), writes := d.writes + 1 }, { d with L := (d.L.set k (pad was)).set k (torn was now (min n 64).toNat), down := true, cut := none, writes := d.writes + 1 }, ?_, by show d.writes + 1 = 5; omega, ?_, ?_, rfl, ?_, ?_⟩
  · rw [DD.write, if_neg (by simp [h1]), if_pos ⟨by omega, by omega, hw⟩, h2]; rfl
  · rw [DD.setCut, if_pos (by omega)]; show d.writes + 1 = 5; omega
  · rw [DD.setCut, if_pos (by omega), DD.write, if_neg (by simp [h1]), if_pos ⟨by omega, by simp; omega, hn⟩]
    show (101, _) = (101, _)
    have e : ((d.L.set k (pad was)).getD (k : Int).toNat []) = pad was := by
      rw [List.getD_eq_getElem?_getD, Int.toNat_natCast, List.getElem?_set_self (by omega)]; rfl
    rw [Int.toNat_natCast] at e
    have e2 : max n 0 = n := by omega
    simp only [Int.toNat_natCast, e, e2, torn]
  · rw [DD.read, if_neg (by simp [DD.boot]), if_pos ⟨by omega, by simp [DD.boot]; omega⟩]
    show (0, ((d.L.set k (pad was)).set k _).getD (k : Int).toNat []) = _
    rw [List.getD_eq_getElem?_getD, Int.toNat_natCast, List.getElem?_set_self (by simp; omega)]; rfl
  · rw [DD.read, if_neg (by simp [DD.boot]), if_pos ⟨by omega, by simp [DD.boot]; omega⟩]
    show (0, ((d.L.set k (pad was)).set k _).getD (((k : Int) + 1) % 4).toNat []) = _
    obtain ⟨k', hk'⟩ : ∃ k' : Nat, (((k : Int) + 1) % 4).toNat = k' := ⟨_, rfl⟩
    rw [hk', List.getD_eq_getElem?_getD, List.getElem?_set_ne (by omega), List.getElem?_set_ne (by omega), h5 k' (by omega)]; rfl
theorem pad_get (b : List Nat) (i : Nat) (hb : b.length ≤ 64) (hi : i < 64) : (pad b)[i]? = some (b.getD i 0) := by
  unfold pad
  by_cases h : i < b.length
  · rw [List.getElem?_append_left h, List.getD_eq_getElem?_getD, List.getElem?_eq_getElem h]; rfl
  · rw [List.getElem?_append_right (by omega), List.getElem?_replicate, if_pos (by omega), List.getD_eq_getElem?_getD, List.getElem?_eq_none (by omega)]; rfl
theorem torn_len (was now : List Nat) (n : Nat) (hw : was.length ≤ 64) (hn : now.length ≤ 64) : (torn was now n).length = 64 := by
  have := pad_len was hw
  have := pad_len now hn
  simp [torn]; omega
theorem torn_get (was now : List Nat) (n : Int) (i : Nat) (hw : was.length ≤ 64) (hn : now.length ≤ 64) (hi : i < 64) (hn0 : 0 ≤ n) :
    (torn was now (min n 64).toNat)[i]? = some (if (i : Int) < n then now.getD i 0 else was.getD i 0) := by
  have := pad_len now hn
  unfold torn
  by_cases h : (i : Int) < n
  · rw [if_pos h, List.getElem?_append_left (by simp; omega), List.getElem?_take, if_pos (by omega)]
    exact pad_get now i hn hi
  · rw [if_neg h, List.getElem?_append_right (by simp; omega), List.getElem?_drop, List.length_take]
    rw [show (min n 64).toNat + (i - min (min n 64).toNat (pad now).length) = i by omega]
    exact pad_get was i hw hi

theorem rd_at {w : World} {B n : Nat} {A : Option Addr} {l : List Nat} (h : Rd w B 1 A n (l.map bv)) (j : Nat) (hj : j < n) : ∃ b o, A = some ⟨b, o, none⟩ ∧ w.cell? ⟨b, o + j, none⟩ = some (.int .u8 (l.getD j 0 : Nat)) := by
  obtain ⟨b, o, rfl, _, hc⟩ := h.2 (by omega)
  have hl : l.length = n := by have := h.1; simpa using this
  refine ⟨b, o, rfl, hc j _ ?_⟩
  rw [List.getElem?_map, List.getElem?_eq_getElem (by omega), List.getD_eq_getElem?_getD, List.getElem?_eq_getElem (by omega)]; rfl

set_option maxHeartbeats 4000000 in
theorem torn_fine (A0 : Option Addr) (n0 c0 : Nat) (was : List Nat) (A1 : Option Addr) (n1 c1 : Nat) (now : List Nat) (a2 a3 : Int) (A4 : Option Addr) (n4 c4 : Nat) (oth : List Nat) (w : World)
    (hr0 : Rd w w.heap.size 1 A0 n0 (was.map bv)) (hq0 : ∀ c ∈ was, c < 256) (hr1 : Rd w w.heap.size 1 A1 n1 (now.map bv)) (hq1 : ∀ c ∈ now, c < 256) (p2 : 0 ≤ a2) (p2' : a2 < 256) (p3 : 0 ≤ a3) (p3' : a3 < 256)
    (hr4 : Rd w w.heap.size 1 A4 n4 (oth.map bv)) (hq4 : ∀ c ∈ oth, c < 256) (hc4 : n4 ≤ c4) (t0 : n0 ≤ 64) (t1 : n1 ≤ 64) (t4 : n4 ≤ 64) :
    Calls Try.prog 4 #[.slice A0 n0 c0, .slice A1 n1 c1, .int .u8 a2, .int .u8 a3, .slice A4 n4 c4] w fun e w' => e = .returned (.bool true) ∧ Below w.heap.size w w' := by
  obtain ⟨U, hUd⟩ : ∃ U : Nat → Prop, U = fun k => k < w.heap.size := ⟨_, rfl⟩
  have HU : Hid (∀ k, U k → k < w.heap.size) := fun k hk => by rw [hUd] at hk; exact hk
  have HU' : Hid (∀ k, k < w.heap.size → U k) := fun k hk => by rw [hUd]; exact hk
  have L0 : Hid (was.length ≤ 64) := by have := hr0.1; simp at this; show was.length ≤ 64; omega
  have L1 : Hid (now.length ≤ 64) := by have := hr1.1; simp at this; show now.length ≤ 64; omega
  have L4 : Hid (oth.length = n4) := by have := hr4.1; show oth.length = n4; simpa using this
  have t0' : decide ((64 : Int) < (n0 : Int)) = false := decide_eq_false (by omega)
  have t1' : decide ((64 : Int) < (n1 : Int)) = false := decide_eq_false (by omega)
  have t4' : decide ((64 : Int) < (n4 : Int)) = false := decide_eq_false (by omega)
  obtain ⟨k, hk⟩ : ∃ k : Nat, a3 % 4 = (k : Int) := ⟨(a3 % 4).toNat, by omega⟩
  have hk4 : k < 4 := by omega
  have Hk := Lib.hid hk
  clear hUd hk
  go_enter Try.func4, Try.ntmps4
  go_wp2_with (first
    | (go_at_call 8; (with_reducible refine (head_any _).mono ?_); rintro e w1 ⟨rfl, hb1⟩
       have hU1 : Hid (∀ k, U k → k < w1.heap.size) := fun k hk => Nat.lt_of_lt_of_le (HU.out k hk) hb1.size)
    | (go_at_call 9; (with_reducible refine (new_any U w1 4 hU1.out).mono ?_)
       rintro e w2 ⟨rfl, hH2, hb2⟩
       have hK2 : Kept U w w2 := (Kept.of hb1 HU.out).trans (Kept.of hb2 hU1.out)))
  have hG2 : Lot (DD.fresh 4) oth 0 := ⟨rfl, rfl, rfl, rfl, fun i hi => absurd hi (by omega)⟩
  obtain ⟨d2, hd2⟩ : ∃ d, d = DD.fresh 4 := ⟨_, rfl⟩
  rw [← hd2] at hH2 hG2
  clear hd2
  go_loopg [14] 4 (fun q i wr => ∃ j : Nat, q + j = 4 ∧ i = .int .i64 j ∧ Kept U w wr ∧ ∃ d, HD wr U (w1.heap.size + 1) w1.heap.size d ∧ Lot d oth j)
  case atStart => exact ⟨0, by omega, rfl, hK2, d2, hH2, hG2⟩
  case round =>
    obtain ⟨j, hj, rfl, hKr, d, hHr, hGr⟩ := hrel
    clear hK2 hH2 hG2
    by_cases hlt : j < 4
    · obtain ⟨d', hd', hG'⟩ := lot_step hGr hlt (by have := L4.out; omega)
      have Hd' := Lib.hid hd'
      have HG' := Lib.hid hG'
      have Hw : Hid (d.writes < 1000000) := by have := hGr.2.2.1; show d.writes < 1000000; omega
      have Hr : Hid (Rd wr wr.heap.size 1 A4 n4 (oth.map bv)) := (hr4.below (hKr.below HU'.out)).more hKr.size
      clear hd' hG' hGr
      go_wp2_with (first
        | (go_at_call 18; (with_reducible refine (write_any _ _ _ _ _ j _ _ _ oth hHr Hr.out hq4 Hw.out).mono ?_)
           rintro e w4 ⟨he, hH4, hK4⟩
           rw [Hd'.out] at he hH4
           subst he
           have hK4 := hKr.trans hK4
           clear hHr hKr))
      go_roundg (gk - 1)
      case measure => omega
      case rel => exact ⟨j + 1, by omega, by go_num, hK4, d', hH4, HG'.out⟩
    · obtain rfl : j = 4 := by omega
      obtain ⟨d3, d4, e3, hw3, hw4, e4, hdn, e5, e6⟩ := torn_all hGr was now L0.out L1.out k hk4 a2 p2
      rw [← Hk.out] at e3 e4 e5
      have E3 := Lib.hid e3
      have E4 := Lib.hid e4
      have E5 := Lib.hid e5
      have E6 := Lib.hid e6
      have Hw2 : Hid (d.writes < 1000000) := by have := hGr.2.2.1; show d.writes < 1000000; omega
      have Hw4 : Hid ((d3.setCut 0 a2).writes < 1000000) := by show _ < _; omega
      have Hr0 : Hid (∀ w', Kept U w w' → Rd w' w'.heap.size 1 A0 n0 (was.map bv)) := fun w' h => (hr0.below (h.below HU'.out)).more h.size
      have Hr1 : Hid (∀ w', Kept U w w' → Rd w' w'.heap.size 1 A1 n1 (now.map bv)) := fun w' h => (hr1.below (h.below HU'.out)).more h.size
      have Hr4 : Hid (∀ w', Kept U w w' → Rd w' w'.heap.size 1 A4 n4 (oth.map bv)) := fun w' h => (hr4.below (h.below HU'.out)).more h.size
      have Htl := Lib.hid (torn_len was now (min a2 64).toNat L0.out L1.out)
      clear e3 e4 e5 e6 hw3 hw4 hGr
      go_wp2_with (first
        | (go_at_call 18; (with_reducible refine (write_any _ _ _ _ _ (a3 % 4) _ _ _ was hHr (Hr0.out _ hKr) hq0 Hw2.out).mono ?_)
           rintro e w4 ⟨he, hH4, hK4⟩
           rw [E3.out] at he hH4
           subst he
           have hK4 := hKr.trans hK4
           clear hHr hKr)
        | (go_at_call 14; (with_reducible refine (cut_any _ _ _ _ _ 0 a2 (by decide) hH4).mono ?_)
           rintro e w5 ⟨rfl, hH5, hK5⟩
           have hK5 := hK4.trans hK5
           clear hH4 hK4)
        | (go_at_call 18; (with_reducible refine (write_any _ _ _ _ _ (a3 % 4) _ _ _ now hH5 (Hr1.out _ hK5) hq1 Hw4.out).mono ?_)
           rintro e w6 ⟨he, hH6, hK6⟩
           rw [E4.out] at he hH6
           subst he
           have hK6 := hK5.trans hK6
           clear hH5 hK5)
        | (go_at_call 20; (with_reducible refine (down_any U _ _ _ _ hH6).mono ?_)
           rintro e w6 ⟨rfl, rfl⟩
           rw [hdn])
        | (go_at_call 16; (with_reducible refine (boot_any _ _ _ _ _ hH6).mono ?_)
           rintro e w7 ⟨rfl, hH7, hK7⟩
           have hK7 := hK6.trans hK7
           clear hH6 hK6)
        | (go_at_call 12; (with_reducible refine (read_any _ _ _ _ _ (a3 % 4) hH7).mono ?_)
           rintro e w8 ⟨A8, n8, c8, he, hown8, hb8⟩
           rw [E5.out] at he hown8
           subst he
           have hn8 := own_len hown8
           rw [List.length_map, Htl.out] at hn8
           subst hn8
           have hH8 := hH7.below hb8
           have hK8 := hK7.trans (Kept.of hb8 (HD.old hH7))
           clear hH7 hK7 hb8))
      obtain ⟨hcap8, g8, rfl, hbg, hg8, hcell8, _⟩ := own_some hown8 (by omega)
      go_loopg [19] 64 (fun q i wr => ∃ j : Nat, q + j = 64 ∧ i = .int .i64 j ∧ wr = w8)
      case atStart => exact ⟨0, by omega, rfl, rfl⟩
      case round =>
        obtain ⟨j, hj, rfl, rfl⟩ := hrel
        by_cases hlt : j < 64
        · have hi0 : (0 : Int) ≤ (j : Int) := by omega
          have hi1 : (j : Int) < 64 := by omega
          have hv := torn_get was now a2 j L0.out L1.out hlt p2
          have hx := hcell8 j _ (by rw [List.getElem?_map, hv]; rfl)
          unfold bv at hx
          have hl0 : was.length = n0 := by have := hr0.1; simpa using this
          have hl1 : now.length = n1 := by have := hr1.1; simpa using this
          by_cases hn : (j : Int) < a2
          · rw [if_pos hn] at hx
            by_cases hj1 : j < n1
            · obtain ⟨b1, o1, rfl, hy⟩ := rd_at (Hr1.out _ hK8) j hj1
              obtain ⟨v, hve⟩ : ∃ v, v = now.getD j 0 := ⟨_, rfl⟩
              rw [← hve] at hx hy
              have hj1' : (j : Int) < (n1 : Int) := by omega
              clear hcell8 hv hl0 hl1 hve
              go_wp2_with fail
              go_roundg (gk - 1)
              case measure => omega
              case rel => exact ⟨j + 1, by omega, by go_num, rfl⟩
            · have hz : now.getD j 0 = 0 := by rw [List.getD_eq_getElem?_getD, List.getElem?_eq_none (by omega)]; rfl
              rw [hz] at hx
              have hj1' : ¬ (j : Int) < (n1 : Int) := by omega
              clear hcell8 hv hl0 hl1 hz
              go_wp2_with fail
              go_roundg (gk - 1)
              case measure => omega
              case rel => exact ⟨j + 1, by omega, by go_num, rfl⟩
          · rw [if_neg hn] at hx
            by_cases hj1 : j < n0
            · obtain ⟨b1, o1, rfl, hy⟩ := rd_at (Hr0.out _ hK8) j hj1
              obtain ⟨v, hve⟩ : ∃ v, v = was.getD j 0 := ⟨_, rfl⟩
              rw [← hve] at hx hy
              have hj1' : (j : Int) < (n0 : Int) := by omega
              clear hcell8 hv hl0 hl1 hve
              go_wp2_with fail
              go_roundg (gk - 1)
              case measure => omega
              case rel => exact ⟨j + 1, by omega, by go_num, rfl⟩
            · have hz : was.getD j 0 = 0 := by rw [List.getD_eq_getElem?_getD, List.getElem?_eq_none (by omega)]; rfl
              rw [hz] at hx
              have hj1' : ¬ (j : Int) < (n0 : Int) := by omega
              clear hcell8 hv hl0 hl1 hz
              go_wp2_with fail
              go_roundg (gk - 1)
              case measure => omega
              case rel => exact ⟨j + 1, by omega, by go_num, rfl⟩
        · obtain rfl : j = 64 := by omega
          have hpl : (pad oth).length = 64 := by have := L4.out; exact pad_len _ (by omega)
          have e6 := E6.out
          rw [← Hk.out, show (a3 % 4 + 1) % 4 = (a3 + 1) % 4 by omega] at e6
          have E6' := Lib.hid e6
          have HP := Lib.hid hpl
          have HP2 := Lib.hid (pad_take oth n4 L4.out)
          clear hpl hcell8 e6
          go_wp2_with (first
            | (go_at_call 12; (with_reducible refine (read_any _ _ _ _ _ ((a3 + 1) % 4) hH8).mono ?_)
               rintro e w9 ⟨A9, n9, c9, he, hown9, hb9⟩
               rw [E6'.out] at he hown9
               subst he
               have hn9 := own_len hown9
               rw [List.length_map, HP.out] at hn9
               subst hn9
               have hcap9 := own_cap hown9
               have hnc9 : n4 ≤ c9 := Nat.le_trans t4 hcap9
               have hr9 := (Rd.of_own hown9).take_ (k := n4) t4
               rw [Nat.mul_one, ← List.map_take, HP2.out] at hr9
               have hK9 := hK8.trans (Kept.of hb9 (HD.old hH8))
               have kv9 : ∀ w', Below w9.heap.size w9 w' → (convert 29 9 (.slice A9 n4 c9)).run Try.prog w' = .ok (.string (bstr oth)) w' := fun w' h => kcv _ _ _ c9 _ _ (hr9.below h)
               have kv4 : ∀ w', Below w9.heap.size w9 w' → (convert 29 9 (.slice A4 n4 c4)).run Try.prog w' = .ok (.string (bstr oth)) w' := fun w' h => kcv _ _ _ _ _ _ ((Hr4.out _ hK9).below h)
               clear hown9))
          refine startH (fun w' => Below w9.heap.size w9 w') 17 #[false, false, false, false, false, false, false, false, false, false, false, false, false, false, false, false, false] rfl rfl (by kernel_rfl) ?_ (fun hHeld => ?_)
          · (first | exact (Below.refl _ _).drew | assumption)
          refine takeH 0 133 #[true, false, false, false, false, false, false, false, false, false, false, false, false, false, false, false, false] (v := ?_) rfl rfl rfl (by kernel_rfl) (by kernel_rfl) (by kernel_rfl) (fun _ _ _ h => h) (Or.inl ⟨by rfl, ?_⟩) hHeld ?_
          rotate_left
          · (intro w' hSw; (try dsimp only at hSw); go_simp; (try with_reducible rfl))
          simp only [List.set_cons_zero, List.set_cons_succ]
          refine takeH 1 134 #[true, true, false, false, false, false, false, false, false, false, false, false, false, false, false, false, false] (v := ?_) rfl rfl rfl (by kernel_rfl) (by kernel_rfl) (by kernel_rfl) (fun _ _ _ h => h) (Or.inl ⟨by rfl, ?_⟩) hHeld ?_
          rotate_left
          · (intro w' hSw; (try dsimp only at hSw); go_simp; (try with_reducible rfl))
          simp only [List.set_cons_zero, List.set_cons_succ]
          refine takeH 2 135 #[true, true, true, false, false, false, false, false, false, false, false, false, false, false, false, false, false] (v := ?_) rfl rfl rfl (by kernel_rfl) (by kernel_rfl) (by kernel_rfl) (fun _ _ _ h => h) (Or.inl ⟨by rfl, ?_⟩) hHeld ?_
          rotate_left
          · (intro w' hSw; (try dsimp only at hSw); go_simp; (try with_reducible rfl))
          simp only [List.set_cons_zero, List.set_cons_succ]
          refine takeH 3 136 #[true, true, true, true, false, false, false, false, false, false, false, false, false, false, false, false, false] (v := ?_) rfl rfl rfl (by kernel_rfl) (by kernel_rfl) (by kernel_rfl) (fun _ _ _ h => h) (Or.inl ⟨by rfl, ?_⟩) hHeld ?_
          rotate_left
          · (intro w' hSw; (try dsimp only at hSw); go_simp; (try with_reducible rfl))
          simp only [List.set_cons_zero, List.set_cons_succ]
          refine takeH 4 137 #[true, true, true, true, true, false, false, false, false, false, false, false, false, false, false, false, false] (v := ?_) rfl rfl rfl (by kernel_rfl) (by kernel_rfl) (by kernel_rfl) (fun _ _ _ h => h) (Or.inl ⟨by rfl, ?_⟩) hHeld ?_
          rotate_left
          · (intro w' hSw; (try dsimp only at hSw); go_simp; (try with_reducible rfl))
          simp only [List.set_cons_zero, List.set_cons_succ]
          refine takeH 5 138 #[true, true, true, true, true, true, false, false, false, false, false, false, false, false, false, false, false] (v := ?_) rfl rfl rfl (by kernel_rfl) (by kernel_rfl) (by kernel_rfl) (fun _ _ _ h => h) (Or.inl ⟨by rfl, ?_⟩) hHeld ?_
          rotate_left
          · (intro w' hSw; (try dsimp only at hSw); go_simp; (try with_reducible rfl))
          simp only [List.set_cons_zero, List.set_cons_succ]
          refine takeH 6 139 #[true, true, true, true, true, true, true, false, false, false, false, false, false, false, false, false, false] (v := ?_) rfl rfl rfl (by kernel_rfl) (by kernel_rfl) (by kernel_rfl) (fun _ _ _ h => h) (Or.inl ⟨by rfl, ?_⟩) hHeld ?_
          rotate_left
          · (intro w' hSw; (try dsimp only at hSw); go_simp; (try with_reducible rfl))
          simp only [List.set_cons_zero, List.set_cons_succ]
          refine takeH 7 140 #[true, true, true, true, true, true, true, true, false, false, false, false, false, false, false, false, false] (v := ?_) rfl rfl rfl (by kernel_rfl) (by kernel_rfl) (by kernel_rfl) (fun _ _ _ h => h) (Or.inl ⟨by rfl, ?_⟩) hHeld ?_
          rotate_left
          · (intro w' hSw; (try dsimp only at hSw); go_simp; (try with_reducible rfl))
          simp only [List.set_cons_zero, List.set_cons_succ]
          refine takeH 8 141 #[true, true, true, true, true, true, true, true, true, false, false, false, false, false, false, false, false] (v := ?_) rfl rfl rfl (by kernel_rfl) (by kernel_rfl) (by kernel_rfl) (fun _ _ _ h => h) (Or.inl ⟨by rfl, ?_⟩) hHeld ?_
          rotate_left
          · (intro w' hSw; (try dsimp only at hSw); go_simp; (try with_reducible rfl))
          simp only [List.set_cons_zero, List.set_cons_succ]
          refine takeH 9 142 #[true, true, true, true, true, true, true, true, true, true, false, false, false, false, false, false, false] (v := ?_) rfl rfl rfl (by kernel_rfl) (by kernel_rfl) (by kernel_rfl) (fun _ _ _ h => h) (Or.inl ⟨by rfl, ?_⟩) hHeld ?_
          rotate_left
          · (intro w' hSw; (try dsimp only at hSw); go_simp; (try with_reducible rfl))
          simp only [List.set_cons_zero, List.set_cons_succ]
          refine takeH 10 143 #[true, true, true, true, true, true, true, true, true, true, true, false, false, false, false, false, false] (v := ?_) rfl rfl rfl (by kernel_rfl) (by kernel_rfl) (by kernel_rfl) (fun _ _ _ h => h) (Or.inl ⟨by rfl, ?_⟩) hHeld ?_
          rotate_left
          · (intro w' hSw; (try dsimp only at hSw); go_simp; (try with_reducible rfl))
          simp only [List.set_cons_zero, List.set_cons_succ]
          refine takeH 11 144 #[true, true, true, true, true, true, true, true, true, true, true, true, false, false, false, false, false] (v := ?_) rfl rfl rfl (by kernel_rfl) (by kernel_rfl) (by kernel_rfl) (fun _ _ _ h => h) (Or.inl ⟨by rfl, ?_⟩) hHeld ?_
          rotate_left
          · (intro w' hSw; (try dsimp only at hSw); go_simp; (try with_reducible rfl))
          simp only [List.set_cons_zero, List.set_cons_succ]
          refine takeH 12 145 #[true, true, true, true, true, true, true, true, true, true, true, true, true, false, false, false, false] (v := ?_) rfl rfl rfl (by kernel_rfl) (by kernel_rfl) (by kernel_rfl) (fun _ _ _ h => h) (Or.inl ⟨by rfl, ?_⟩) hHeld ?_
          rotate_left
          · (intro w' hSw; (try dsimp only at hSw); go_simp; (try with_reducible rfl))
          simp only [List.set_cons_zero, List.set_cons_succ]
          refine takeH 13 146 #[true, true, true, true, true, true, true, true, true, true, true, true, true, true, false, false, false] (v := ?_) rfl rfl rfl (by kernel_rfl) (by kernel_rfl) (by kernel_rfl) (fun _ _ _ h => h) (Or.inl ⟨by rfl, ?_⟩) hHeld ?_
          rotate_left
          · (intro w' hSw; (try dsimp only at hSw); go_simp; (try with_reducible rfl))
          simp only [List.set_cons_zero, List.set_cons_succ]
          refine takeH 14 147 #[true, true, true, true, true, true, true, true, true, true, true, true, true, true, true, false, false] (v := ?_) rfl rfl rfl (by kernel_rfl) (by kernel_rfl) (by kernel_rfl) (fun _ _ _ h => h) (Or.inl ⟨by rfl, ?_⟩) hHeld ?_
          rotate_left
          · (intro w' hSw; (try dsimp only at hSw); go_simp; (try with_reducible rfl))
          simp only [List.set_cons_zero, List.set_cons_succ]
          refine takeH 15 148 #[true, true, true, true, true, true, true, true, true, true, true, true, true, true, true, true, false] (v := ?_) rfl rfl rfl (by kernel_rfl) (by kernel_rfl) (by kernel_rfl) (fun _ _ _ h => h) (Or.inl ⟨by rfl, ?_⟩) hHeld ?_
          rotate_left
          · (intro w' hSw; (try dsimp only at hSw); go_simp; (try with_reducible rfl))
          simp only [List.set_cons_zero, List.set_cons_succ]
          refine takeH 16 10 #[true, true, true, true, true, true, true, true, true, true, true, true, true, true, true, true, true] (v := ?_) rfl rfl rfl (by kernel_rfl) (by kernel_rfl) (by kernel_rfl) (fun _ _ _ h => h) (Or.inl ⟨by rfl, ?_⟩) hHeld ?_
          rotate_left
          · (intro w' hSw; (try dsimp only at hSw); go_simp; (try with_reducible rfl))
          simp only [List.set_cons_zero, List.set_cons_succ]
          refine wpAnyH_done (by kernel_rfl) ?_ _
          refine NoPanic.normal ?_
          go_wp2_with fail
          go_ret
          exact ⟨ret_bool (by simp), (hK9.trans (Kept.of hHeld (HD.old (hH8.below hb9)))).below HU'.out⟩

theorem torn_great (A0 : Option Addr) (n0 c0 : Nat) (A1 : Option Addr) (n1 c1 : Nat) (a2 a3 : Int) (A4 : Option Addr) (n4 c4 : Nat) (w : World)
    (h : ¬ (n0 ≤ 64 ∧ n1 ≤ 64 ∧ n4 ≤ 64)) :
    Calls Try.prog 4 #[.slice A0 n0 c0, .slice A1 n1 c1, .int .u8 a2, .int .u8 a3, .slice A4 n4 c4] w fun e w' => e = .returned (.bool true) ∧ Below w.heap.size w w' := by
  obtain ⟨U, hUd⟩ : ∃ U : Nat → Prop, U = fun k => k < w.heap.size := ⟨_, rfl⟩
  have HU : Hid (∀ k, U k → k < w.heap.size) := fun k hk => by rw [hUd] at hk; exact hk
  have HU' : Hid (∀ k, k < w.heap.size → U k) := fun k hk => by rw [hUd]; exact hk
  have go : decide ((64 : Int) < (n0 : Int)) = true ∨ decide ((64 : Int) < (n0 : Int)) = false ∧ decide ((64 : Int) < (n1 : Int)) = true ∨ decide ((64 : Int) < (n0 : Int)) = false ∧ decide ((64 : Int) < (n1 : Int)) = false ∧ decide ((64 : Int) < (n4 : Int)) = true := by
    simp; omega
  clear h hUd
  rcases go with h0 | ⟨h0, h1⟩ | ⟨h0, h1, h4⟩
  all_goals
    go_enter Try.func4, Try.ntmps4
    go_wp2_with (first
      | (go_at_call 8; (with_reducible refine (head_any _).mono ?_); rintro e w1 ⟨rfl, hb1⟩
         have hU1 : Hid (∀ k, U k → k < w1.heap.size) := fun k hk => Nat.lt_of_lt_of_le (HU.out k hk) hb1.size)
      | (go_at_call 9; (with_reducible refine (new_any U w1 4 hU1.out).mono ?_)
         rintro e w2 ⟨rfl, hH2, hb2⟩
         have hK2 : Kept U w w2 := (Kept.of hb1 HU.out).trans (Kept.of hb2 hU1.out)))
    go_ret
    exact ⟨ret_bool (by simp), hK2.below HU'.out⟩

theorem torn_walk (A0 : Option Addr) (n0 c0 : Nat) (was : List Nat) (A1 : Option Addr) (n1 c1 : Nat) (now : List Nat) (a2 a3 : Int) (A4 : Option Addr) (n4 c4 : Nat) (oth : List Nat) (w : World)
    (hr0 : Rd w w.heap.size 1 A0 n0 (was.map bv)) (hq0 : ∀ c ∈ was, c < 256) (hc0 : n0 ≤ c0) (hm0 : c0 ≤ maxLen)
    (hr1 : Rd w w.heap.size 1 A1 n1 (now.map bv)) (hq1 : ∀ c ∈ now, c < 256) (hc1 : n1 ≤ c1) (hm1 : c1 ≤ maxLen)
    (h2 : (Lit.int .u8 a2).wf = true) (h3 : (Lit.int .u8 a3).wf = true)
    (hr4 : Rd w w.heap.size 1 A4 n4 (oth.map bv)) (hq4 : ∀ c ∈ oth, c < 256) (hc4 : n4 ≤ c4) (hm4 : c4 ≤ maxLen) :
    Calls Try.prog 4 #[.slice A0 n0 c0, .slice A1 n1 c1, .int .u8 a2, .int .u8 a3, .slice A4 n4 c4] w fun e w' => e = .returned (.bool true) ∧ Below w.heap.size w w' := by
  by_cases h : n0 ≤ 64 ∧ n1 ≤ 64 ∧ n4 ≤ 64
  · obtain ⟨p2, p2'⟩ := wf_u8_lt h2
    obtain ⟨p3, p3'⟩ := wf_u8_lt h3
    exact torn_fine A0 n0 c0 was A1 n1 c1 now a2 a3 A4 n4 c4 oth w hr0 hq0 hr1 hq1 p2 p2' p3 p3' hr4 hq4 hc4 h.1 h.2.1 h.2.2
  · exact torn_great A0 n0 c0 A1 n1 c1 a2 a3 A4 n4 c4 w h
end Go.Proofs.Ytonbfolgdfkgnaa
