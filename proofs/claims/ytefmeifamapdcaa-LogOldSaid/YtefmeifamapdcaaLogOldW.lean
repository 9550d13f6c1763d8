/- LogOld, walked. -/
import Derived.Test.YtefmeifamapdcaaLogV
set_option linter.unusedVariables false
set_option linter.unusedSimpArgs false
set_option maxRecDepth 100000
namespace Go.Proofs.Ytefmeifamapdcaa
open Go Go.RowKit CrcMath
attribute [local go_sem] Oper.semAt_some

theorem LgT.low {w wr w' : World} {p q lb m k half turn taken base : Nat} {L : List (List Nat)} (h : LgT w wr p q lb m k half turn taken L) (hb : Below base wr w') (hp : p < base) (hq : q < base) (hl : lb < base) : LgT w w' p q lb m k half turn taken L :=
  ⟨h.bel.trans (hb.mono (by have := h.bp.1; omega)), h.dk.keep (hb.block _ hp) (hb.block _ hq), h.at_.keep (hb.block _ hl), h.bp⟩
set_option maxHeartbeats 8000000 in
theorem old_walk (a : Int) (A : Option Addr) (n c : Nat) (l : List Bsl) (A1 : Option Addr) (n1 c1 : Nat) (b1 : List Nat) (A2 : Option Addr) (n2 c2 : Nat) (b2 : List Nat) (A3 : Option Addr) (n3 c3 : Nat) (b3 : List Nat) (w : World) (h1 : (Lit.int .u8 a).wf = true) (hr : Bss w w.heap.size A n l ∧ n ≤ c ∧ c ≤ maxLen)
    (hx1 : Rd w w.heap.size 1 A1 n1 (b1.map bv)) (hx2 : ∀ x ∈ b1, x < 256) (hx3 : n1 ≤ c1) (hx4 : c1 ≤ maxLen)
    (hy1 : Rd w w.heap.size 1 A2 n2 (b2.map bv)) (hy2 : ∀ x ∈ b2, x < 256) (hy3 : n2 ≤ c2) (hy4 : c2 ≤ maxLen)
    (hz1 : Rd w w.heap.size 1 A3 n3 (b3.map bv)) (hz2 : ∀ x ∈ b3, x < 256) (hz3 : n3 ≤ c3) (hz4 : c3 ≤ maxLen) :
    Calls Try.prog 6 #[.int .u8 a, .slice A n c, .slice A1 n1 c1, .slice A2 n2 c2, .slice A3 n3 c3] w fun e w' => e = .returned (.bool true) ∧ Below w.heap.size w w' := by
  obtain ⟨p1, p1'⟩ := wf_u8_lt h1
  obtain ⟨hr, hnc, hcm⟩ := hr
  obtain ⟨m, hm⟩ : ∃ m : Nat, m = (min (max a 1) 256).toNat := ⟨_, rfl⟩
  have Hm := Lib.hid hm
  have Hx1 := Lib.hid hx1
  have Hy1 := Lib.hid hy1
  have Hz1 := Lib.hid hz1
  have Hr := Lib.hid hr
  have hnm : n ≤ 9223372036854775807 := by unfold maxLen at hcm; omega
  have hn1 : n1 ≤ 9223372036854775807 := by unfold maxLen at hx4; omega
  have hn2 : n2 ≤ 9223372036854775807 := by unfold maxLen at hy4; omega
  have hn3 : n3 ≤ 9223372036854775807 := by unfold maxLen at hz4; omega
  clear h1 hx1 hy1 hz1 hr hm
  by_cases hbig : (n : Int) ≤ 60 ∧ (n1 : Int) ≤ 1000 ∧ (n2 : Int) ≤ 1000 ∧ (n3 : Int) ≤ 1000
  rotate_left
  · have go : ¬ (n : Int) ≤ 60 ∨ (n : Int) ≤ 60 ∧ ¬ (n1 : Int) ≤ 1000 ∨ (n : Int) ≤ 60 ∧ (n1 : Int) ≤ 1000 ∧ ¬ (n2 : Int) ≤ 1000 ∨ (n : Int) ≤ 60 ∧ (n1 : Int) ≤ 1000 ∧ (n2 : Int) ≤ 1000 ∧ ¬ (n3 : Int) ≤ 1000 := by omega
    clear hbig
    rcases go with h | ⟨h, h'⟩ | ⟨h, h', h''⟩ | ⟨h, h', h'', hq⟩
    all_goals
      go_enter Try.func6, Try.ntmps6
      go_wp2_with (first
        | (go_at_call 7; (with_reducible refine (head_any _).mono ?_); rintro e w1 ⟨rfl, hb1⟩)
        | (go_at_call 8; (with_reducible refine (lg_new w1 a).mono ?_)
           rintro e w2 ⟨rfl, hd2, hb2'⟩
           have HB2 : Hid (Below w.heap.size w w2) := hb1.trans (hb2'.mono hb1.size)
           clear hd2 hb2' hb1))
      go_ret; exact ⟨ret_bool (by simp), HB2.out⟩
  obtain ⟨h60, h1000, h1000', h1000''⟩ := hbig
  go_enter Try.func6, Try.ntmps6
  go_wp2_with (first
    | (go_at_call 7; (with_reducible refine (head_any _).mono ?_); rintro e w1 ⟨rfl, hb1⟩)
    | (go_at_call 8; (with_reducible refine (lg_new w1 _).mono ?_)
       rintro e w2 ⟨rfl, hd2, hb2'⟩
       rw [← Hm.out] at hd2
       have HD2 := Lib.hid hd2
       have HB1 := Lib.hid hb1
       have HB2 := Lib.hid hb2'
       clear hd2 hb2' hb1)
    | (go_at_call 10; (with_reducible refine (lg_open HD2.out).mono ?_)
       rintro e w3 ⟨v3, rfl, ho3, hl3, hd3, hb3'⟩
       obtain ⟨A4, c4, rfl⟩ := out_shape ho3
       have hS := lg_start HB1.out HB2.out HD2.out hb3' hl3
       obtain ⟨p, hp⟩ : ∃ p, p = w1.heap.size + 1 := ⟨_, rfl⟩
       obtain ⟨q, hq⟩ : ∃ q, q = w1.heap.size := ⟨_, rfl⟩
       obtain ⟨lb, hlb⟩ : ∃ lb, lb = w2.heap.size := ⟨_, rfl⟩
       rw [← hp, ← hq, ← hlb] at hS
       have HS := Lib.hid hS
       rw [← hp, ← hlb]
       clear ho3 hl3 hd3 hb3' hS hp hq hlb HD2 HB2 HB1))
  go_loopg [16] n (fun qq i wr => ∃ (j k half taken : Nat) (L : List (List Nat)), qq + j = n ∧ i = .int .i64 j ∧ k ≤ 8 * j ∧ LgT w wr p q lb m k half 1 taken L)
  case atStart => exact ⟨0, 0, 0, 0, [], by omega, rfl, by omega, HS.out⟩
  case round =>
    clear HS
    obtain ⟨j, k, half, taken, L, hj, rfl, hk, hS⟩ := hrel
    by_cases hlt : j < n
    · have hi0 : (0 : Int) ≤ (j : Int) := by omega
      have hi1 : (j : Int) < (n : Int) := by omega
      have hrr := Hr.out.below hS.bel
      obtain ⟨bb, o, rfl, hbB, hc⟩ := hrr.1.2 (by omega)
      obtain ⟨r, hr1⟩ : ∃ r, l[j]? = some r := ⟨_, List.getElem?_eq_getElem (by have := hrr.1.1; omega)⟩
      have c0 := hc j r hr1 0 (.slice r.A r.len r.cap) rfl
      rw [Nat.mul_one, Nat.add_zero] at c0
      obtain ⟨rb, rlt, rcap, rcm⟩ := hrr.2 r (List.mem_of_getElem? hr1)
      have hl63 : r.len ≤ 9223372036854775807 := by unfold maxLen at rcm; omega
      have HSr := Lib.hid hS
      clear hc hr1 hrr
      by_cases hl1000 : (r.len : Int) ≤ 1000
      rotate_left
      · go_wp2_with fail
        go_ret
        exact ⟨ret_bool (by simp), HSr.out.bel⟩
      rcases lg_add_case hS.dk hS.at_ rb hS.bel.size hS.bp.1 hS.bp.2.1 rlt rcap rcm (by omega) with ⟨_, hcall⟩ | ⟨_, en, hen, hcall⟩
      · have Hcall := Lib.hid hcall
        clear hcall hS rb
        go_wp2_with (first
          | (go_at_call 12; (with_reducible refine Hcall.out.mono ?_)
             rintro e w5 ⟨rfl, hd5, hl5, hc5⟩
             have HS5 := Lib.hid (HSr.out.step hd5 hl5 hc5)
             clear hd5 hl5 hc5 c0 HSr))
        go_roundg (gk - 1)
        case measure => omega
        case rel => exact ⟨j + 1, _, _, _, _, by omega, by go_num, by omega, HS5.out⟩
      · have Hcall := Lib.hid hcall
        clear hcall hS rb
        go_wp2_with (first
          | (go_at_call 12; (with_reducible refine Hcall.out.mono ?_)
             rintro e w5 ⟨rfl, hd5, hl5, hc5⟩
             have HS5 := Lib.hid (HSr.out.step hd5 hl5 hc5)
             clear hd5 hl5 hc5 c0 HSr))
        go_roundg (gk - 1)
        case measure => omega
        case rel => exact ⟨j + 1, _, _, _, _, by omega, by go_num, by omega, HS5.out⟩
    · obtain rfl : j = n := by omega
      have hi0 : ¬ (j : Int) < (j : Int) := by omega
      have hk8 : k + 8 < 1000000 := by omega
      have hkk : k + 8 + 8 < 1000000 := by omega
      have hkkk : k + 8 + 8 + 8 < 1000000 := by omega
      have Hkk := Lib.hid hkk
      have Hkkk := Lib.hid hkkk
      have HSr := Lib.hid hS
      rcases lg_comp_case hS.dk hS.at_ (Hx1.out.below hS.bel) hS.bel.size hS.bp.1 hS.bp.2.1 hx2 hx3 hx4 hk8 (by omega) with ⟨_, hcall⟩ | ⟨_, en, hen, hcall⟩
      rotate_left
      · have hez := en_ne hen
        have hez' : ((en : Int) != 0) = true := by simp [bne, hez]
        have Hcall := Lib.hid hcall
        clear hcall hS hk hj hlt hk8 hkk hkkk hen
        go_wp2_with (first
          | (go_at_call 11; (with_reducible refine Hcall.out.mono ?_)
             rintro e w5 ⟨rfl, hd5, hl5, hc5⟩
             have HS5 := Lib.hid (HSr.out.step hd5 hl5 hc5)
             clear hd5 hl5 hc5 HSr))
        go_ret
        exact ⟨ret_bool (by simp), HS5.out.bel⟩
      have Hcall := Lib.hid hcall
      clear hcall hS hk hj hlt hk8 hkk hkkk
      go_wp2_with (first
        | (go_at_call 11; (with_reducible refine Hcall.out.mono ?_)
           rintro e w5 ⟨rfl, hd5, hl5, hc5⟩
           have HS5 : Hid (LgT w w5 p q lb m (k + 8) (1 - half) 2 ((n1 + 55) / 56) [b1]) := HSr.out.step hd5 hl5 hc5
           clear hd5 hl5 hc5 HSr Hcall))
      have hS5 := HS5.out
      rcases lg_comp_case hS5.dk hS5.at_ (Hy1.out.below hS5.bel) hS5.bel.size hS5.bp.1 hS5.bp.2.1 hy2 hy3 hy4 Hkk.out (by omega) with ⟨_, hcall⟩ | ⟨_, en, hen, hcall⟩
      rotate_left
      · have hez := en_ne hen
        have hez' : ((en : Int) != 0) = true := by simp [bne, hez]
        have Hcall := Lib.hid hcall
        clear hcall hS5 hen
        go_wp2_with (first
          | (go_at_call 11; (with_reducible refine Hcall.out.mono ?_)
             rintro e w6 ⟨rfl, hd5, hl5, hc5⟩
             have HS6 := Lib.hid (HS5.out.step hd5 hl5 hc5)
             clear hd5 hl5 hc5 HS5))
        go_ret
        exact ⟨ret_bool (by simp), HS6.out.bel⟩
      have Hcall := Lib.hid hcall
      clear hcall hS5
      go_wp2_with (first
        | (go_at_call 11; (with_reducible refine Hcall.out.mono ?_)
           rintro e w6 ⟨rfl, hd5, hl5, hc5⟩
           have HS6 : Hid (LgT w w6 p q lb m (k + 8 + 8) (1 - (1 - half)) 3 ((n2 + 55) / 56) [b2]) := HS5.out.step hd5 hl5 hc5
           clear hd5 hl5 hc5 HS5 Hcall)
        | (go_at_call 10; (with_reducible refine (lg_open HS6.out.dk).mono ?_)
           rintro e w9 ⟨v9, rfl, ho9, hl9, hd9, hb9⟩
           obtain ⟨A9, c9, rfl⟩ := out_shape ho9
           have HS9 := Lib.hid (HS6.out.below hb9)
           have al9 : Below w9.heap.size w9 (w9.alloc (.cells #[.slice A2 n2 c2] 23)) := (Below.refl _ _).alloc (Nat.le_refl _) _
           have HO9 : Hid (SS (w9.alloc (.cells #[.slice A2 n2 c2] 23)) A9 1 [b2]) := ((show OutOk w9 (w6.heap.size + 1) w9.heap.size (.slice A9 1 c9) [b2] from ho9).below al9 (Nat.le_refl _)).ss al9.size rfl
           have HR9 : Hid (SS (w9.alloc (.cells #[.slice A2 n2 c2] 23)) (some ⟨w9.heap.size, 0, none⟩) 1 [b2]) := ss_one (Hy1.out.below HS9.out.bel) HS9.out.bel.size
           have HS9' := Lib.hid (HS9.out.below al9)
           clear ho9 hl9 hd9 hb9 HS6 HS9 al9)
        | (go_at_call 13; (with_reducible refine (same_yes A9 (some ⟨w9.heap.size, 0, none⟩) 1 c9 1 [b2] _ HO9.out HR9.out (by omega)).mono ?_)
           rintro e w10 ⟨rfl, hb10⟩
           have HS10 := Lib.hid (HS9'.out.below hb10)
           clear hb10 HS9' HO9 HR9))
      have al : Below w10.heap.size w10 (w10.alloc (.cells #[.slice A2 n2 c2] 23)) := (Below.refl _ _).alloc (Nat.le_refl _) _
      have hh6 : HvOk (w10.alloc (.cells #[.slice A2 n2 c2] 23)) w10.heap.size w.heap.size (.slice (some ⟨w10.heap.size, 0, none⟩) 1 1) [b2] := HvOk.one (Hy1.out.below HS10.out.bel) HS10.out.bel.size (Nat.le_refl _)
      have hS6 := HS10.out.below al
      have hp5 := HS10.out.dk.pl
      have hq5 := HS10.out.dk.ql
      have hl5 := HS10.out.at_.lt
      have hb56 := HS10.out.bel.size
      clear al
      obtain ⟨w6, hw6⟩ : ∃ x, x = w10.alloc (.cells #[.slice A2 n2 c2] 23) := ⟨_, rfl⟩
      obtain ⟨base, hbase⟩ : ∃ x, x = w10.heap.size := ⟨_, rfl⟩
      rw [← hw6] at hS6 hh6
      rw [← hbase] at hh6 hp5 hq5 hl5 hb56
      have hb6 : base ≤ w6.heap.size := by rw [hbase, hw6, World.size_alloc]; omega
      have HP := Lib.hid (And.intro hp5 (And.intro hq5 hl5))
      have HH6 := Lib.hid hh6
      have HS6 := Lib.hid hS6
      have hbc : Below w.heap.size w w6 := hS6.bel
      rcases lg_add_case hS6.dk hS6.at_ (Hz1.out.below hbc) hbc.size hS6.bp.1 hS6.bp.2.1 hz2 hz3 hz4 Hkkk.out with ⟨hf, hcall⟩ | ⟨hf, en, hen, hcall⟩
      · have Hcall := Lib.hid hcall
        rw [← hw6]
        clear hcall hS6 hh6 hp5 hq5 hl5 hbc hf hw6
        go_wp2_with (first
          | (go_at_call 12; (with_reducible refine Hcall.out.mono ?_)
             rintro e w7 ⟨rfl, hd7, hl7, hc7⟩
             have HH7 := Lib.hid (HH6.out.chg3 HS6.out.dk HS6.out.at_ hc7 HS6.out.bp.1 HS6.out.bp.2.1 HS6.out.bp.2.2)
             have HS7 := Lib.hid (HS6.out.step hd7 hl7 hc7)
             have hb7 : base ≤ w7.heap.size := Nat.le_trans hb6 hc7.size
             clear hd7 hl7 hc7 HH6 HS6 hb6)
          | (rw [← hbase]; with_reducible refine wpList_hv rfl (.tmp 118) (.tmp 120) rfl rfl base w.heap.size (.slice (some ⟨base, 0, none⟩) 1 1) [b2] HH7.out rfl A3 n3 c3 b3 (Hz1.out.below HS7.out.bel) rfl rfl (by simp) hb7 hb56 ?_
             intro v8 w8 hh8 hb8
             obtain ⟨A8, c8, rfl⟩ := hv_shape hh8
             have HH8 : Hid (HvOk w8 base w.heap.size (.slice A8 2 c8) [b2, b3]) := hh8
             have HS8 := Lib.hid (HS7.out.low hb8 HP.out.1 HP.out.2.1 HP.out.2.2)
             clear hh8 hb8 HH7 HS7 hb7))
        go_wp2_with (first
          | (go_at_call 10; (with_reducible refine (lg_open HS8.out.dk).mono ?_)
             rintro e w9 ⟨v9, rfl, ho9, hl9, hd9, hb9⟩
             obtain ⟨A9, c9, rfl⟩ := out_shape ho9
             have HO9 : Hid (OutOk w9 (w8.heap.size + 1) w9.heap.size (.slice A9 2 c9) [b2, b3]) := ho9
             have HS9 := Lib.hid (HS8.out.below hb9)
             have HH9 := Lib.hid (HH8.out.below hb9 HS8.out.bel.size)
             clear ho9 hl9 hd9 hb9 HS8 HH8)
          | (go_at_call 13; (with_reducible refine (same_yes A9 A8 2 c9 c8 [b2, b3] w9 (HO9.out.ss (Nat.le_refl _) rfl) (HH9.out.ss HS9.out.bel.size rfl) (by omega)).mono ?_)
             rintro e w10 ⟨rfl, hb10⟩
             have HS10 := Lib.hid (HS9.out.below hb10)
             clear hb10 HS9 HO9 HH9))
        go_ret
        exact ⟨ret_bool (by simp), HS10.out.bel⟩
      · have hez := en_ne hen
        have Hcall := Lib.hid hcall
        rw [← hw6]
        clear hcall hS6 hh6 hp5 hq5 hl5 hbc hf hw6 hen
        go_wp2_with (first
          | (go_at_call 12; (with_reducible refine Hcall.out.mono ?_)
             rintro e w8 ⟨rfl, hd7, hl7, hc7⟩
             have hh8 := HH6.out.chg3 HS6.out.dk HS6.out.at_ hc7 HS6.out.bp.1 HS6.out.bp.2.1 HS6.out.bp.2.2
             have HS8 := Lib.hid (HS6.out.step hd7 hl7 hc7)
             obtain ⟨A8, hA8⟩ : ∃ A8 : Option Addr, A8 = some ⟨base, 0, none⟩ := ⟨_, rfl⟩
             have HH8 : Hid (HvOk w8 base w.heap.size (.slice A8 1 1) [b2]) := by rw [hA8]; exact hh8
             rw [← hbase, ← hA8]
             clear hd7 hl7 hc7 HH6 HS6 hb6 hh8 hA8))
        go_wp2_with (first
          | (go_at_call 10; (with_reducible refine (lg_open HS8.out.dk).mono ?_)
             rintro e w9 ⟨v9, rfl, ho9, hl9, hd9, hb9⟩
             obtain ⟨A9, c9, rfl⟩ := out_shape ho9
             have HO9 : Hid (OutOk w9 (w8.heap.size + 1) w9.heap.size (.slice A9 1 c9) [b2]) := ho9
             have HS9 := Lib.hid (HS8.out.below hb9)
             have HH9 := Lib.hid (HH8.out.below hb9 HS8.out.bel.size)
             clear ho9 hl9 hd9 hb9 HS8 HH8)
          | (go_at_call 13; (with_reducible refine (same_yes A9 A8 1 c9 1 [b2] w9 (HO9.out.ss (Nat.le_refl _) rfl) (HH9.out.ss HS9.out.bel.size rfl) (by omega)).mono ?_)
             rintro e w10 ⟨rfl, hb10⟩
             have HS10 := Lib.hid (HS9.out.below hb10)
             clear hb10 HS9 HO9 HH9))
        go_ret
        exact ⟨ret_bool (by simp), HS10.out.bel⟩
end Go.Proofs.Ytefmeifamapdcaa
