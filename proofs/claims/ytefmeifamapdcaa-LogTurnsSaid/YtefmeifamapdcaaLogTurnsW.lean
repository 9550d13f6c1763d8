/- LogTurns, walked. -/
import Derived.Test.YtefmeifamapdcaaLogV
set_option linter.unusedVariables false
set_option linter.unusedSimpArgs false
set_option maxRecDepth 100000
namespace Go.Proofs.Ytefmeifamapdcaa
open Go Go.RowKit CrcMath
attribute [local go_sem] Oper.semAt_some

theorem count_t (w : World) : Calls Try.prog 16 #[.bool true] w fun e w' => e = .returned (.int .i64 1) ∧ w' = w := count_any true w
theorem count_f (w : World) : Calls Try.prog 16 #[.bool false] w fun e w' => e = .returned (.int .i64 0) ∧ w' = w := count_any false w
theorem LgT.low {w wr w' : World} {p q lb m k half turn taken base : Nat} {L : List (List Nat)} (h : LgT w wr p q lb m k half turn taken L) (hb : Below base wr w') (hp : p < base) (hq : q < base) (hl : lb < base) : LgT w w' p q lb m k half turn taken L :=
  ⟨h.bel.trans (hb.mono (by have := h.bp.1; omega)), h.dk.keep (hb.block _ hp) (hb.block _ hq), h.at_.keep (hb.block _ hl), h.bp⟩
set_option maxHeartbeats 8000000 in
theorem turns_walk (a : Int) (A : Option Addr) (n c : Nat) (l : List Bsl) (A2 : Option Addr) (n2 c2 : Nat) (b : List Nat) (w : World) (h1 : (Lit.int .u8 a).wf = true) (hr : Bss w w.heap.size A n l ∧ n ≤ c ∧ c ≤ maxLen)
    (hb1 : Rd w w.heap.size 1 A2 n2 (b.map bv)) (hb2 : ∀ x ∈ b, x < 256) (hb3 : n2 ≤ c2) (hb4 : c2 ≤ maxLen) :
    Calls Try.prog 5 #[.int .u8 a, .slice A n c, .slice A2 n2 c2] w fun e w' => e = .returned (.bool true) ∧ Below w.heap.size w w' := by
  obtain ⟨p1, p1'⟩ := wf_u8_lt h1
  obtain ⟨hr, hnc, hcm⟩ := hr
  obtain ⟨m, hm⟩ : ∃ m : Nat, m = (min (max a 1) 256).toNat := ⟨_, rfl⟩
  have Hm := Lib.hid hm
  have Hb1 := Lib.hid hb1
  have Hr := Lib.hid hr
  have hnm : n ≤ 9223372036854775807 := by unfold maxLen at hcm; omega
  have hn63 : n2 ≤ 9223372036854775807 := by unfold maxLen at hb4; omega
  clear h1 hb1 hr hm
  by_cases hbig : (n : Int) ≤ 60 ∧ (n2 : Int) ≤ 1000
  rotate_left
  · have go : ¬ (n : Int) ≤ 60 ∨ (n : Int) ≤ 60 ∧ ¬ (n2 : Int) ≤ 1000 := by omega
    clear hbig
    rcases go with h | ⟨h, h'⟩
    all_goals
      go_enter Try.func5, Try.ntmps5
      go_wp2_with (first
        | (go_at_call 7; (with_reducible refine (head_any _).mono ?_); rintro e w1 ⟨rfl, hb1⟩)
        | (go_at_call 8; (with_reducible refine (lg_new w1 a).mono ?_)
           rintro e w2 ⟨rfl, hd2, hb2'⟩
           have HB2 : Hid (Below w.heap.size w w2) := hb1.trans (hb2'.mono hb1.size)
           clear hd2 hb2' hb1))
      go_ret; exact ⟨ret_bool (by simp), HB2.out⟩
  obtain ⟨h60, h1000⟩ := hbig
  have ha : a < 1 ∨ ¬ a < 1 := by omega
  rcases ha with ha | ha
  all_goals
    go_enter Try.func5, Try.ntmps5
    go_wp2_with (first
      | (go_at_call 7; (with_reducible refine (head_any _).mono ?_); rintro e w1 ⟨rfl, hb1⟩)
      | (go_at_call 8; (with_reducible refine (lg_new w1 _).mono ?_)
         rintro e w2 ⟨rfl, hd2, hb2'⟩
         rw [← Hm.out] at hd2
         have HD2 := Lib.hid hd2
         have HB1 := Lib.hid hb1
         have HB2 := Lib.hid hb2'
         clear hd2 hb2' hb1)
      | (go_at_call 10; (with_reducible refine (lg_open HD2.out).mono ?_)
         rintro e w3 ⟨v3, rfl, ho3, hl3, hd3, hb3'⟩
         obtain ⟨A3, c3, rfl⟩ := out_shape ho3
         have hS := lg_start HB1.out HB2.out HD2.out hb3' hl3
         obtain ⟨p, hp⟩ : ∃ p, p = w1.heap.size + 1 := ⟨_, rfl⟩
         obtain ⟨q, hq⟩ : ∃ q, q = w1.heap.size := ⟨_, rfl⟩
         obtain ⟨lb, hlb⟩ : ∃ lb, lb = w2.heap.size := ⟨_, rfl⟩
         rw [← hp, ← hq, ← hlb] at hS
         have HS := Lib.hid hS
         rw [← hp, ← hlb]
         clear ho3 hl3 hd3 hb3' hS hp hq hlb HD2 HB2 HB1))
    go_loopg [12] n (fun qq i wr => ∃ (j k half turn taken : Nat) (L : List (List Nat)), qq + j = n ∧ i = .int .i64 j ∧ k ≤ 16 * j ∧ turn ≤ 1 + j ∧ LgT w wr p q lb m k half turn taken L)
    case atStart => exact ⟨0, 0, 0, 1, 0, [], by omega, rfl, by omega, by omega, HS.out⟩
    case round =>
      clear HS
      obtain ⟨j, k, half, turn, taken, L, hj, rfl, hk, htu, hS⟩ := hrel
      by_cases hlt : j < n
      · have hi0 : (0 : Int) ≤ (j : Int) := by omega
        have hi1 : (j : Int) < (n : Int) := by omega
        have hrr := Hr.out.below hS.bel
        obtain ⟨bb, o, rfl, hbB, hc⟩ := hrr.1.2 (by omega)
        obtain ⟨r, hr1⟩ : ∃ r, l[j]? = some r := ⟨_, List.getElem?_eq_getElem (by have := hrr.1.1; omega)⟩
        have c0 := hc j r hr1 0 (.slice r.A r.len r.cap) rfl
        rw [Nat.mul_one, Nat.add_zero] at c0
        obtain ⟨rb, rlt, rcap, rcm⟩ := hrr.2 r (List.mem_of_getElem? hr1)
        have hl63 : r.len ≤ 9223372036854775807 := by unfold maxLen at rcm; omega
        have HSr := Lib.hid hS
        have HRb := Lib.hid rb
        clear hc hr1 hrr
        by_cases hl1000 : (r.len : Int) ≤ 1000
        rotate_left
        · go_wp2_with fail
          go_ret
          exact ⟨ret_bool (by simp), HSr.out.bel⟩
        have cell : ∀ w', Below w.heap.size wr w' → w'.cell? ⟨bb, o + j, none⟩ = some (.slice r.A r.len r.cap) := fun w' h => (h.cell (p := ⟨bb, o + j, none⟩) hbB).trans c0
        have Hcell := Lib.hid cell
        have htI : (turn : Int) ≤ 61 := by omega
        have hm' := Hm.out
        rcases lg_comp_case hS.dk hS.at_ rb hS.bel.size hS.bp.1 hS.bp.2.1 rlt rcap rcm (by omega) (by omega) with ⟨⟨f1, f2, f3⟩, hcall⟩ | ⟨hf, en, hen, hcall⟩
        · first
            | (exfalso; omega)
            | (have g1 : 0 < r.len := by omega
               have g2 : (r.len : Int) ≤ 448 := by omega
               have g3 : ((r.len : Int) + 55) / 56 ≤ a / 2 := by omega
               obtain ⟨rm, hrm⟩ : ∃ rm : Int, ((m / 2 : Nat) : Int) - (((r.len + 55) / 56 : Nat) : Int) = rm := ⟨_, rfl⟩
               have Hcall := Lib.hid hcall
               have Hrm := Lib.hid hrm
               have Hf3 := Lib.hid f3
               have Hkk : Hid (k + 8 + 8 < 1000000) := by show _ < _; omega
               clear hcall hS rb f1 f2 f3 hm' cell hrm
               go_wp2_with (first
                 | (go_at_call 15; (with_reducible refine (lg_turn_is turn HSr.out.at_ rfl).mono ?_)
                    rintro e w4 ⟨rfl, hw4⟩
                    obtain rfl := hw4.symm)
                 | (go_at_call 11; (with_reducible refine Hcall.out.mono ?_)
                    rintro e w5 ⟨rfl, hd5, hl5, hc5⟩
                    have hS5 := HSr.out.step hd5 hl5 hc5
                    have x5 := Hcell.out _ (HSr.out.three hc5)
                    have HR5 := Lib.hid (HRb.out.below (HSr.out.three hc5))
                    have HS5 := Lib.hid hS5
                    clear hd5 hl5 hc5 hS5 c0 HSr HRb)
                 | (go_at_call 15; (with_reducible refine (lg_turn_is ((turn : Int) + 1) HS5.out.at_ (by omega)).mono ?_)
                    rintro e w6 ⟨rfl, hw6⟩
                    obtain rfl := hw6.symm)
                 | (go_at_call 16; (with_reducible refine (count_t _).mono ?_)
                    rintro e w7 ⟨rfl, hw7⟩
                    obtain rfl := hw7.symm))
               have al : Below w5.heap.size w5 (w5.alloc (.cells #[.slice r.A r.len r.cap] 23)) := (Below.refl _ _).alloc (Nat.le_refl _) _
               have hh6 : HvOk (w5.alloc (.cells #[.slice r.A r.len r.cap] 23)) w5.heap.size w.heap.size (.slice (some ⟨w5.heap.size, 0, none⟩) 1 1) [r.b] := HvOk.one HR5.out HS5.out.bel.size (Nat.le_refl _)
               have hS6 := HS5.out.below al
               have hp5 := HS5.out.dk.pl
               have hq5 := HS5.out.dk.ql
               have hl5 := HS5.out.at_.lt
               have hb56 := HS5.out.bel.size
               clear al
               obtain ⟨w6, hw6⟩ : ∃ x, x = w5.alloc (.cells #[.slice r.A r.len r.cap] 23) := ⟨_, rfl⟩
               obtain ⟨base, hbase⟩ : ∃ x, x = w5.heap.size := ⟨_, rfl⟩
               rw [← hw6] at hS6 hh6
               rw [← hbase] at hh6 hp5 hq5 hl5 hb56
               have hb6 : base ≤ w6.heap.size := by rw [hbase, hw6, World.size_alloc]; omega
               have HP := Lib.hid (And.intro hp5 (And.intro hq5 hl5))
               have HH6 := Lib.hid hh6
               have HS6 := Lib.hid hS6
               have hbc : Below w.heap.size w w6 := hS6.bel
               rcases lg_add_case hS6.dk hS6.at_ (Hb1.out.below hbc) hbc.size hS6.bp.1 hS6.bp.2.1 hb2 hb3 hb4 Hkk.out with ⟨hf, hcall⟩ | ⟨hf, en, hen, hcall⟩
               · have Hcall := Lib.hid hcall
                 rw [← hw6]
                 clear hcall hS6 hh6 hp5 hq5 hl5 hbc hf hw6
                 go_wp2_with (first
                   | (go_at_call 12; (with_reducible refine Hcall.out.mono ?_)
                      rintro e w7 ⟨rfl, hd7, hl7, hc7⟩
                      have HH7 := Lib.hid (HH6.out.chg3 HS6.out.dk HS6.out.at_ hc7 HS6.out.bp.1 HS6.out.bp.2.1 HS6.out.bp.2.2)
                      have HS7 := Lib.hid (HS6.out.step hd7 hl7 hc7)
                      have hb7 : base ≤ w7.heap.size := Nat.le_trans hb6 hc7.size
                      clear hd7 hl7 hc7 HH6 HS6 hb6)
                   | (rw [← hbase]; with_reducible refine wpList_hv rfl (.tmp 126) (.tmp 128) rfl rfl base w.heap.size (.slice (some ⟨base, 0, none⟩) 1 1) [r.b] HH7.out rfl A2 n2 c2 b (Hb1.out.below HS7.out.bel) rfl rfl (by simp) hb7 hb56 ?_
                      intro v8 w8 hh8 hb8
                      obtain ⟨A8, c8, rfl⟩ := hv_shape hh8
                      have HH8 : Hid (HvOk w8 base w.heap.size (.slice A8 2 c8) [r.b, b]) := hh8
                      have HS8 := Lib.hid (HS7.out.low hb8 HP.out.1 HP.out.2.1 HP.out.2.2)
                      clear hh8 hb8 HH7 HS7 hb7))
                 go_wp2_with (first
                   | (go_at_call 10; (with_reducible refine (lg_open HS8.out.dk).mono ?_)
                      rintro e w9 ⟨v9, rfl, ho9, hl9, hd9, hb9⟩
                      obtain ⟨A9, c9, rfl⟩ := out_shape ho9
                      have HO9 : Hid (OutOk w9 (w8.heap.size + 1) w9.heap.size (.slice A9 2 c9) [r.b, b]) := ho9
                      have HL9 := Lib.hid hl9
                      have HS9 := Lib.hid (HS8.out.below hb9)
                      have HH9 := Lib.hid (HH8.out.below hb9 HS8.out.bel.size)
                      clear ho9 hl9 hd9 hb9 HS8 HH8)
                   | (go_at_call 13; (with_reducible refine (same_yes A9 A8 2 c9 c8 [r.b, b] w9 (HO9.out.ss (Nat.le_refl _) rfl) (HH9.out.ss HS9.out.bel.size rfl) (by omega)).mono ?_)
                      rintro e w10 ⟨rfl, hb10⟩
                      have HS10 := Lib.hid (HS9.out.below hb10)
                      have HL10 := Lib.hid (HL9.out.below hb10)
                      clear hb10 HS9 HL9 HO9 HH9)
                   | (go_at_call 15; (with_reducible refine (lg_turn_is ((turn : Int) + 1) HL10.out (by omega)).mono ?_)
                      rintro e w11 ⟨rfl, hw11⟩
                      obtain rfl := hw11.symm)
                   | (go_at_call 15; (with_reducible refine (lg_turn_is ((turn : Int) + 1) HS10.out.at_ (by omega)).mono ?_)
                      rintro e w12 ⟨rfl, hw12⟩
                      obtain rfl := hw12.symm)
                   | (go_at_call 14; (with_reducible refine (lg_room_of _ HS10.out.dk HL10.out HS10.out.dk.room rfl).mono ?_)
                      rintro e w13 ⟨rfl, hb13⟩
                      have HS13 := Lib.hid (HS10.out.below hb13)
                      clear hb13 HS10 HL10)
                   | (go_at_call 14; (with_reducible refine (lg_room_of _ HS13.out.dk HS13.out.at_ HS13.out.dk.room rfl).mono ?_)
                      rintro e w14 ⟨rfl, hb14⟩
                      have HS14 := Lib.hid (HS13.out.below hb14)
                      clear hb14 HS13))
                 go_roundg (gk - 1)
                 case measure => omega
                 case rel => exact ⟨j + 1, _, _, _, _, _, by omega, by go_num, by omega, by omega, HS14.out⟩
               · have hez := en_ne hen
                 have Hcall := Lib.hid hcall
                 rw [← hw6]
                 clear hcall hS6 hh6 hp5 hq5 hl5 hbc hf hw6 hen
                 go_wp2_with (first
                   | (go_at_call 12; (with_reducible refine Hcall.out.mono ?_)
                      rintro e w8 ⟨rfl, hd7, hl7, hc7⟩
                      have hh8 := HH6.out.chg3 HS6.out.dk HS6.out.at_ hc7 HS6.out.bp.1 HS6.out.bp.2.1 HS6.out.bp.2.2
                      have HS8 := Lib.hid (HS6.out.step hd7 hl7 hc7)
                      obtain ⟨A8, hA8⟩ : ∃ A8 : Option Addr, A8 = some ⟨base, 0, none⟩ := ⟨_, rfl⟩
                      have HH8 : Hid (HvOk w8 base w.heap.size (.slice A8 1 1) [r.b]) := by rw [hA8]; exact hh8
                      rw [← hbase, ← hA8]
                      clear hd7 hl7 hc7 HH6 HS6 hb6 hh8 hA8))
                 go_wp2_with (first
                   | (go_at_call 10; (with_reducible refine (lg_open HS8.out.dk).mono ?_)
                      rintro e w9 ⟨v9, rfl, ho9, hl9, hd9, hb9⟩
                      obtain ⟨A9, c9, rfl⟩ := out_shape ho9
                      have HO9 : Hid (OutOk w9 (w8.heap.size + 1) w9.heap.size (.slice A9 1 c9) [r.b]) := ho9
                      have HL9 := Lib.hid hl9
                      have HS9 := Lib.hid (HS8.out.below hb9)
                      have HH9 := Lib.hid (HH8.out.below hb9 HS8.out.bel.size)
                      clear ho9 hl9 hd9 hb9 HS8 HH8)
                   | (go_at_call 13; (with_reducible refine (same_yes A9 A8 1 c9 1 [r.b] w9 (HO9.out.ss (Nat.le_refl _) rfl) (HH9.out.ss HS9.out.bel.size rfl) (by omega)).mono ?_)
                      rintro e w10 ⟨rfl, hb10⟩
                      have HS10 := Lib.hid (HS9.out.below hb10)
                      have HL10 := Lib.hid (HL9.out.below hb10)
                      clear hb10 HS9 HL9 HO9 HH9)
                   | (go_at_call 15; (with_reducible refine (lg_turn_is ((turn : Int) + 1) HL10.out (by omega)).mono ?_)
                      rintro e w11 ⟨rfl, hw11⟩
                      obtain rfl := hw11.symm)
                   | (go_at_call 15; (with_reducible refine (lg_turn_is ((turn : Int) + 1) HS10.out.at_ (by omega)).mono ?_)
                      rintro e w12 ⟨rfl, hw12⟩
                      obtain rfl := hw12.symm)
                   | (go_at_call 14; (with_reducible refine (lg_room_of _ HS10.out.dk HL10.out HS10.out.dk.room rfl).mono ?_)
                      rintro e w13 ⟨rfl, hb13⟩
                      have HS13 := Lib.hid (HS10.out.below hb13)
                      clear hb13 HS10 HL10)
                   | (go_at_call 14; (with_reducible refine (lg_room_of _ HS13.out.dk HS13.out.at_ HS13.out.dk.room rfl).mono ?_)
                      rintro e w14 ⟨rfl, hb14⟩
                      have HS14 := Lib.hid (HS13.out.below hb14)
                      clear hb14 HS13))
                 go_roundg (gk - 1)
                 case measure => omega
                 case rel => exact ⟨j + 1, _, _, _, _, _, by omega, by go_num, by omega, by omega, HS14.out⟩)
        · have hez := en_ne hen
          have go : ¬ (0 < r.len) ∨ 0 < r.len ∧ ¬ (r.len : Int) ≤ 448 ∨ 0 < r.len ∧ (r.len : Int) ≤ 448 ∧ (((r.len : Int) + 55) / 56 ≤ a / 2) = False ∧ (((r.len : Int) + 55) / 56 ≤ 0) = False := by
            have go : ¬ (0 < r.len) ∨ 0 < r.len ∧ ¬ (r.len : Int) ≤ 448 ∨ 0 < r.len ∧ (r.len : Int) ≤ 448 ∧ ¬ ((r.len : Int) + 55) / 56 ≤ a / 2 ∧ ¬ ((r.len : Int) + 55) / 56 ≤ 0 := by
              unfold CompFits at hf
              omega
            simpa only [eq_iff_iff, iff_false] using go
          have Hcall := Lib.hid hcall
          clear hcall hS rb hen hf hm' cell
          rcases go with g1 | ⟨g1, g2⟩ | ⟨g1, g2, g3, g4⟩
          all_goals
            go_wp2_with (first
              | (go_at_call 15; (with_reducible refine (lg_turn_is turn HSr.out.at_ rfl).mono ?_)
                 rintro e w4 ⟨rfl, hw4⟩
                 obtain rfl := hw4.symm)
              | (go_at_call 11; (with_reducible refine Hcall.out.mono ?_)
                 rintro e w5 ⟨rfl, hd5, hl5, hc5⟩
                 have hS5 := HSr.out.step hd5 hl5 hc5
                 have x5 := Hcell.out _ (HSr.out.three hc5)
                 have HS5 := Lib.hid hS5
                 clear hd5 hl5 hc5 hS5 c0 HSr)
              | (go_at_call 15; (with_reducible refine (lg_turn_is turn HS5.out.at_ rfl).mono ?_)
                 rintro e w6 ⟨rfl, hw6⟩
                 obtain rfl := hw6.symm)
              | (go_at_call 16; (with_reducible refine (count_f _).mono ?_)
                 rintro e w7 ⟨rfl, hw7⟩
                 obtain rfl := hw7.symm))
            go_roundg (gk - 1)
            case measure => omega
            case rel => exact ⟨j + 1, _, _, _, _, _, by omega, by go_num, by omega, by omega, HS5.out⟩
      · obtain rfl : j = n := by omega
        have hi0 : ¬ (j : Int) < (j : Int) := by omega
        have HB := Lib.hid hS.bel
        clear hS hk htu hj hlt
        go_wp2_with fail
        go_ret
        exact ⟨ret_bool (by simp), HB.out⟩
end Go.Proofs.Ytefmeifamapdcaa
