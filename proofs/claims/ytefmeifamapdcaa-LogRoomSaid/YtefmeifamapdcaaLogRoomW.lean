/- LogRoom, walked. -/
import Derived.Test.YtefmeifamapdcaaLogV
set_option linter.unusedVariables false
set_option linter.unusedSimpArgs false
set_option maxRecDepth 100000
namespace Go.Proofs.Ytefmeifamapdcaa
open Go Go.RowKit CrcMath
attribute [local go_sem] Oper.semAt_some

set_option maxHeartbeats 8000000 in
theorem room_walk (a : Int) (A : Option Addr) (n c : Nat) (l : List Int) (w : World) (h1 : (Lit.int .u8 a).wf = true) (hr : RdS (fun z : Int => [Value.int .u16 z]) w w.heap.size 1 A n l ∧ (∀ z ∈ l, 0 ≤ z ∧ z < 65536) ∧ n ≤ c ∧ c ≤ maxLen) :
    Calls Try.prog 4 #[.int .u8 a, .slice A n c] w fun e w' => e = .returned (.bool true) ∧ Below w.heap.size w w' := by
  obtain ⟨p1, p1'⟩ := wf_u8_lt h1
  obtain ⟨hr, hlz, hnc, hcm⟩ := hr
  have hnm : n ≤ 9223372036854775807 := by unfold maxLen at hcm; omega
  obtain ⟨m, hm⟩ : ∃ m : Nat, m = (min (max a 1) 256).toNat := ⟨_, rfl⟩
  have hcs : a = 0 ∧ m = 1 ∨ a = (m : Int) ∧ 1 ≤ m ∧ m ≤ 255 := by omega
  have Hm := Lib.hid hm
  have Hr := Lib.hid hr
  obtain ⟨i0, hi, hz0, hz1, hz2⟩ := info_parts info_u8s
  clear h1 hr hm p1 p1'
  by_cases hn300 : (n : Int) ≤ 300
  rotate_left
  · go_enter Try.func4, Try.ntmps4
    go_wp2_with (first
      | (go_at_call 7; (with_reducible refine (head_any _).mono ?_); rintro e w1 ⟨rfl, hb1⟩)
      | (go_at_call 8; (with_reducible refine (lg_new w1 a).mono ?_)
         rintro e w2 ⟨rfl, hd2, hb2'⟩
         have HB2 : Hid (Below w.heap.size w w2) := hb1.trans (hb2'.mono hb1.size)
         clear hd2 hb2' hb1))
    go_ret; exact ⟨ret_bool (by simp), HB2.out⟩
  rcases hcs with ⟨rfl, hm1⟩ | ⟨rfl, hm1⟩
  all_goals
    have hmI : (m : Int) ≤ 255 := by omega
    have hmJ : ¬ (m : Int) < 1 := by omega
    have HMC := Lib.hid hm1
    clear hm1
    go_enter Try.func4, Try.ntmps4
    go_wp2_with (first
      | (go_at_call 7; (with_reducible refine (head_any _).mono ?_); rintro e w1 ⟨rfl, hb1⟩)
      | (go_at_call 8; (with_reducible refine (lg_new w1 _).mono ?_)
         rintro e w2 ⟨rfl, hd2, hb2'⟩
         rw [← Hm.out] at hd2
         have HD2 := Lib.hid hd2
         have HB1 := Lib.hid hb1
         have HB2 := Lib.hid hb2'
         clear hd2 hb2' hb1)
      | (go_at_call 10; (with_reducible refine (lg_open HD2.out).mono ?_)
         rintro e w3 ⟨v3, rfl, ho3, hl3, hd3, hb3'⟩
         obtain ⟨A3, c3, rfl⟩ := out_shape ho3
         have hS := lg_start HB1.out HB2.out HD2.out hb3' hl3
         obtain ⟨p, hp⟩ : ∃ p, p = w1.heap.size + 1 := ⟨_, rfl⟩
         obtain ⟨q, hq⟩ : ∃ q, q = w1.heap.size := ⟨_, rfl⟩
         obtain ⟨lb, hlb⟩ : ∃ lb, lb = w2.heap.size := ⟨_, rfl⟩
         rw [← hp, ← hq, ← hlb] at hS
         have HS := Lib.hid hS
         rw [← hp, ← hlb]
         clear ho3 hl3 hd3 hb3' hS hp hq hlb HD2 HB2 HB1))
    go_loopg [11, 12] n (fun qq lf i wr => ∃ (j k taken : Nat) (lv : Int) (L : List (List Nat)), qq + j = n ∧ i = .int .i64 j ∧ lf = .int .i64 lv ∧ lv = ((m / 2 : Nat) : Int) - (taken : Int) ∧ k ≤ 8 * j ∧ LgT w wr p q lb m k 0 1 taken L)
    case atStart => exact ⟨0, 0, 0, _, [], by omega, rfl, rfl, by have := HMC.out; omega, by omega, HS.out⟩
    case round =>
      clear HS
      obtain ⟨j, k, taken, lv, L, hj, rfl, rfl, hlv, hk, hS⟩ := hrel
      by_cases hlt : j < n
      · have hi0 : (0 : Int) ≤ (j : Int) := by omega
        have hi1 : (j : Int) < (n : Int) := by omega
        have hrr := Hr.out.below hS.bel
        obtain ⟨bb, o, rfl, hbB, hc⟩ := hrr.2 (by omega)
        obtain ⟨z, hz⟩ : ∃ z, l[j]? = some z := ⟨_, List.getElem?_eq_getElem (by have := hrr.1; omega)⟩
        have c0 := hc j z hz 0 (.int .u16 z) rfl
        obtain ⟨z0, z1⟩ := hlz z (List.mem_of_getElem? hz)
        rw [Nat.mul_one, Nat.add_zero] at c0
        have HSr := Lib.hid hS
        clear hc hz hrr hS
        obtain ⟨nn, hnn⟩ : ∃ nn : Nat, 1 + z % 448 = (nn : Int) := ⟨(1 + z % 448).toNat, by omega⟩
        have hn1 : 1 ≤ nn ∧ nn ≤ 448 := by omega
        have mnn : i0.bytes * nn ≤ 281474976710656 := by rw [hz2]; omega
        have xnn : nn ≤ maxLen := by unfold maxLen; omega
        have Hnn := Lib.hid hnn
        have Hn1 := Lib.hid hn1
        have Hlv := Lib.hid hlv
        clear hnn hn1 hlv
        go_wp2_with (first
          | (with_reducible refine wpList_mk wr rfl (.tmp 68) (.tmp 68) 23 rfl wr.heap.size 5 i0 (.int .u8 0) Try.underlying23 hi hz0 hz1 rfl .i64 .i64 _ _ nn nn rfl rfl Hnn.out Hnn.out (Nat.le_refl _) mnn xnn (Nat.le_refl _) ?_))
        intro w4 hown4 hg4
        obtain ⟨zs, hzs⟩ : ∃ zs : List Nat, zs = List.replicate nn 0 := ⟨_, rfl⟩
        have hr4 : Rd w4 w4.heap.size 1 (some ⟨wr.heap.size, 0, none⟩) nn (zs.map bv) := by
          rw [hzs, List.map_replicate]
          exact Rd.of_own hown4
        have hb4 : Below wr.heap.size wr w4 := (Below.refl _ _).grown hg4 (Nat.le_refl _) (by simp)
        have hS4 := HSr.out.below hb4
        have hz256 : ∀ x ∈ zs, x < 256 := by rw [hzs]; intro x hx; have := (List.mem_replicate.1 hx).2; omega
        have hn1 := Hn1.out
        have hnn := Hnn.out
        have hlv := Hlv.out
        have hkk : k + 8 < 1000000 := by omega
        have hroom := hS4.dk.room
        have hm256 := HMC.out
        have hp := HSr.out.dk.pl
        have hq := HSr.out.dk.ql
        have haway : ∀ g o, (some ⟨wr.heap.size, 0, none⟩ : Option Addr) = some ⟨g, o, none⟩ → g ≠ p ∧ g ≠ q := fun g o e => lit_ns g o hp hq (Nat.le_refl _) e
        have lv0 : (0 : Int) ≤ lv := by omega
        have lv1 : lv ≤ 128 := by omega
        by_cases hf : taken + (nn + 55) / 56 ≤ m / 2
        · have g1 : (1 + z % 448 + 55) / 56 ≤ lv := by omega
          obtain ⟨r2, hr2⟩ : ∃ r2 : Int, lv - (1 + z % 448 + 55) / 56 = r2 := ⟨_, rfl⟩
          have hrm2 : ((m / 2 : Nat) : Int) - ((taken + (nn + 55) / 56 : Nat) : Int) = r2 := by omega
          have Hrm2 := Lib.hid hrm2
          have Hcall := Lib.hid (lg_add_ok hS4.dk hS4.at_ hn1 hr4 (Nat.le_refl _) haway hz256 (Nat.le_refl _) xnn hkk hf)
          have Hf := Lib.hid hf
          have HS4 := Lib.hid hS4
          have Hr2 := Lib.hid hr2
          clear hr4 hb4 hS4 hz256 hn1 hnn hlv hkk hroom hm256 hp hq haway hrm2 hf hr2 hown4 hg4 hzs c0
          go_wp2_with (first
            | (go_at_call 12; (with_reducible refine Hcall.out.mono ?_)
               rintro e w5 ⟨rfl, hd5, hl5, hc5⟩
               have HS5 := Lib.hid (HS4.out.step hd5 hl5 hc5)
               clear hd5 hl5 hc5)
            | (go_at_call 14; rw [Hr2.out]; (with_reducible refine (lg_room_of r2 HS5.out.dk HS5.out.at_ Hf.out Hrm2.out).mono ?_)
               rintro e w6 ⟨rfl, hb6⟩
               have HS6 := Lib.hid (HS5.out.below hb6)
               clear hb6))
          go_roundg (gk - 1)
          case measure => omega
          case rel => exact ⟨j + 1, _, _, _, _, by omega, by go_num, rfl, Hrm2.out.symm, by omega, HS6.out⟩
        · have g1 : ¬ (1 + z % 448 + 55) / 56 ≤ lv := by omega
          have hrm2 : ((m / 2 : Nat) : Int) - (taken : Int) = lv := by omega
          have Hrm2 := Lib.hid hrm2
          have Hcall := Lib.hid (lg_add_full (A := some ⟨wr.heap.size, 0, none⟩) (c := nn) hS4.dk hS4.at_ hn1 (by omega))
          have HS4 := Lib.hid hS4
          have Hroom := Lib.hid hroom
          clear hr4 hb4 hS4 hz256 hn1 hnn hlv hkk hroom hm256 hp hq haway hrm2 hf hown4 hg4 hzs c0
          go_wp2_with (first
            | (go_at_call 12; (with_reducible refine Hcall.out.mono ?_)
               rintro e w5 ⟨rfl, hd5, hl5, hc5⟩
               have HS5 := Lib.hid (HS4.out.step hd5 hl5 hc5)
               clear hd5 hl5 hc5)
            | (go_at_call 14; (with_reducible refine (lg_room_of lv HS5.out.dk HS5.out.at_ Hroom.out Hrm2.out).mono ?_)
               rintro e w6 ⟨rfl, hb6⟩
               have HS6 := Lib.hid (HS5.out.below hb6)
               clear hb6))
          go_roundg (gk - 1)
          case measure => omega
          case rel => exact ⟨j + 1, _, _, _, _, by omega, by go_num, rfl, Hrm2.out.symm, by omega, HS6.out⟩
      · obtain rfl : j = n := by omega
        have hkk : k + 8 < 1000000 := by omega
        have hi0 : ¬ (j : Int) < (j : Int) := by omega
        have Hkk := Lib.hid hkk
        have hS0 := hS
        have HS0 := Lib.hid hS0
        have Hlv := Lib.hid hlv
        have al : Below wr.heap.size wr (wr.alloc (.cells #[.int .u8 1] 5)) := (Below.refl _ _).alloc (Nat.le_refl _) _
        have hS1 := hS.below al
        have hr1 := rd_new wr (([1] : List Nat).map bv) 5 1 1 rfl
        have haway : ∀ g o, (some ⟨wr.heap.size, 0, none⟩ : Option Addr) = some ⟨g, o, none⟩ → g ≠ p ∧ g ≠ q := fun g o e => lit_ns g o hS.dk.pl hS.dk.ql (Nat.le_refl _) e
        have hm256 := HMC.out
        by_cases hh : m / 2 = 0
        · have gz : ((m : Int) / 2 == 0) = true := by rw [beq_iff_eq]; omega
          have gz' : (m : Int) / 2 = 0 := by omega
          have Hcall := Lib.hid (lg_comp_full (A := some ⟨wr.heap.size, 0, none⟩) (n := 1) (c := 1) hS1.dk hS1.at_ (by omega) (by omega))
          have HS1 := Lib.hid hS1
          clear hS hS0 hS1 hr1 haway hm256 hlv hkk hk hj al hh
          go_wp2_with (first
            | (go_at_call 15; (with_reducible refine (lg_turn_is 1 HS0.out.at_ rfl).mono ?_)
               rintro e w4 ⟨rfl, hw4⟩
               obtain rfl := hw4.symm)
            | (go_at_call 11; (with_reducible refine Hcall.out.mono ?_)
               rintro e w5 ⟨rfl, hd5, hl5, hc5⟩
               have HS5 := Lib.hid (HS1.out.step hd5 hl5 hc5)
               clear hd5 hl5 hc5))
          go_ret
          exact ⟨ret_bool (by simp), HS5.out.bel⟩
        · have gz : ((m : Int) / 2 == 0) = false := by rw [beq_eq_false_iff_ne]; omega
          have gz' : ¬ (m : Int) / 2 = 0 := by omega
          obtain ⟨r2, hr2⟩ : ∃ r2 : Int, (m : Int) / 2 - 1 = r2 := ⟨_, rfl⟩
          have hrm2 : ((m / 2 : Nat) : Int) - ((1 : Nat) : Int) = r2 := by omega
          have hle1 : (1 : Nat) ≤ m / 2 := by omega
          have Hcall := Lib.hid (lg_comp_ok (c := 1) hS1.dk hS1.at_ (n := 1) (by omega) hr1 (by rw [World.size_alloc]; exact Nat.le_refl _) haway (by decide) (Nat.le_refl _) (by unfold maxLen; omega) hkk (by omega) (by omega))
          have HS1 := Lib.hid hS1
          have Hrm2 := Lib.hid hrm2
          have Hle1 := Lib.hid hle1
          have Hx : Hid (m = 1 → False) := fun e => by omega
          clear hS hS0 hS1 hr1 haway hm256 hlv hkk hk hj al hh hrm2 hle1
          first
            | exact (Hx.out HMC.out).elim
            | (go_wp2_with (first
                | (go_at_call 15; (with_reducible refine (lg_turn_is 1 HS0.out.at_ rfl).mono ?_)
                   rintro e w4 ⟨rfl, hw4⟩
                   obtain rfl := hw4.symm)
                | (go_at_call 11; (with_reducible refine Hcall.out.mono ?_)
                   rintro e w5 ⟨rfl, hd5, hl5, hc5⟩
                   have HS5 : Hid (LgT w w5 p q lb m (k + 8) 1 2 1 [[1]]) := HS1.out.step hd5 hl5 hc5
                   clear hd5 hl5 hc5 HS0)
                | (go_at_call 14; (with_reducible refine (lg_room_of r2 HS5.out.dk HS5.out.at_ Hle1.out Hrm2.out).mono ?_)
                   rintro e w6 ⟨rfl, hb6⟩
                   have HS6 := Lib.hid (HS5.out.below hb6)
                   clear hb6)
                | (go_at_call 15; (with_reducible refine (lg_turn_is 2 HS6.out.at_ rfl).mono ?_)
                   rintro e w7 ⟨rfl, hw7⟩
                   obtain rfl := hw7.symm))
               go_ret
               exact ⟨ret_bool (by simp), HS6.out.bel⟩)
end Go.Proofs.Ytefmeifamapdcaa
