/- LogOpens, walked. -/
import Derived.Test.YtefmeifamapdcaaLogU
set_option linter.unusedVariables false
set_option linter.unusedSimpArgs false
set_option maxRecDepth 100000
namespace Go.Proofs.Ytefmeifamapdcaa
open Go Go.RowKit CrcMath
attribute [local go_sem] Oper.semAt_some

set_option maxHeartbeats 8000000 in
theorem opens_walk (a : Int) (A : Option Addr) (n c : Nat) (l : List Opr) (A2 : Option Addr) (n2 c2 : Nat) (b : List Nat) (w : World) (h1 : (Lit.int .u8 a).wf = true) (hr : Ops w w.heap.size A n l ∧ n ≤ maxLen)
    (hb1 : Rd w w.heap.size 1 A2 n2 (b.map bv)) (hb2 : ∀ x ∈ b, x < 256) (hb3 : n2 ≤ c2) (hb4 : c2 ≤ maxLen) :
    Calls Try.prog 3 #[.int .u8 a, .slice A n c, .slice A2 n2 c2] w fun e w' => e = .returned (.bool true) ∧ Below w.heap.size w w' := by
  obtain ⟨p1, p1'⟩ := wf_u8_lt h1
  obtain ⟨hr, hnm⟩ := hr
  obtain ⟨m, hm⟩ : ∃ m : Nat, m = (min (max a 1) 256).toNat := ⟨_, rfl⟩
  have Hm := Lib.hid hm
  have Hb1 := Lib.hid hb1
  have Hr := Lib.hid hr
  have hn63 : n2 ≤ 9223372036854775807 := by unfold maxLen at hb4; omega
  have d1000 : decide ((1000 : Int) < (n2 : Int)) = true ∨ decide ((1000 : Int) < (n2 : Int)) = false := by cases decide ((1000 : Int) < (n2 : Int)) <;> simp
  clear h1 hb1 hr hm
  rcases d1000 with d1000 | d1000
  all_goals
    go_enter Try.func3, Try.ntmps3
    go_wp2_with (first
      | (go_at_call 7; (with_reducible refine (head_any _).mono ?_); rintro e w1 ⟨rfl, hb1⟩)
      | (go_at_call 8; (with_reducible refine (lg_new w1 a).mono ?_)
         rintro e w2 ⟨rfl, hd2, hb2'⟩
         rw [← Hm.out] at hd2
         have HD2 := Lib.hid hd2
         have HB2 : Hid (Below w.heap.size w w2) := hb1.trans (hb2'.mono hb1.size)
         have HS1 : Hid (w.heap.size ≤ w1.heap.size) := hb1.size
         clear hd2 hb2' hb1)
      | (go_at_call 9; (with_reducible refine (great_any A n c _ l _ (Hr.out.below HB2.out) hnm).mono ?_); rintro e w2 ⟨bg, rfl, h200, rfl⟩))
  all_goals first | (go_ret; exact ⟨ret_bool (by simp), HB2.out⟩) | skip
  obtain rfl : bg = false := by simpa using ‹¬ bg = true›
  have hn200 : n ≤ 200 := h200 rfl
  clear h200
  go_wp2_with (first
    | (go_at_call 10; (with_reducible refine (lg_open HD2.out).mono ?_)
       rintro e w3 ⟨v3, rfl, ho3, hl3, hd3, hb3'⟩
       obtain ⟨A3, c3, rfl⟩ := out_shape ho3
       have hb13 := HB2.out.trans (hb3'.mono HB2.out.size)
       have hp2 := HD2.out.pl
       have hq2 := HD2.out.ql
       have hs1 := HS1.out
       have hs3 := hl3.lt
       obtain ⟨p, hp⟩ : ∃ p, p = w1.heap.size + 1 := ⟨_, rfl⟩
       obtain ⟨q, hq⟩ : ∃ q, q = w1.heap.size := ⟨_, rfl⟩
       obtain ⟨lb, hlb⟩ : ∃ lb, lb = w2.heap.size := ⟨_, rfl⟩
       rw [← hp, ← hq] at hd3
       rw [← hlb, ← hp] at hl3
       have HS : Hid (LgS w w3 p q lb w3.heap.size m 0 0 1 0 (.slice none 0 0) []) := ⟨hb13, hd3, hl3, HvOk.nil_ _ _ _, ⟨by omega, by omega, by omega⟩, ⟨by omega, by omega, by omega, Nat.le_refl _⟩⟩
       rw [← hp, ← hlb]
       clear ho3 hl3 hd3 hb3' hb13 hp2 hq2 hs1 hs3 hp hq hlb HD2 HB2 HS1))
  obtain ⟨base, hbase⟩ : ∃ base, base = w3.heap.size := ⟨_, rfl⟩
  rw [← hbase] at HS
  clear hbase
  go_loopg [12, 13] n (fun qq hv i wr => ∃ (j k half turn taken : Nat) (L : List (List Nat)), qq + j = n ∧ i = .int .i64 j ∧ k ≤ 8 * j ∧ turn ≤ 1 + j ∧ L.length ≤ j ∧ LgS w wr p q lb base m k half turn taken hv L)
  case atStart => exact ⟨0, 0, 0, 1, 0, [], by omega, rfl, by omega, by omega, by simp, HS.out⟩
  case round =>
    clear HS
    obtain ⟨j, k, half, turn, taken, L, hj, rfl, hk, htu, hLl, hS⟩ := hrel
    by_cases hlt : j < n
    · have hi0 : (0 : Int) ≤ (j : Int) := by omega
      have hi1 : (j : Int) < (n : Int) := by omega
      have hrr := Hr.out.below hS.bel
      obtain ⟨bb, o, rfl, hbB, hc⟩ := hrr.2.2 (by omega)
      obtain ⟨r, hr1⟩ : ∃ r, l[j]? = some r := ⟨_, List.getElem?_eq_getElem (by have := hrr.1; omega)⟩
      obtain ⟨c0, c1, c2', c3'⟩ := hc j r hr1
      obtain ⟨rb, rlt, rcap, rcm, rw_, ra_, rn_⟩ := hrr.2.1 r (List.mem_of_getElem? hr1)
      have HSr := Lib.hid hS
      have HRb := Lib.hid rb
      clear hc hr1 hrr
      by_cases hwh : r.what = 3
      · have hw3 : (r.what == 3) = true := by simpa using hwh
        clear hwh
        rcases lg_comp_case hS.dk hS.at_ rb hS.bel.size hS.bp.1 hS.bp.2.1 rlt rcap rcm (by omega) (by omega) with ⟨_, hcall⟩ | ⟨_, en, hen, hcall⟩
        · have Hcall := Lib.hid hcall
          clear hcall hS rb
          go_wp2_with (first
            | (go_at_call 11; (with_reducible refine Hcall.out.mono ?_)
               rintro e w4 ⟨rfl, hd4, hl4, hc4⟩
               have hst := HSr.out.step hd4 hl4 hc4
               have x3 : w4.cell? ⟨bb, o + j * 4 + 3, none⟩ = some (.slice r.A r.len r.cap) := ((hc4.below HSr.out.bel.size (three_new HSr.out.bp.1 HSr.out.bp.2.1 HSr.out.bp.2.2)).cell (p := ⟨bb, o + j * 4 + 3, none⟩) hbB).trans c3'
               have HD4 := Lib.hid hd4
               have HL4 := Lib.hid hl4
               have HC4 := Lib.hid hc4
               have HST := Lib.hid hst
               clear hd4 hl4 hc4 hst c0 c1 c2' c3'))
          have al : Below w4.heap.size w4 (w4.alloc (.cells #[.slice r.A r.len r.cap] 23)) := (Below.refl _ _).alloc (Nat.le_refl _) _
          have hS' := HSr.out.app HD4.out HL4.out HC4.out (HvOk.one (HRb.out.below (HC4.out.below HSr.out.bel.size (three_new HSr.out.bp.1 HSr.out.bp.2.1 HSr.out.bp.2.2))) HST.out.1.size HST.out.2.2) (al.mono HST.out.2.2)
          go_roundg (gk - 1)
          case measure => omega
          case rel => exact ⟨j + 1, _, _, _, _, _, by omega, by go_num, by omega, by omega, by simp, hS'⟩
        · have hez := en_ne hen
          have Hcall := Lib.hid hcall
          clear hcall hS rb hen
          go_wp2_with (first
            | (go_at_call 11; (with_reducible refine Hcall.out.mono ?_)
               rintro e w4 ⟨rfl, hd4, hl4, hc4⟩
               have HS4 := Lib.hid (HSr.out.same hd4 hl4 hc4)
               clear hd4 hl4 hc4))
          go_roundg (gk - 1)
          case measure => omega
          case rel => exact ⟨j + 1, _, _, _, _, _, by omega, by go_num, by omega, by omega, by omega, HS4.out⟩
      · have hw3 : (r.what == 3) = false := by simpa using hwh
        clear hwh
        rcases lg_add_case hS.dk hS.at_ rb hS.bel.size hS.bp.1 hS.bp.2.1 rlt rcap rcm (by omega) with ⟨_, hcall⟩ | ⟨_, en, hen, hcall⟩
        · obtain ⟨Ah, ch, rfl⟩ := hv_shape hS.hv
          have Hcall := Lib.hid hcall
          clear hcall hS rb
          go_wp2_with (first
            | (go_at_call 12; (with_reducible refine Hcall.out.mono ?_)
               rintro e w4 ⟨rfl, hd4, hl4, hc4⟩
               have hst := HSr.out.step hd4 hl4 hc4
               have x3 : w4.cell? ⟨bb, o + j * 4 + 3, none⟩ = some (.slice r.A r.len r.cap) := ((hc4.below HSr.out.bel.size (three_new HSr.out.bp.1 HSr.out.bp.2.1 HSr.out.bp.2.2)).cell (p := ⟨bb, o + j * 4 + 3, none⟩) hbB).trans c3'
               have HD4 := Lib.hid hd4
               have HL4 := Lib.hid hl4
               have HC4 := Lib.hid hc4
               have HST := Lib.hid hst
               have HR4 := Lib.hid (HRb.out.below (hc4.below HSr.out.bel.size (three_new HSr.out.bp.1 HSr.out.bp.2.1 HSr.out.bp.2.2)))
               have hB5 : w.heap.size ≤ base := by have := HSr.out.bp.1; have := HSr.out.sp.1; omega
               clear hd4 hl4 hc4 hst c0 c1 c2' c3')
            | (with_reducible refine wpList_hv rfl (.tmp 87) (.tmp 93) rfl rfl base w.heap.size (.slice Ah L.length ch) L HST.out.2.1 rfl r.A r.len r.cap r.b HR4.out rfl rfl (by omega) HST.out.2.2 hB5 ?_
               intro v5 w5 hh5 hb5
               have HS5 := Lib.hid (HSr.out.app HD4.out HL4.out HC4.out hh5 hb5)
               clear hh5 hb5))
          go_roundg (gk - 1)
          case measure => omega
          case rel => exact ⟨j + 1, _, _, _, _, _, by omega, by go_num, by omega, by omega, by simp; omega, HS5.out⟩
        · have hez := en_ne hen
          have Hcall := Lib.hid hcall
          clear hcall hS rb hen
          go_wp2_with (first
            | (go_at_call 12; (with_reducible refine Hcall.out.mono ?_)
               rintro e w4 ⟨rfl, hd4, hl4, hc4⟩
               have HS4 := Lib.hid (HSr.out.same hd4 hl4 hc4)
               clear hd4 hl4 hc4))
          go_roundg (gk - 1)
          case measure => omega
          case rel => exact ⟨j + 1, _, _, _, _, _, by omega, by go_num, by omega, by omega, by omega, HS4.out⟩
    · obtain rfl : j = n := by omega
      obtain ⟨Ah, ch, rfl⟩ := hv_shape hS.hv
      have Hk := Lib.hid hk
      have hroom := hS.dk.room
      have hm256 := hS.dk.m1
      obtain ⟨rm, hrm⟩ : ∃ rm : Int, ((m / 2 : Nat) : Int) - (taken : Int) = rm := ⟨_, rfl⟩
      have Hrm := Lib.hid hrm
      have Hroom := Lib.hid hroom
      have Hm256 := Lib.hid hm256
      have HS0 := Lib.hid hS
      have hB5 : w.heap.size ≤ base := by have := hS.bp.1; have := hS.sp.1; omega
      have hLl' : L.length ≤ 1000000 := by omega
      have HLm : Hid (L.length + 1 ≤ 1000000) := by show _ ≤ _; omega
      have hL : 0 < L.length ∨ ¬ 0 < L.length := by omega
      have hi0 : ¬ ((j : Int) < (j : Int)) := by omega
      clear hj hk htu hLl hS hrm hroom hm256 hlt
      rcases hL with hL | hL
      go_wp2_with (first
          | (go_at_call 10; (with_reducible refine (lg_open HS0.out.dk).mono ?_)
             rintro e w4 ⟨v4, rfl, ho4, hl4, hd4, hb4'⟩
             obtain ⟨A4, c4, rfl⟩ := out_shape ho4
             have HO4 := Lib.hid ho4
             have HL4 := Lib.hid hl4
             have HD4 := Lib.hid hd4
             have HS4 := Lib.hid (HS0.out.below hb4')
             have HH4 := Lib.hid HS4.out.hv
             have HN4 : Hid (wr.heap.size ≠ lb) := by have := HS0.out.at_.lt; show _ ≠ _; omega
             clear ho4 hl4 hd4 hb4')
          | (go_at_call 13; (with_reducible refine (same_yes A4 Ah L.length c4 ch L w4 (HO4.out.ss (Nat.le_refl _) rfl) (HH4.out.ss HS4.out.bel.size rfl) hLl').mono ?_)
             rintro e w5 ⟨rfl, hb5⟩
             have HB5 := Lib.hid hb5
             clear hb5)
          | (go_at_call 14; (with_reducible refine (lg_room_of rm (HS4.out.dk.below HB5.out) (HS4.out.at_.below HB5.out) Hroom.out Hrm.out).mono ?_)
             rintro e w6 ⟨rfl, hb6⟩
             have HB6 : Hid (Below w4.heap.size w4 w6) := HB5.out.trans (hb6.mono HB5.out.size)
             clear hb6 HB5)
          | (go_at_call 14; (with_reducible refine (lg_room_of rm (HS4.out.dk.below HB6.out) (HL4.out.below HB6.out) Hroom.out Hrm.out).mono ?_)
             rintro e w7 ⟨rfl, hb7⟩
             have HB7 : Hid (Below w4.heap.size w4 w7) := HB6.out.trans (hb7.mono HB6.out.size)
             clear hb7 HB6)
          | (go_at_call 15; (with_reducible refine (lg_turn_is turn (HS4.out.at_.below HB7.out) rfl).mono ?_)
             rintro e w8 ⟨rfl, hw8⟩
             obtain rfl := hw8.symm)
          | (go_at_call 15; (with_reducible refine (lg_turn_is turn (HL4.out.below HB7.out) rfl).mono ?_)
             rintro e w9 ⟨rfl, hw9⟩
             obtain rfl := hw9.symm))
      all_goals try (have HB7 := HB5; obtain ⟨w7, hw7⟩ : ∃ x, x = w5 := ⟨_, rfl⟩; rw [← hw7] at HB7; rw [← hw7]; clear hw7 HB5)
      all_goals
        have hS7 := HS4.out.below HB7.out
        have hd7 := HD4.out.below HB7.out
        have hl7 := HL4.out.below HB7.out
        have hly : w.heap.size ≤ wr.heap.size := HS0.out.bel.size
        have h1000 : (n2 : Int) ≤ 1000 := by simpa using d1000
        have hm7 := Hm256.out
        have hk7 : k + 8 < 1000000 := by have := Hk.out; omega
        have hne := HN4.out
        have hrm7 := Hrm.out
        rcases lg_add_case hd7 hl7 (Hb1.out.below hS7.bel) hS7.bel.size hS7.bp.1 hS7.bp.2.1 hb2 hb3 hb4 hk7 with ⟨hf, hcall⟩ | ⟨hf, en, hen, hcall⟩
        · obtain ⟨f1, f2, f3⟩ := hf
          have g1 : (0 : Int) < (n2 : Int) := by omega
          have g1' : 0 < n2 := by omega
          have g2 : (n2 : Int) ≤ 448 := by omega
          have g3 : ((n2 : Int) + 55) / 56 ≤ rm := by omega
          have Hcall := Lib.hid hcall
          have HS7 := Lib.hid hS7
          have HD7 := Lib.hid hd7
          have HL7 := Lib.hid hl7
          have Hly := Lib.hid hly
          have Hne := Lib.hid hne
          clear hcall hS7 hd7 hl7 hly hm7 hne hrm7 f1 f2 f3 hk7 HS4 HH4 HO4
          go_wp2_with (first
            | (go_at_call 12; (with_reducible refine Hcall.out.mono ?_)
               rintro e w10 ⟨rfl, hd10, hl10, hc10⟩
               have hh10 := HS7.out.hv.chg3 HD7.out HL7.out hc10 HS7.out.bp.1 HS7.out.bp.2.1 Hly.out
               have hx10 := HS7.out.at_.chg3 HD7.out HL7.out hc10 (fun e => Hne.out e.symm)
               have hb10 := HS7.out.bel.trans (hc10.below HS7.out.bel.size (three_new HS7.out.bp.1 HS7.out.bp.2.1 Hly.out))
               have HH10 := Lib.hid hh10
               have HX10 := Lib.hid hx10
               have HB10 := Lib.hid hb10
               have HD10 := Lib.hid hd10
               have hz10 : base ≤ w10.heap.size := Nat.le_trans HS7.out.sp.2.2.2 hc10.size
               have HR10 := Lib.hid (Hb1.out.below hb10)
               clear hd10 hl10 hc10 hh10 hx10 hb10)
            | (with_reducible refine wpList_hv rfl (.tmp 137) (.tmp 139) rfl rfl base w.heap.size (.slice Ah L.length ch) L HH10.out rfl A2 n2 c2 b HR10.out rfl rfl hLl' hz10 hB5 ?_
               intro v11 w11 hh11 hb11
               obtain ⟨A11, c11, rfl⟩ := hv_shape hh11
               have hlen11 : (L ++ [b]).length = L.length + 1 := by simp
               rw [hlen11]
               have HH11 : Hid (HvOk w11 base w.heap.size (.slice A11 (L.length + 1) c11) (L ++ [b])) := by rw [hlen11] at hh11; exact hh11
               have HD11 := Lib.hid (HD10.out.keep (hb11.block _ HS7.out.sp.1) (hb11.block _ HS7.out.sp.2.1))
               have HX11 := Lib.hid (HX10.out.keep (hb11.block _ HS7.out.sp.2.2.1))
               have HB11 := Lib.hid (HB10.out.trans (hb11.mono hB5))
               clear hh11 hb11 hlen11 HX10 HH10 HD10 HB10)
            | (go_at_call 10; (with_reducible refine (lg_open HD11.out).mono ?_)
               rintro e w12 ⟨v12, rfl, ho12, hl12, hd12, hb12⟩
               obtain ⟨A12, c12, rfl⟩ := out_shape ho12
               have hlen12 : (L ++ [b]).length = L.length + 1 := by simp
               rw [hlen12] at ho12
               rw [hlen12]
               have HLen := Lib.hid hlen12
               clear hlen12
               have HO12 := Lib.hid ho12
               have HD12 := Lib.hid hd12
               have HX12 := Lib.hid (HX11.out.below hb12)
               have HH12 := Lib.hid (HH11.out.below hb12 HB11.out.size)
               have HB12 : Hid (Below w.heap.size w w12) := HB11.out.trans (hb12.mono HB11.out.size)
               clear ho12 hl12 hd12 hb12 HX11 HH11 HB11)
            | (go_at_call 13; (with_reducible refine (same_yes A12 A11 (L.length + 1) c12 c11 (L ++ [b]) w12 (HO12.out.ss (Nat.le_refl _) HLen.out) (HH12.out.ss HB12.out.size HLen.out) HLm.out).mono ?_)
               rintro e w13 ⟨rfl, hb13⟩
               have HD13 := Lib.hid (HD12.out.below hb13)
               have HX13 := Lib.hid (HX12.out.below hb13)
               have HB13 : Hid (Below w.heap.size w w13) := HB12.out.trans (hb13.mono HB12.out.size)
               clear hb13 HD12 HX12 HB12 HO12 HH12)
            | (go_at_call 14; (with_reducible refine (lg_room_of rm HD13.out HX13.out Hroom.out Hrm.out).mono ?_)
               rintro e w14 ⟨rfl, hb14⟩
               have HB14 : Hid (Below w.heap.size w w14) := HB13.out.trans (hb14.mono HB13.out.size)
               clear hb14))
          go_ret
          exact ⟨ret_bool (by first | (simp; done) | (simp; omega)), HB14.out⟩
        · have hez := en_ne hen
          have go : ¬ (0 < n2) ∨ 0 < n2 ∧ ¬ (n2 : Int) ≤ 448 ∨ 0 < n2 ∧ (n2 : Int) ≤ 448 ∧ ¬ ((n2 : Int) + 55) / 56 ≤ rm := by
            unfold AddFits at hf
            omega
          have Hcall := Lib.hid hcall
          have HS7 := Lib.hid hS7
          have HD7 := Lib.hid hd7
          have HL7 := Lib.hid hl7
          have Hly := Lib.hid hly
          have Hne := Lib.hid hne
          clear hcall hS7 hd7 hl7 hly hm7 hne hrm7 hk7 hf hen HS4 HH4 HO4
          rcases go with g1 | ⟨g1, g2⟩ | ⟨g1, g2, g3⟩
          all_goals
            go_wp2_with (first
              | (go_at_call 12; (with_reducible refine Hcall.out.mono ?_)
                 rintro e w10 ⟨rfl, hd10, hl10, hc10⟩
                 have hh10 := HS7.out.hv.chg3 HD7.out HL7.out hc10 HS7.out.bp.1 HS7.out.bp.2.1 Hly.out
                 have hx10 := HS7.out.at_.chg3 HD7.out HL7.out hc10 (fun e => Hne.out e.symm)
                 have hb10 := HS7.out.bel.trans (hc10.below HS7.out.bel.size (three_new HS7.out.bp.1 HS7.out.bp.2.1 Hly.out))
                 have HH10 := Lib.hid hh10
                 have HX10 := Lib.hid hx10
                 have HB10 := Lib.hid hb10
                 have HD10 := Lib.hid hd10
                 clear hd10 hl10 hc10 hh10 hx10 hb10)
              | (go_at_call 10; (with_reducible refine (lg_open HD10.out).mono ?_)
                 rintro e w12 ⟨v12, rfl, ho12, hl12, hd12, hb12⟩
                 obtain ⟨A12, c12, rfl⟩ := out_shape ho12
                 have HO12 := Lib.hid ho12
                 have HD12 := Lib.hid hd12
                 have HX12 := Lib.hid (HX10.out.below hb12)
                 have HH12 := Lib.hid (HH10.out.below hb12 HB10.out.size)
                 have HB12 : Hid (Below w.heap.size w w12) := HB10.out.trans (hb12.mono HB10.out.size)
                 clear ho12 hl12 hd12 hb12 HX10 HH10 HB10)
              | (go_at_call 13; (with_reducible refine (same_yes A12 Ah L.length c12 ch L w12 (HO12.out.ss (Nat.le_refl _) rfl) (HH12.out.ss HB12.out.size rfl) hLl').mono ?_)
                 rintro e w13 ⟨rfl, hb13⟩
                 have HD13 := Lib.hid (HD12.out.below hb13)
                 have HX13 := Lib.hid (HX12.out.below hb13)
                 have HB13 : Hid (Below w.heap.size w w13) := HB12.out.trans (hb13.mono HB12.out.size)
                 clear hb13 HD12 HX12 HB12 HO12 HH12)
              | (go_at_call 14; (with_reducible refine (lg_room_of rm HD13.out HX13.out Hroom.out Hrm.out).mono ?_)
                 rintro e w14 ⟨rfl, hb14⟩
                 have HB14 : Hid (Below w.heap.size w w14) := HB13.out.trans (hb14.mono HB13.out.size)
                 clear hb14))
            go_ret
            first | exact ⟨ret_bool (by first | (simp; done) | (simp; omega)), HB14.out⟩ | exact ⟨ret_bool (by first | (simp; done) | (simp; omega)), HB13.out⟩
end Go.Proofs.Ytefmeifamapdcaa
