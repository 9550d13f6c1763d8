/- RtuPieces, walked. -/
import Derived.Test.YtkajhobgelaigaaRtuTwoW
set_option linter.unusedVariables false
set_option linter.unusedSimpArgs false
set_option maxRecDepth 100000
namespace Go.Proofs.Ytkajhobgelaigaa
open Go Go.RowKit CrcMath

/-- a piece of what reads as l -/
theorem Rd.piece {w : World} {B n : Nat} {g o : Nat} {l : List Nat} (h : Rd w B 1 (some ⟨g, o, none⟩) n (l.map bv)) (i m : Nat) (him : i + m ≤ n) : Rd w B 1 (some ⟨g, o + i, none⟩) m (((l.drop i).take m).map bv) := by
  have hl : l.length = n := by have := h.1; simpa using this
  refine ⟨by simp; omega, fun hp => ?_⟩
  obtain ⟨b, o', e, hb, hc⟩ := h.2 (by omega)
  injection e with e
  injection e with e1 e2
  subst e1 e2
  refine ⟨g, o + i, rfl, hb, fun j u hu => ?_⟩
  rw [List.map_take, List.getElem?_take] at hu
  split at hu
  · rw [List.map_drop, List.getElem?_drop] at hu
    have := hc (i + j) u hu
    rwa [← Nat.add_assoc] at this
  · cases hu
theorem rd_piece {w : World} {B n : Nat} {A A' : Option Addr} {l : List Nat} (h : Rd w B 1 A n (l.map bv)) (i m : Nat) (him : i + m ≤ n) (hA : A' = A.map (fun x => x.add i) ∨ m = 0) : Rd w B 1 A' m (((l.drop i).take m).map bv) := by
  rcases Nat.eq_zero_or_pos m with rfl | hm
  · rw [List.take_zero]; exact Rd.nil_ _ _ _ _
  · obtain ⟨g, o, rfl, _, _⟩ := h.2 (by omega)
    rcases hA with rfl | h0
    · have := h.piece i m him
      rwa [show ((some (⟨g, o, none⟩ : Addr)).map (fun x => x.add i)) = some ⟨g, o + i, none⟩ by rw [Option.map_some, addr_add]]
    · omega
theorem take_more (l : List Nat) (i m : Nat) : ([] ++ l.take i) ++ (l.drop i).take m = [] ++ l.take (i + m) := by
  rw [List.nil_append, List.nil_append, List.take_add]
set_option maxHeartbeats 4000000 in
theorem pieces_fine (A0 : Option Addr) (n0 c0 : Nat) (a : List Nat) (A1 : Option Addr) (n1 c1 : Nat) (b : List Nat) (A2 : Option Addr) (n2 c2 : Nat) (cu : List Nat) (w : World)
    (hr0 : Rd w w.heap.size 1 A0 n0 (a.map bv)) (hq0 : ∀ c ∈ a, c < 256) (hr1 : Rd w w.heap.size 1 A1 n1 (b.map bv)) (hq1 : ∀ c ∈ b, c < 256) (hc1 : n1 ≤ c1)
    (hr2 : Rd w w.heap.size 1 A2 n2 (cu.map bv)) (hq2 : ∀ c ∈ cu, c < 256) (h0 : n0 + n1 ≤ 9000) (h1 : n2 ≤ 300) :
    Calls Try.prog 6 #[.slice A0 n0 c0, .slice A1 n1 c1, .slice A2 n2 c2] w fun e w' => e = .returned (.bool true) ∧ Below w.heap.size w w' := by
  have t1 : decide ((9000 : Int) < (n0 : Int) + (n1 : Int)) = false := decide_eq_false (by omega)
  have t2 : decide ((300 : Int) < (n2 : Int)) = false := decide_eq_false (by omega)
  have b0 : (n0 : Int) ≤ 9000 := by omega
  have b1 : (n1 : Int) ≤ 9000 := by omega
  have b2 : (n2 : Int) ≤ 300 := by omega
  have hl1 : b.length = n1 := by have := hr1.1; simpa using this
  have Hl1 := Lib.hid hl1
  clear hl1
  go_enter Try.func6, Try.ntmps6
  go_wp2_with (first
    | (go_at_call 9; (with_reducible refine (head_any _).mono ?_); rintro e w1 ⟨rfl, hb1⟩)
    | (go_at_call 14; (with_reducible refine (enew_any (fun k => k < w1.heap.size) w1 (fun k hk => hk)).mono ?_)
       rintro e w2 ⟨rfl, hE2, hb2⟩
       have hb12 := hb1.trans (hb2.mono hb1.size)
       have hr02 := (hr0.below hb12).more hb12.size
       have hE2 := hE2)
    | (go_at_call 19; (with_reducible refine (hear_any _ _ _ w2 _ _ _ a hE2 hr02 hq0 (by omega)).mono ?_)
       rintro e w3 ⟨rfl, hE3, hK3⟩)
    | (go_at_call 17; (with_reducible refine (sil_any _ _ _ w3 hE3).mono ?_)
       rintro e w4 ⟨A4, n4, c4, rfl, _, hE4, hK4⟩
       have hb4 : Below w.heap.size w w4 := (hb12.trans ((hK3.trans hK4).below (B := w.heap.size) fun k hk => by have := hb1.size; omega))))
  have hs1 := hb1.size
  have Hs1 := Lib.hid hs1
  clear hr02 hK3 hK4 hE3 hE2 hs1
  go_loopg [9, 10] (n2 + 1) (fun q at_ i wr => ∃ j k : Nat, q + j = n2 + 1 ∧ k ≤ n1 ∧ (j = n2 + 1 → k = n1) ∧ at_ = .int .i64 k ∧ i = .int .i64 j ∧ Below w.heap.size w wr ∧ HE wr (fun k => k < w1.heap.size) w1.heap.size ([] ++ b.take k))
  case atStart => exact ⟨0, 0, by omega, by omega, by omega, rfl, rfl, hb4, hE4⟩
  case round =>
    obtain ⟨j, k, hj, hk, hkl, rfl, rfl, hbr, hEr⟩ := hrel
    clear hb4 hE4
    have hk0 : (0 : Int) ≤ (k : Int) := by omega
    have hk1 : (k : Int) ≤ (n1 : Int) := by omega
    have hj0 : (0 : Int) ≤ (j : Int) := by omega
    have hr1r := (hr1.below hbr).more hbr.size
    by_cases hlt : j ≤ n2
    · have hj1 : (j : Int) ≤ (n2 : Int) := by omega
      obtain ⟨d, hd⟩ : ∃ d, n1 = k + d := ⟨n1 - k, by omega⟩
      have hd1 : (n1 : Int) - (k : Int) = (d : Int) := by omega
      have Hd := Lib.hid hd
      have hc2 : (n1 : Int) ≤ (c1 : Int) := by omega
      have go : ((c1 = k) = True ∧ Hid (c1 = k)) ∨ (c1 = k) = False := by
        by_cases h : c1 = k
        · exact .inl ⟨eq_true h, h⟩
        · exact .inr (eq_false h)
      clear hd
      by_cases hj2 : j < n2
      · have hj3 : (j : Int) < (n2 : Int) := by omega
        obtain ⟨g2, o2, rfl, hcell⟩ : ∃ g2 o2, A2 = some ⟨g2, o2, none⟩ ∧ wr.cell? ⟨g2, o2 + j, none⟩ = some (.int .u8 (cu.getD j 0 : Nat)) := by
          obtain ⟨b', o', e, hlt', hc⟩ := hr2.2 (by omega)
          have hl : cu.length = n2 := by have := hr2.1; simpa using this
          refine ⟨b', o', e, (hbr.cell (p := ⟨b', o' + j, none⟩) hlt').trans (hc j _ ?_)⟩
          rw [List.getElem?_map, List.getElem?_eq_getElem (by omega), List.getD_eq_getElem?_getD, List.getElem?_eq_getElem (by omega)]; rfl
        obtain ⟨v, hv⟩ : ∃ v, v = cu.getD j 0 := ⟨_, rfl⟩
        rw [← hv] at hcell
        have hv256 : v < 256 := by
          rw [hv, List.getD_eq_getElem?_getD, List.getElem?_eq_getElem (by have := hr2.1; simp at this; omega)]
          exact hq2 _ (List.getElem_mem _)
        clear hv
        by_cases hvd : (v : Int) ≤ (d : Int)
        · rcases go with ⟨z1, z2⟩ | z1
          all_goals
            go_wp2_with fail
            refine (hear_any _ _ _ wr _ v _ ((b.drop k).take v) hEr (rd_piece hr1r k v (by have := Hd.out; omega) (by first | exact .inl rfl | exact .inr (by have := Hd.out; have := z2.out; omega))) (fun c hc => hq1 c (List.mem_of_mem_drop (List.mem_of_mem_take hc))) (by have := Hd.out; omega)).mono ?_
            rintro e w5 ⟨rfl, hE5, hK5⟩
            rw [take_more] at hE5
            go_wp2_with fail
            go_roundg (gk - 1)
            case measure => omega
            case rel => exact ⟨j + 1, k + v, by omega, by have := Hd.out; omega, by have := Hd.out; omega, by go_num, by go_num, hbr.trans (hK5.below fun q hq => by have := Hs1.out; omega), hE5⟩
        · rcases go with ⟨z1, z2⟩ | z1
          all_goals
            go_wp2_with fail
            refine (hear_any _ _ _ wr _ d _ ((b.drop k).take d) hEr (rd_piece hr1r k d (by have := Hd.out; omega) (by first | exact .inl rfl | exact .inr (by have := Hd.out; have := z2.out; omega))) (fun c hc => hq1 c (List.mem_of_mem_drop (List.mem_of_mem_take hc))) (by have := Hd.out; omega)).mono ?_
            rintro e w5 ⟨rfl, hE5, hK5⟩
            rw [take_more] at hE5
            go_wp2_with fail
            go_roundg (gk - 1)
            case measure => omega
            case rel => exact ⟨j + 1, k + d, by omega, by have := Hd.out; omega, by have := Hd.out; omega, by go_num, by go_num, hbr.trans (hK5.below fun q hq => by have := Hs1.out; omega), hE5⟩
      · have hj3 : (j : Int) = (n2 : Int) := by omega
        have hj4 : decide ((j : Int) < (n2 : Int)) = false := decide_eq_false (by omega)
        have hj5 : (j < n2) = False := eq_false hj2
        clear hj3
        rcases go with ⟨z1, z2⟩ | z1
        all_goals
          go_wp2_with fail
          refine (hear_any _ _ _ wr _ d _ ((b.drop k).take d) hEr (rd_piece hr1r k d (by have := Hd.out; omega) (by first | exact .inl rfl | exact .inr (by have := Hd.out; have := z2.out; omega))) (fun c hc => hq1 c (List.mem_of_mem_drop (List.mem_of_mem_take hc))) (by have := Hd.out; omega)).mono ?_
          rintro e w5 ⟨rfl, hE5, hK5⟩
          rw [take_more] at hE5
          go_wp2_with fail
          go_roundg (gk - 1)
          case measure => omega
          case rel => exact ⟨j + 1, k + d, by omega, by have := Hd.out; omega, by have := Hd.out; omega, by go_num, by go_num, hbr.trans (hK5.below fun q hq => by have := Hs1.out; omega), hE5⟩
    · obtain rfl : k = n1 := hkl (by omega)
      have hj5 : (j ≤ n2) = False := eq_false hlt
      rw [List.nil_append, List.take_of_length_le (by rw [Hl1.out]; exact Nat.le_refl _)] at hEr
      have hnm : k ≤ 9223372036854775807 := by omega
      by_cases hk00 : k = 0
      · have hb0 : b = [] := List.eq_nil_of_length_eq_zero (by rw [Hl1.out]; exact hk00)
        have hs : silL b = (0, [], 0, false) := by rw [hb0]; rfl
        have HS := Lib.hid hs
        have hk5 : ((k : Int) == 0) = true := by simpa using hk00
        have hk6 : (k = 0) = True := eq_true hk00
        clear hs hb0 hk00
        go_wp2_with (first
          | (go_at_call 17; (with_reducible refine (sil_any _ _ _ wr hEr).mono ?_)
             rintro e w5 ⟨A5, n5, c5, he, hr5, hE5, hK5⟩
             rw [HS.out] at he
             subst he))
        go_ret
        exact ⟨ret_bool (by simp), hbr.trans (hK5.below fun q hq => by have := Hs1.out; omega)⟩
      · obtain ⟨⟨gu, gp, ge⟩, hg⟩ : ∃ g, g = getL b := ⟨_, rfl⟩
        have hs : silL b = (gu, gp, ge, true) := by
          rw [silL, if_neg (by intro h; rw [h] at Hl1; have := Hl1.out; simp at this; omega), ← hg]
        have HS := Lib.hid hs
        have Hg := Lib.hid hg
        have hk5 : ((k : Int) == 0) = false := by rw [beq_eq_false_iff_ne]; omega
        have hk6 : (k = 0) = False := eq_false hk00
        clear hs hg hk00
        go_wp2_with (first
          | (go_at_call 17; (with_reducible refine (sil_any _ _ _ wr hEr).mono ?_)
             rintro e w5 ⟨A5, n5, c5, he, hr5, hE5, hK5⟩
             rw [HS.out] at he hr5
             subst he
             have hb5 := hbr.trans (hK5.below fun q hq => by have := Hs1.out; omega)
             have hr15 := (hr1.below hb5).more hb5.size)
          | (go_at_call 10; (with_reducible refine (get_any A1 k c1 _ b w5 hr15 (Nat.le_refl _) hq1 hc1 hnm).mono ?_)
             rintro e w6 ⟨A6, n6, c6, he, hr6, _, _, hb6⟩
             rw [← Hg.out] at he hr6
             subst he
             have hE6 := hE5.below hb6
             have hbw6 := hb5.trans (hb6.mono hb5.size)
             have cv5 := kcvB _ _ _ c5 _ gp ((hr5.below hb6).more hb6.size)
             have cv6 := kcvB _ _ _ c6 _ gp hr6
             clear hr5 hr6 hb5 hK5 hE5)
          | (go_at_call 21; (with_reducible refine (emany_any _ _ _ _ hE6).mono ?_)
             rintro e wn ⟨rfl, rfl⟩
             rw [show ((min ([] : List Nat).length 257 : Nat) : Int) = 0 from rfl]))
        go_ret
        exact ⟨ret_bool (by simp), hbw6⟩
set_option maxHeartbeats 4000000 in
theorem pieces_great (A0 : Option Addr) (n0 c0 : Nat) (A1 : Option Addr) (n1 c1 : Nat) (A2 : Option Addr) (n2 c2 : Nat) (w : World) (h0 : n0 ≤ 140737488351232) (h1 : n1 ≤ 140737488351232) (h2 : n2 ≤ 140737488351232) (h : ¬ (n0 + n1 ≤ 9000 ∧ n2 ≤ 300)) :
    Calls Try.prog 6 #[.slice A0 n0 c0, .slice A1 n1 c1, .slice A2 n2 c2] w fun e w' => e = .returned (.bool true) ∧ Below w.heap.size w w' := by
  have b0 : (n0 : Int) ≤ 140737488351232 := by omega
  have b1 : (n1 : Int) ≤ 140737488351232 := by omega
  have go : decide ((9000 : Int) < (n0 : Int) + (n1 : Int)) = true ∨ decide ((9000 : Int) < (n0 : Int) + (n1 : Int)) = false ∧ decide ((300 : Int) < (n2 : Int)) = true := by
    by_cases h' : n0 + n1 ≤ 9000
    · exact .inr ⟨decide_eq_false (by omega), decide_eq_true (by omega)⟩
    · exact .inl (decide_eq_true (by omega))
  clear h0 h1 h
  rcases go with h | ⟨h, h'⟩
  all_goals
    go_enter Try.func6, Try.ntmps6
    go_wp2_with (first
      | (go_at_call 9; (with_reducible refine (head_any _).mono ?_); rintro e w1 ⟨rfl, hb1⟩)
      | (go_at_call 14; (with_reducible refine (enew_any (fun k => k < w1.heap.size) w1 (fun k hk => hk)).mono ?_)
         rintro e w2 ⟨rfl, hE2, hb2⟩
         have hb12 := hb1.trans (hb2.mono hb1.size)))
    go_ret
    exact ⟨ret_bool (by simp), hb12⟩
theorem pieces_walk (A0 : Option Addr) (n0 c0 : Nat) (a : List Nat) (A1 : Option Addr) (n1 c1 : Nat) (b : List Nat) (A2 : Option Addr) (n2 c2 : Nat) (cu : List Nat) (w : World)
    (hr0 : Rd w w.heap.size 1 A0 n0 (a.map bv)) (hq0 : ∀ c ∈ a, c < 256) (hc0 : n0 ≤ c0) (hm0 : c0 ≤ maxLen) (hz0 : n0 ≤ 140737488351232) (hr1 : Rd w w.heap.size 1 A1 n1 (b.map bv)) (hq1 : ∀ c ∈ b, c < 256) (hc1 : n1 ≤ c1) (hm1 : c1 ≤ maxLen) (hz1 : n1 ≤ 140737488351232)
    (hr2 : Rd w w.heap.size 1 A2 n2 (cu.map bv)) (hq2 : ∀ c ∈ cu, c < 256) (hc2 : n2 ≤ c2) (hm2 : c2 ≤ maxLen) (hz2 : n2 ≤ 140737488351232) :
    Calls Try.prog 6 #[.slice A0 n0 c0, .slice A1 n1 c1, .slice A2 n2 c2] w fun e w' => e = .returned (.bool true) ∧ Below w.heap.size w w' := by
  by_cases h : n0 + n1 ≤ 9000 ∧ n2 ≤ 300
  · exact pieces_fine A0 n0 c0 a A1 n1 c1 b A2 n2 c2 cu w hr0 hq0 hr1 hq1 hc1 hr2 hq2 h.1 h.2
  · exact pieces_great A0 n0 c0 A1 n1 c1 A2 n2 c2 w hz0 hz1 hz2 h
end Go.Proofs.Ytkajhobgelaigaa
