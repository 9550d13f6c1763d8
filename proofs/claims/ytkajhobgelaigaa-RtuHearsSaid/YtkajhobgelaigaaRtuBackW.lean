/- RtuBack: the plain laws, and the walk. -/
import Derived.Test.YtkajhobgelaigaaRtuHead
import Derived.Test.YtkajhobgelaigaaReads
set_option linter.unusedVariables false
set_option linter.unusedSimpArgs false
set_option maxRecDepth 100000
namespace Go.Proofs.Ytkajhobgelaigaa
open Go Go.RowKit CrcMath

theorem kcvB (w' : World) (A : Option Addr) (n c B : Nat) (l : List Nat) (h : Rd w' B 1 A n (l.map bv)) : (convert 22 9 (.slice A n c)).run Try.prog w' = .ok (.string (bstr l)) w' :=
  run_str h 22 9 5 Try.underlying22 Try.underlying5 Try.underlying9
theorem seal_len (l : List Nat) : (seal_ l).length = l.length + 2 := by simp [seal_]
/-- what is framed is had as it was -/
theorem get_put (u : Nat) (l : List Nat) (h1 : 1 ≤ l.length) (h2 : l.length ≤ 253) (hu : u < 256) (hb : ∀ c ∈ l, c < 256) : putL u l = seal_ (u :: l) ∧ getL (seal_ (u :: l)) = (u, l, 0) ∧ (seal_ (u :: l)).length = l.length + 3 := by
  have hl : (seal_ (u :: l)).length = l.length + 3 := by rw [seal_len]; simp
  have hb2 : ∀ c ∈ u :: l, c < 256 := fun c hc => by
    rcases List.mem_cons.1 hc with rfl | hc
    · exact hu
    · exact hb c hc
  refine ⟨by rw [putL, if_pos ⟨h1, h2⟩], ?_, hl⟩
  rw [getL, if_neg (by omega), if_neg (by omega), seal_opens _ hb2, if_pos rfl, hl]
  have e1 : (seal_ (u :: l)).take (l.length + 3 - 2) = u :: l := by
    rw [seal_, List.take_left' (by simp)]
  rw [e1]
  simp [seal_]
/-- what any bytes have is framed to them -/
theorem put_get (l : List Nat) (hb : ∀ c ∈ l, c < 256) : ∃ gu gp ge, getL l = (gu, gp, ge) ∧ (ge = 0 ∧ putL gu gp = l ∧ gu < 256 ∧ (∀ c ∈ gp, c < 256) ∨ 0 < ge ∧ gu = 0 ∧ gp = []) := by
  unfold getL
  split
  · exact ⟨0, [], 22, rfl, .inr ⟨by omega, rfl, rfl⟩⟩
  · split
    · exact ⟨0, [], 21, rfl, .inr ⟨by omega, rfl, rfl⟩⟩
    · split
      · rename_i h1 h2 ho
        refine ⟨_, _, 0, rfl, .inl ⟨rfl, ?_, ?_, ?_⟩⟩
        · obtain ⟨x, t, ht⟩ : ∃ x t, l.take (l.length - 2) = x :: t := by
            rcases h : l.take (l.length - 2) with _ | ⟨x, t⟩
            · have := congrArg List.length h; simp at this; omega
            · exact ⟨x, t, rfl⟩
          have hx : l.getD 0 0 = x := by
            have := congrArg (fun z => z[0]?) ht
            simp only [List.getElem?_take, List.getElem?_cons_zero] at this
            rw [if_pos (by omega)] at this
            rw [List.getD_eq_getElem?_getD, this]; rfl
          have htl : t.length = l.length - 3 := by
            have := congrArg List.length ht
            simp at this; omega
          rw [hx, ht, List.drop_succ_cons, List.drop_zero, putL, if_pos (by omega), ← ht, seal_]
          unfold opens at ho
          simp only [Bool.and_eq_true, decide_eq_true_eq] at ho
          rw [← ho.2, List.take_append_drop]
        · rw [List.getD_eq_getElem?_getD, List.getElem?_eq_getElem (by omega)]
          exact hb _ (List.getElem_mem _)
        · intro c hc
          exact hb c (List.mem_of_mem_take (List.mem_of_mem_drop hc))
      · exact ⟨0, [], 23, rfl, .inr ⟨by omega, rfl, rfl⟩⟩

theorem rback_great (u : Int) (A : Option Addr) (n c : Nat) (w : World) (hn : 20000 < n) (hn2 : n ≤ 9223372036854775807) :
    Calls Try.prog 4 #[.int .u8 u, .slice A n c] w fun e w' => e = .returned (.bool true) ∧ Below w.heap.size w w' := by
  have h0 : (20000 : Int) < (n : Int) := by omega
  go_enter Try.func4, Try.ntmps4
  go_wp2_with (go_at_call 9; (with_reducible refine (head_any _).mono ?_); rintro e w1 ⟨rfl, hb1⟩)
  go_ret
  exact ⟨rfl, hb1⟩
set_option maxHeartbeats 8000000 in
theorem rback_fine (u : Nat) (A : Option Addr) (n c : Nat) (l : List Nat) (w : World) (hu : u < 256) (hr : Rd w w.heap.size 1 A n (l.map bv)) (hb : ∀ c ∈ l, c < 256) (hc : n ≤ c) (hn : n ≤ 20000) (hf : 1 ≤ n ∧ n ≤ 253) :
    Calls Try.prog 4 #[.int .u8 u, .slice A n c] w fun e w' => e = .returned (.bool true) ∧ Below w.heap.size w w' := by
  have h0 : ¬ (20000 : Int) < (n : Int) := by omega
  have hnm : n ≤ 9223372036854775807 := by omega
  have hu' : 0 ≤ (u : Int) ∧ (u : Int) < 256 := by omega
  have hl : l.length = n := by have := hr.1; simpa using this
  obtain ⟨gu, gp, ge, hg, hgc⟩ := put_get l hb
  have hn0 : (0 : Int) ≤ (n : Int) := by omega
  have Hg := Lib.hid hg
  have Hgc := Lib.hid hgc
  have HU' := Lib.hid hu'
  have Hl := Lib.hid hl
  clear hg hgc hu' hl
  obtain ⟨f1, f2, f3⟩ := get_put u l (by have := Hl.out; omega) (by have := Hl.out; omega) hu hb
  have hfb : ∀ c ∈ seal_ (u :: l), c < 256 := mem_seal _ (fun c hc => by
    rcases List.mem_cons.1 hc with rfl | hc
    · exact hu
    · exact hb c hc)
  obtain ⟨fr, hfr⟩ : ∃ fr, fr = seal_ (u :: l) := ⟨_, rfl⟩
  rw [← hfr] at f1 f2 f3 hfb
  rw [Hl.out] at f3
  have F1 := Lib.hid f1
  have F2 := Lib.hid f2
  have F3 := Lib.hid f3
  have t1 : (0 : Int) < (n : Int) := by omega
  have t2 : (n : Int) ≤ 253 := by omega
  have t3 : decide ((0 : Int) < (n : Int) + 3) = true := decide_eq_true (by omega)
  clear f1 f2 f3 hfr
  go_enter Try.func4, Try.ntmps4
  go_wp2_with (first
    | (go_at_call 9; (with_reducible refine (head_any _).mono ?_); rintro e w1 ⟨rfl, hb1⟩
       have hr1 := (hr.below hb1).more hb1.size)
    | (go_at_call 12; (with_reducible refine (put_any u A n c _ l _ hr1 (Nat.le_refl _) hb HU'.out hnm).mono ?_)
       rintro e w2 ⟨A2, n2, c2, rfl, hown2, hb2⟩
       rw [Int.toNat_natCast, F1.out] at hown2
       obtain rfl : n2 = n + 3 := by have := own_len hown2; rw [List.length_map, F3.out] at this; exact this
       have hc2 := own_cap hown2
       have hr2 := Rd.of_own hown2
       have hbw2 := hb1.trans (hb2.mono hb1.size)
       have hr12 := (hr1.below hb2).more hb2.size
       clear hown2 hb1 hb2 hr1)
    | (go_at_call 10; (with_reducible refine (get_any A2 (n + 3) c2 _ fr _ hr2 (Nat.le_refl _) hfb hc2 (by omega)).mono ?_)
       rintro e w3 ⟨A3, n3, c3, he, hr3, _, _, hb3⟩
       rw [F2.out] at he hr3
       subst he
       have hr13 := (hr12.below hb3).more hb3.size
       have hbw3 := hbw2.trans (hb3.mono hbw2.size)
       have kv3 := kcvB _ _ _ c3 _ _ hr3
       have kv1 := kcvB _ _ _ c _ _ hr13
       clear hb3 hr12 hr2 hbw2 hr3)
    | (go_at_call 10; (with_reducible refine (get_any A n c _ l _ hr13 (Nat.le_refl _) hb hc hnm).mono ?_)
       rintro e w4 ⟨A4, n4, c4, he, hr4, hc4, hm4, hb4⟩
       rw [Hg.out] at he hr4
       subst he
       have hr14 := (hr13.below hb4).more hb4.size
       have hbw4 := hbw3.trans (hb4.mono hbw3.size)
       clear hb4 hr13 hbw3 kv1 kv3))
  have cv1 : ∀ w', Below w4.heap.size w4 w' → (convert 22 9 (.slice A n c)).run Try.prog w' = .ok (.string (bstr l)) w' := fun w' h => kcvB w' A n c _ l (hr14.below h)
  rcases Hgc.out with ⟨rfl, hpg, hgu, hgb⟩ | ⟨hge, rfl, rfl⟩
  · have Hpg := Lib.hid hpg
    have hgu' : 0 ≤ (gu : Int) ∧ (gu : Int) < 256 := by omega
    have Hgu := Lib.hid hgu'
    have hn4 : n4 ≤ 9223372036854775807 := by have := Nat.le_trans hc4 hm4; unfold maxLen at this; omega
    clear hpg hgu'
    refine startH (fun w' => Below w4.heap.size w4 w') 28 #[false, false, false, false, false, false, false, false, false, false, false, false, false, false, false, false, false, false, false, false, false, false, false, false, false, false, false, false] rfl rfl (by kernel_rfl) ?_ (fun hHeld => ?_)
    · (first | exact (Below.refl _ _).drew | assumption)
    refine takeH 0 70 #[true, false, false, false, false, false, false, false, false, false, false, false, false, false, false, false, false, false, false, false, false, false, false, false, false, false, false, false] (v := ?_) rfl rfl rfl (by kernel_rfl) (by kernel_rfl) (by kernel_rfl) (fun _ _ _ h => h) (Or.inl ⟨by rfl, ?_⟩) hHeld ?_
    rotate_left
    · (intro w' hSw; (try dsimp only at hSw); go_simp; (try with_reducible rfl))
    simp only [List.set_cons_zero, List.set_cons_succ]
    refine takeH 1 71 #[true, true, false, false, false, false, false, false, false, false, false, false, false, false, false, false, false, false, false, false, false, false, false, false, false, false, false, false] (v := ?_) rfl rfl rfl (by kernel_rfl) (by kernel_rfl) (by kernel_rfl) (fun _ _ _ h => h) (Or.inl ⟨by rfl, ?_⟩) hHeld ?_
    rotate_left
    · (intro w' hSw; (try dsimp only at hSw); go_simp; (try with_reducible rfl))
    simp only [List.set_cons_zero, List.set_cons_succ]
    refine takeH 2 72 #[true, true, true, false, false, false, false, false, false, false, false, false, false, false, false, false, false, false, false, false, false, false, false, false, false, false, false, false] (v := ?_) rfl rfl rfl (by kernel_rfl) (by kernel_rfl) (by kernel_rfl) (fun _ _ _ h => h) (Or.inl ⟨by rfl, ?_⟩) hHeld ?_
    rotate_left
    · (intro w' hSw; (try dsimp only at hSw); go_simp; (try with_reducible rfl))
    simp only [List.set_cons_zero, List.set_cons_succ]
    refine takeH 3 73 #[true, true, true, true, false, false, false, false, false, false, false, false, false, false, false, false, false, false, false, false, false, false, false, false, false, false, false, false] (v := ?_) rfl rfl rfl (by kernel_rfl) (by kernel_rfl) (by kernel_rfl) (fun _ _ _ h => h) (Or.inl ⟨by rfl, ?_⟩) hHeld ?_
    rotate_left
    · (intro w' hSw; (try dsimp only at hSw); go_simp; (try with_reducible rfl))
    simp only [List.set_cons_zero, List.set_cons_succ]
    refine takeH 4 74 #[true, true, true, true, true, false, false, false, false, false, false, false, false, false, false, false, false, false, false, false, false, false, false, false, false, false, false, false] (v := ?_) rfl rfl rfl (by kernel_rfl) (by kernel_rfl) (by kernel_rfl) (fun _ _ _ h => h) (Or.inl ⟨by rfl, ?_⟩) hHeld ?_
    rotate_left
    · (intro w' hSw; (try dsimp only at hSw); go_simp; (try with_reducible rfl))
    simp only [List.set_cons_zero, List.set_cons_succ]
    refine takeH 5 75 #[true, true, true, true, true, true, false, false, false, false, false, false, false, false, false, false, false, false, false, false, false, false, false, false, false, false, false, false] (v := ?_) rfl rfl rfl (by kernel_rfl) (by kernel_rfl) (by kernel_rfl) (fun _ _ _ h => h) (Or.inl ⟨by rfl, ?_⟩) hHeld ?_
    rotate_left
    · (intro w' hSw; (try dsimp only at hSw); go_simp; (try with_reducible rfl))
    simp only [List.set_cons_zero, List.set_cons_succ]
    refine takeH 6 76 #[true, true, true, true, true, true, true, false, false, false, false, false, false, false, false, false, false, false, false, false, false, false, false, false, false, false, false, false] (v := ?_) rfl rfl rfl (by kernel_rfl) (by kernel_rfl) (by kernel_rfl) (fun _ _ _ h => h) (Or.inl ⟨by rfl, ?_⟩) hHeld ?_
    rotate_left
    · (intro w' hSw; (try dsimp only at hSw); go_simp; (try with_reducible rfl))
    simp only [List.set_cons_zero, List.set_cons_succ]
    refine takeH 9 79 #[true, true, true, true, true, true, true, false, false, true, false, false, false, false, false, false, false, false, false, false, false, false, false, false, false, false, false, false] (v := ?_) rfl rfl rfl (by kernel_rfl) (by kernel_rfl) (by kernel_rfl) (fun _ _ _ h => h) (Or.inl ⟨by rfl, ?_⟩) hHeld ?_
    rotate_left
    · (intro w' hSw; (try dsimp only at hSw); go_simp; (try with_reducible rfl))
    simp only [List.set_cons_zero, List.set_cons_succ]
    refine takeH 10 80 #[true, true, true, true, true, true, true, false, false, true, true, false, false, false, false, false, false, false, false, false, false, false, false, false, false, false, false, false] (v := ?_) rfl rfl rfl (by kernel_rfl) (by kernel_rfl) (by kernel_rfl) (fun _ _ _ h => h) (Or.inl ⟨by rfl, ?_⟩) hHeld ?_
    rotate_left
    · (intro w' hSw; (try dsimp only at hSw); go_simp; (try with_reducible rfl))
    simp only [List.set_cons_zero, List.set_cons_succ]
    refine branchH 7 77 #[true, true, true, true, true, true, true, true, false, true, true, false, false, false, false, false, false, false, false, false, false, false, false, false, false, false, false, false] (by kernel_rfl) rfl rfl rfl (by rfl) (fun K hK => ?_)
    go_simp
    (go_at_call 12; (with_reducible refine (put_any gu A4 n4 c4 w4.heap.size gp _ (hr4.below hHeld) hHeld.size hgb Hgu.out hn4).mono ?_))
    rintro e wn ⟨A5, n5, c5, rfl, hown5, hbn⟩
    rw [Int.toNat_natCast, Hpg.out] at hown5
    have hr5 := Rd.of_own hown5
    have hHn := hHeld.trans (hbn.mono hHeld.size)
    have kv5 := kcvB _ A5 n5 c5 _ _ hr5
    clear hown5
    refine hK.out _ _ ?_ (fun hHeld' => ?_)
    · (first | exact (Below.refl _ _).drew | assumption)
    clear hK K hHeld
    have hHeld := hHeld'
    clear hHeld'
    simp only [List.set_cons_zero, List.set_cons_succ]
    refine branchH 8 78 #[true, true, true, true, true, true, true, true, true, true, true, false, false, false, false, false, false, false, false, false, false, false, false, false, false, false, false, false] (by kernel_rfl) rfl rfl rfl (by rfl) (fun K hK => ?_)
    go_simp
    refine hK.out _ _ ?_ (fun hHeld' => ?_)
    · (first | exact (Below.refl _ _).drew | assumption)
    clear hK K hHeld
    have hHeld := hHeld'
    clear hHeld'
    simp only [List.set_cons_zero, List.set_cons_succ]
    refine takeH 11 81 #[true, true, true, true, true, true, true, true, true, true, true, true, false, false, false, false, false, false, false, false, false, false, false, false, false, false, false, false] (v := ?_) rfl rfl rfl (by kernel_rfl) (by kernel_rfl) (by kernel_rfl) (fun _ _ _ h => h) (Or.inl ⟨by rfl, ?_⟩) hHeld ?_
    rotate_left
    · (intro w' hSw; (try dsimp only at hSw); go_simp; (try with_reducible rfl))
    simp only [List.set_cons_zero, List.set_cons_succ]
    refine takeH 12 82 #[true, true, true, true, true, true, true, true, true, true, true, true, true, false, false, false, false, false, false, false, false, false, false, false, false, false, false, false] (v := ?_) rfl rfl rfl (by kernel_rfl) (by kernel_rfl) (by kernel_rfl) (fun _ _ _ h => h) (Or.inl ⟨by rfl, ?_⟩) hHeld ?_
    rotate_left
    · (intro w' hSw; (try dsimp only at hSw); go_simp; (try with_reducible rfl))
    simp only [List.set_cons_zero, List.set_cons_succ]
    refine takeH 13 83 #[true, true, true, true, true, true, true, true, true, true, true, true, true, true, false, false, false, false, false, false, false, false, false, false, false, false, false, false] (v := ?_) rfl rfl rfl (by kernel_rfl) (by kernel_rfl) (by kernel_rfl) (fun _ _ _ h => h) (Or.inl ⟨by rfl, ?_⟩) hHeld ?_
    rotate_left
    · (intro w' hSw; (try dsimp only at hSw); go_simp; (try with_reducible rfl))
    simp only [List.set_cons_zero, List.set_cons_succ]
    refine takeH 14 84 #[true, true, true, true, true, true, true, true, true, true, true, true, true, true, true, false, false, false, false, false, false, false, false, false, false, false, false, false] (v := ?_) rfl rfl rfl (by kernel_rfl) (by kernel_rfl) (by kernel_rfl) (fun _ _ _ h => h) (Or.inl ⟨by rfl, ?_⟩) hHeld ?_
    rotate_left
    · (intro w' hSw; (try dsimp only at hSw); go_simp; (try with_reducible rfl))
    simp only [List.set_cons_zero, List.set_cons_succ]
    refine takeH 15 85 #[true, true, true, true, true, true, true, true, true, true, true, true, true, true, true, true, false, false, false, false, false, false, false, false, false, false, false, false] (v := ?_) rfl rfl rfl (by kernel_rfl) (by kernel_rfl) (by kernel_rfl) (fun _ _ _ h => h) (Or.inl ⟨by rfl, ?_⟩) hHeld ?_
    rotate_left
    · (intro w' hSw; (try dsimp only at hSw); go_simp; (try with_reducible rfl))
    simp only [List.set_cons_zero, List.set_cons_succ]
    refine takeH 16 86 #[true, true, true, true, true, true, true, true, true, true, true, true, true, true, true, true, true, false, false, false, false, false, false, false, false, false, false, false] (v := ?_) rfl rfl rfl (by kernel_rfl) (by kernel_rfl) (by kernel_rfl) (fun _ _ _ h => h) (Or.inl ⟨by rfl, ?_⟩) hHeld ?_
    rotate_left
    · (intro w' hSw; (try dsimp only at hSw); go_simp; (try with_reducible rfl))
    simp only [List.set_cons_zero, List.set_cons_succ]
    refine takeH 17 87 #[true, true, true, true, true, true, true, true, true, true, true, true, true, true, true, true, true, true, false, false, false, false, false, false, false, false, false, false] (v := ?_) rfl rfl rfl (by kernel_rfl) (by kernel_rfl) (by kernel_rfl) (fun _ _ _ h => h) (Or.inl ⟨by rfl, ?_⟩) hHeld ?_
    rotate_left
    · (intro w' hSw; (try dsimp only at hSw); go_simp; (try with_reducible rfl))
    simp only [List.set_cons_zero, List.set_cons_succ]
    refine takeH 18 88 #[true, true, true, true, true, true, true, true, true, true, true, true, true, true, true, true, true, true, true, false, false, false, false, false, false, false, false, false] (v := undef) rfl rfl rfl (by kernel_rfl) (by kernel_rfl) (by kernel_rfl) (fun _ _ _ h => h) (Or.inr ⟨by rfl, rfl⟩) hHeld ?_
    simp only [List.set_cons_zero, List.set_cons_succ]
    refine takeH 19 89 #[true, true, true, true, true, true, true, true, true, true, true, true, true, true, true, true, true, true, true, true, false, false, false, false, false, false, false, false] (v := undef) rfl rfl rfl (by kernel_rfl) (by kernel_rfl) (by kernel_rfl) (fun _ _ _ h => h) (Or.inr ⟨by rfl, rfl⟩) hHeld ?_
    simp only [List.set_cons_zero, List.set_cons_succ]
    refine takeH 20 90 #[true, true, true, true, true, true, true, true, true, true, true, true, true, true, true, true, true, true, true, true, true, false, false, false, false, false, false, false] (v := undef) rfl rfl rfl (by kernel_rfl) (by kernel_rfl) (by kernel_rfl) (fun _ _ _ h => h) (Or.inr ⟨by rfl, rfl⟩) hHeld ?_
    simp only [List.set_cons_zero, List.set_cons_succ]
    refine takeH 21 91 #[true, true, true, true, true, true, true, true, true, true, true, true, true, true, true, true, true, true, true, true, true, true, false, false, false, false, false, false] (v := undef) rfl rfl rfl (by kernel_rfl) (by kernel_rfl) (by kernel_rfl) (fun _ _ _ h => h) (Or.inr ⟨by rfl, rfl⟩) hHeld ?_
    simp only [List.set_cons_zero, List.set_cons_succ]
    refine takeH 22 92 #[true, true, true, true, true, true, true, true, true, true, true, true, true, true, true, true, true, true, true, true, true, true, true, false, false, false, false, false] (v := undef) rfl rfl rfl (by kernel_rfl) (by kernel_rfl) (by kernel_rfl) (fun _ _ _ h => h) (Or.inr ⟨by rfl, rfl⟩) hHeld ?_
    simp only [List.set_cons_zero, List.set_cons_succ]
    refine takeH 23 93 #[true, true, true, true, true, true, true, true, true, true, true, true, true, true, true, true, true, true, true, true, true, true, true, true, false, false, false, false] (v := undef) rfl rfl rfl (by kernel_rfl) (by kernel_rfl) (by kernel_rfl) (fun _ _ _ h => h) (Or.inr ⟨by rfl, rfl⟩) hHeld ?_
    simp only [List.set_cons_zero, List.set_cons_succ]
    refine takeH 24 94 #[true, true, true, true, true, true, true, true, true, true, true, true, true, true, true, true, true, true, true, true, true, true, true, true, true, false, false, false] (v := undef) rfl rfl rfl (by kernel_rfl) (by kernel_rfl) (by kernel_rfl) (fun _ _ _ h => h) (Or.inr ⟨by rfl, rfl⟩) hHeld ?_
    simp only [List.set_cons_zero, List.set_cons_succ]
    refine takeH 25 95 #[true, true, true, true, true, true, true, true, true, true, true, true, true, true, true, true, true, true, true, true, true, true, true, true, true, true, false, false] (v := ?_) rfl rfl rfl (by kernel_rfl) (by kernel_rfl) (by kernel_rfl) (fun _ _ _ h => h) (Or.inl ⟨by rfl, ?_⟩) hHeld ?_
    rotate_left
    · (intro w' hSw; (try dsimp only at hSw); go_simp; (try with_reducible rfl))
    simp only [List.set_cons_zero, List.set_cons_succ]
    refine takeH 26 96 #[true, true, true, true, true, true, true, true, true, true, true, true, true, true, true, true, true, true, true, true, true, true, true, true, true, true, true, false] (v := ?_) rfl rfl rfl (by kernel_rfl) (by kernel_rfl) (by kernel_rfl) (fun _ _ _ h => h) (Or.inl ⟨by rfl, ?_⟩) hHeld ?_
    rotate_left
    · (intro w' hSw; (try dsimp only at hSw); go_simp; (try with_reducible rfl))
    simp only [List.set_cons_zero, List.set_cons_succ]
    refine takeH 27 4 #[true, true, true, true, true, true, true, true, true, true, true, true, true, true, true, true, true, true, true, true, true, true, true, true, true, true, true, true] (v := ?_) rfl rfl rfl (by kernel_rfl) (by kernel_rfl) (by kernel_rfl) (fun _ _ _ h => h) (Or.inl ⟨by rfl, ?_⟩) hHeld ?_
    rotate_left
    · (intro w' hSw; (try dsimp only at hSw); go_simp; (try with_reducible rfl))
    simp only [List.set_cons_zero, List.set_cons_succ]
    refine wpAnyH_done (by kernel_rfl) ?_ _
    refine NoPanic.normal ?_
    go_wp2_with fail
    go_ret
    exact ⟨ret_bool (by simp), hbw4.trans (hHeld.mono hbw4.size)⟩
  · have g1 : ((ge : Int) != 0) = true := by rw [bne_iff_ne]; omega
    have g2 : ((ge : Int) == 0) = false := by rw [beq_eq_false_iff_ne]; omega
    obtain rfl : n4 = 0 := by have := hr4.1; simpa using this.symm
    refine startH (fun w' => Below w4.heap.size w4 w') 28 #[false, false, false, false, false, false, false, false, false, false, false, false, false, false, false, false, false, false, false, false, false, false, false, false, false, false, false, false] rfl rfl (by kernel_rfl) ?_ (fun hHeld => ?_)
    · (first | exact (Below.refl _ _).drew | assumption)
    refine takeH 0 70 #[true, false, false, false, false, false, false, false, false, false, false, false, false, false, false, false, false, false, false, false, false, false, false, false, false, false, false, false] (v := ?_) rfl rfl rfl (by kernel_rfl) (by kernel_rfl) (by kernel_rfl) (fun _ _ _ h => h) (Or.inl ⟨by rfl, ?_⟩) hHeld ?_
    rotate_left
    · (intro w' hSw; (try dsimp only at hSw); go_simp; (try with_reducible rfl))
    simp only [List.set_cons_zero, List.set_cons_succ]
    refine takeH 1 71 #[true, true, false, false, false, false, false, false, false, false, false, false, false, false, false, false, false, false, false, false, false, false, false, false, false, false, false, false] (v := ?_) rfl rfl rfl (by kernel_rfl) (by kernel_rfl) (by kernel_rfl) (fun _ _ _ h => h) (Or.inl ⟨by rfl, ?_⟩) hHeld ?_
    rotate_left
    · (intro w' hSw; (try dsimp only at hSw); go_simp; (try with_reducible rfl))
    simp only [List.set_cons_zero, List.set_cons_succ]
    refine takeH 2 72 #[true, true, true, false, false, false, false, false, false, false, false, false, false, false, false, false, false, false, false, false, false, false, false, false, false, false, false, false] (v := ?_) rfl rfl rfl (by kernel_rfl) (by kernel_rfl) (by kernel_rfl) (fun _ _ _ h => h) (Or.inl ⟨by rfl, ?_⟩) hHeld ?_
    rotate_left
    · (intro w' hSw; (try dsimp only at hSw); go_simp; (try with_reducible rfl))
    simp only [List.set_cons_zero, List.set_cons_succ]
    refine takeH 3 73 #[true, true, true, true, false, false, false, false, false, false, false, false, false, false, false, false, false, false, false, false, false, false, false, false, false, false, false, false] (v := ?_) rfl rfl rfl (by kernel_rfl) (by kernel_rfl) (by kernel_rfl) (fun _ _ _ h => h) (Or.inl ⟨by rfl, ?_⟩) hHeld ?_
    rotate_left
    · (intro w' hSw; (try dsimp only at hSw); go_simp; (try with_reducible rfl))
    simp only [List.set_cons_zero, List.set_cons_succ]
    refine takeH 4 74 #[true, true, true, true, true, false, false, false, false, false, false, false, false, false, false, false, false, false, false, false, false, false, false, false, false, false, false, false] (v := ?_) rfl rfl rfl (by kernel_rfl) (by kernel_rfl) (by kernel_rfl) (fun _ _ _ h => h) (Or.inl ⟨by rfl, ?_⟩) hHeld ?_
    rotate_left
    · (intro w' hSw; (try dsimp only at hSw); go_simp; (try with_reducible rfl))
    simp only [List.set_cons_zero, List.set_cons_succ]
    refine takeH 5 75 #[true, true, true, true, true, true, false, false, false, false, false, false, false, false, false, false, false, false, false, false, false, false, false, false, false, false, false, false] (v := undef) rfl rfl rfl (by kernel_rfl) (by kernel_rfl) (by kernel_rfl) (fun _ _ _ h => h) (Or.inr ⟨by rfl, rfl⟩) hHeld ?_
    simp only [List.set_cons_zero, List.set_cons_succ]
    refine takeH 6 76 #[true, true, true, true, true, true, true, false, false, false, false, false, false, false, false, false, false, false, false, false, false, false, false, false, false, false, false, false] (v := undef) rfl rfl rfl (by kernel_rfl) (by kernel_rfl) (by kernel_rfl) (fun _ _ _ h => h) (Or.inr ⟨by rfl, rfl⟩) hHeld ?_
    simp only [List.set_cons_zero, List.set_cons_succ]
    refine takeH 7 77 #[true, true, true, true, true, true, true, true, false, false, false, false, false, false, false, false, false, false, false, false, false, false, false, false, false, false, false, false] (v := undef) rfl rfl rfl (by kernel_rfl) (by kernel_rfl) (by kernel_rfl) (fun _ _ _ h => h) (Or.inr ⟨by rfl, rfl⟩) hHeld ?_
    simp only [List.set_cons_zero, List.set_cons_succ]
    refine takeH 8 78 #[true, true, true, true, true, true, true, true, true, false, false, false, false, false, false, false, false, false, false, false, false, false, false, false, false, false, false, false] (v := undef) rfl rfl rfl (by kernel_rfl) (by kernel_rfl) (by kernel_rfl) (fun _ _ _ h => h) (Or.inr ⟨by rfl, rfl⟩) hHeld ?_
    simp only [List.set_cons_zero, List.set_cons_succ]
    refine takeH 9 79 #[true, true, true, true, true, true, true, true, true, true, false, false, false, false, false, false, false, false, false, false, false, false, false, false, false, false, false, false] (v := undef) rfl rfl rfl (by kernel_rfl) (by kernel_rfl) (by kernel_rfl) (fun _ _ _ h => h) (Or.inr ⟨by rfl, rfl⟩) hHeld ?_
    simp only [List.set_cons_zero, List.set_cons_succ]
    refine takeH 10 80 #[true, true, true, true, true, true, true, true, true, true, true, false, false, false, false, false, false, false, false, false, false, false, false, false, false, false, false, false] (v := undef) rfl rfl rfl (by kernel_rfl) (by kernel_rfl) (by kernel_rfl) (fun _ _ _ h => h) (Or.inr ⟨by rfl, rfl⟩) hHeld ?_
    simp only [List.set_cons_zero, List.set_cons_succ]
    refine takeH 11 81 #[true, true, true, true, true, true, true, true, true, true, true, true, false, false, false, false, false, false, false, false, false, false, false, false, false, false, false, false] (v := undef) rfl rfl rfl (by kernel_rfl) (by kernel_rfl) (by kernel_rfl) (fun _ _ _ h => h) (Or.inr ⟨by rfl, rfl⟩) hHeld ?_
    simp only [List.set_cons_zero, List.set_cons_succ]
    refine takeH 12 82 #[true, true, true, true, true, true, true, true, true, true, true, true, true, false, false, false, false, false, false, false, false, false, false, false, false, false, false, false] (v := ?_) rfl rfl rfl (by kernel_rfl) (by kernel_rfl) (by kernel_rfl) (fun _ _ _ h => h) (Or.inl ⟨by rfl, ?_⟩) hHeld ?_
    rotate_left
    · (intro w' hSw; (try dsimp only at hSw); go_simp; (try with_reducible rfl))
    simp only [List.set_cons_zero, List.set_cons_succ]
    refine takeH 13 83 #[true, true, true, true, true, true, true, true, true, true, true, true, true, true, false, false, false, false, false, false, false, false, false, false, false, false, false, false] (v := ?_) rfl rfl rfl (by kernel_rfl) (by kernel_rfl) (by kernel_rfl) (fun _ _ _ h => h) (Or.inl ⟨by rfl, ?_⟩) hHeld ?_
    rotate_left
    · (intro w' hSw; (try dsimp only at hSw); go_simp; (try with_reducible rfl))
    simp only [List.set_cons_zero, List.set_cons_succ]
    refine takeH 14 84 #[true, true, true, true, true, true, true, true, true, true, true, true, true, true, true, false, false, false, false, false, false, false, false, false, false, false, false, false] (v := ?_) rfl rfl rfl (by kernel_rfl) (by kernel_rfl) (by kernel_rfl) (fun _ _ _ h => h) (Or.inl ⟨by rfl, ?_⟩) hHeld ?_
    rotate_left
    · (intro w' hSw; (try dsimp only at hSw); go_simp; (try with_reducible rfl))
    simp only [List.set_cons_zero, List.set_cons_succ]
    refine takeH 15 85 #[true, true, true, true, true, true, true, true, true, true, true, true, true, true, true, true, false, false, false, false, false, false, false, false, false, false, false, false] (v := ?_) rfl rfl rfl (by kernel_rfl) (by kernel_rfl) (by kernel_rfl) (fun _ _ _ h => h) (Or.inl ⟨by rfl, ?_⟩) hHeld ?_
    rotate_left
    · (intro w' hSw; (try dsimp only at hSw); go_simp; (try with_reducible rfl))
    simp only [List.set_cons_zero, List.set_cons_succ]
    refine takeH 16 86 #[true, true, true, true, true, true, true, true, true, true, true, true, true, true, true, true, true, false, false, false, false, false, false, false, false, false, false, false] (v := ?_) rfl rfl rfl (by kernel_rfl) (by kernel_rfl) (by kernel_rfl) (fun _ _ _ h => h) (Or.inl ⟨by rfl, ?_⟩) hHeld ?_
    rotate_left
    · (intro w' hSw; (try dsimp only at hSw); go_simp; (try with_reducible rfl))
    simp only [List.set_cons_zero, List.set_cons_succ]
    refine takeH 17 87 #[true, true, true, true, true, true, true, true, true, true, true, true, true, true, true, true, true, true, false, false, false, false, false, false, false, false, false, false] (v := ?_) rfl rfl rfl (by kernel_rfl) (by kernel_rfl) (by kernel_rfl) (fun _ _ _ h => h) (Or.inl ⟨by rfl, ?_⟩) hHeld ?_
    rotate_left
    · (intro w' hSw; (try dsimp only at hSw); go_simp; (try with_reducible rfl))
    simp only [List.set_cons_zero, List.set_cons_succ]
    refine takeH 18 88 #[true, true, true, true, true, true, true, true, true, true, true, true, true, true, true, true, true, true, true, false, false, false, false, false, false, false, false, false] (v := ?_) rfl rfl rfl (by kernel_rfl) (by kernel_rfl) (by kernel_rfl) (fun _ _ _ h => h) (Or.inl ⟨by rfl, ?_⟩) hHeld ?_
    rotate_left
    · (intro w' hSw; (try dsimp only at hSw); go_simp; (try with_reducible rfl))
    simp only [List.set_cons_zero, List.set_cons_succ]
    refine takeH 19 89 #[true, true, true, true, true, true, true, true, true, true, true, true, true, true, true, true, true, true, true, true, false, false, false, false, false, false, false, false] (v := ?_) rfl rfl rfl (by kernel_rfl) (by kernel_rfl) (by kernel_rfl) (fun _ _ _ h => h) (Or.inl ⟨by rfl, ?_⟩) hHeld ?_
    rotate_left
    · (intro w' hSw; (try dsimp only at hSw); go_simp; (try with_reducible rfl))
    simp only [List.set_cons_zero, List.set_cons_succ]
    refine takeH 20 90 #[true, true, true, true, true, true, true, true, true, true, true, true, true, true, true, true, true, true, true, true, true, false, false, false, false, false, false, false] (v := ?_) rfl rfl rfl (by kernel_rfl) (by kernel_rfl) (by kernel_rfl) (fun _ _ _ h => h) (Or.inl ⟨by rfl, ?_⟩) hHeld ?_
    rotate_left
    · (intro w' hSw; (try dsimp only at hSw); go_simp; (try with_reducible rfl))
    simp only [List.set_cons_zero, List.set_cons_succ]
    refine takeH 21 91 #[true, true, true, true, true, true, true, true, true, true, true, true, true, true, true, true, true, true, true, true, true, true, false, false, false, false, false, false] (v := ?_) rfl rfl rfl (by kernel_rfl) (by kernel_rfl) (by kernel_rfl) (fun _ _ _ h => h) (Or.inl ⟨by rfl, ?_⟩) hHeld ?_
    rotate_left
    · (intro w' hSw; (try dsimp only at hSw); go_simp; (try with_reducible rfl))
    simp only [List.set_cons_zero, List.set_cons_succ]
    refine takeH 22 92 #[true, true, true, true, true, true, true, true, true, true, true, true, true, true, true, true, true, true, true, true, true, true, true, false, false, false, false, false] (v := ?_) rfl rfl rfl (by kernel_rfl) (by kernel_rfl) (by kernel_rfl) (fun _ _ _ h => h) (Or.inl ⟨by rfl, ?_⟩) hHeld ?_
    rotate_left
    · (intro w' hSw; (try dsimp only at hSw); go_simp; (try with_reducible rfl))
    simp only [List.set_cons_zero, List.set_cons_succ]
    refine takeH 23 93 #[true, true, true, true, true, true, true, true, true, true, true, true, true, true, true, true, true, true, true, true, true, true, true, true, false, false, false, false] (v := ?_) rfl rfl rfl (by kernel_rfl) (by kernel_rfl) (by kernel_rfl) (fun _ _ _ h => h) (Or.inl ⟨by rfl, ?_⟩) hHeld ?_
    rotate_left
    · (intro w' hSw; (try dsimp only at hSw); go_simp; (try with_reducible rfl))
    simp only [List.set_cons_zero, List.set_cons_succ]
    refine takeH 24 94 #[true, true, true, true, true, true, true, true, true, true, true, true, true, true, true, true, true, true, true, true, true, true, true, true, true, false, false, false] (v := ?_) rfl rfl rfl (by kernel_rfl) (by kernel_rfl) (by kernel_rfl) (fun _ _ _ h => h) (Or.inl ⟨by rfl, ?_⟩) hHeld ?_
    rotate_left
    · (intro w' hSw; (try dsimp only at hSw); go_simp; (try with_reducible rfl))
    simp only [List.set_cons_zero, List.set_cons_succ]
    refine takeH 25 95 #[true, true, true, true, true, true, true, true, true, true, true, true, true, true, true, true, true, true, true, true, true, true, true, true, true, true, false, false] (v := ?_) rfl rfl rfl (by kernel_rfl) (by kernel_rfl) (by kernel_rfl) (fun _ _ _ h => h) (Or.inl ⟨by rfl, ?_⟩) hHeld ?_
    rotate_left
    · (intro w' hSw; (try dsimp only at hSw); go_simp; (try with_reducible rfl))
    simp only [List.set_cons_zero, List.set_cons_succ]
    refine takeH 26 96 #[true, true, true, true, true, true, true, true, true, true, true, true, true, true, true, true, true, true, true, true, true, true, true, true, true, true, true, false] (v := ?_) rfl rfl rfl (by kernel_rfl) (by kernel_rfl) (by kernel_rfl) (fun _ _ _ h => h) (Or.inl ⟨by rfl, ?_⟩) hHeld ?_
    rotate_left
    · (intro w' hSw; (try dsimp only at hSw); go_simp; (try with_reducible rfl))
    simp only [List.set_cons_zero, List.set_cons_succ]
    refine takeH 27 4 #[true, true, true, true, true, true, true, true, true, true, true, true, true, true, true, true, true, true, true, true, true, true, true, true, true, true, true, true] (v := ?_) rfl rfl rfl (by kernel_rfl) (by kernel_rfl) (by kernel_rfl) (fun _ _ _ h => h) (Or.inl ⟨by rfl, ?_⟩) hHeld ?_
    rotate_left
    · (intro w' hSw; (try dsimp only at hSw); go_simp; (try with_reducible rfl))
    simp only [List.set_cons_zero, List.set_cons_succ]
    refine wpAnyH_done (by kernel_rfl) ?_ _
    refine NoPanic.normal ?_
    go_wp2_with fail
    go_ret
    exact ⟨ret_bool (by simp), hbw4.trans (hHeld.mono hbw4.size)⟩
set_option maxHeartbeats 8000000 in
theorem rback_none (u : Nat) (A : Option Addr) (n c : Nat) (l : List Nat) (w : World) (hu : u < 256) (hr : Rd w w.heap.size 1 A n (l.map bv)) (hb : ∀ c ∈ l, c < 256) (hc : n ≤ c) (hn : n ≤ 20000) (hf : ¬ (1 ≤ n ∧ n ≤ 253)) :
    Calls Try.prog 4 #[.int .u8 u, .slice A n c] w fun e w' => e = .returned (.bool true) ∧ Below w.heap.size w w' := by
  have h0 : ¬ (20000 : Int) < (n : Int) := by omega
  have hnm : n ≤ 9223372036854775807 := by omega
  have hu' : 0 ≤ (u : Int) ∧ (u : Int) < 256 := by omega
  have hl : l.length = n := by have := hr.1; simpa using this
  obtain ⟨gu, gp, ge, hg, hgc⟩ := put_get l hb
  have hn0 : (0 : Int) ≤ (n : Int) := by omega
  have Hg := Lib.hid hg
  have Hgc := Lib.hid hgc
  have HU' := Lib.hid hu'
  have Hl := Lib.hid hl
  clear hg hgc hu' hl
  have t1 : (0 < n) = False ∨ 0 < n ∧ (253 : Int) < (n : Int) ∧ decide ((n : Int) ≤ 253) = false := by
    by_cases h : 0 < n
    · exact .inr ⟨h, by omega, decide_eq_false (by omega)⟩
    · exact .inl (eq_false h)
  have hpn : putL u l = [] := by rw [putL, if_neg (by rw [Hl.out]; exact hf)]
  have F1 := Lib.hid hpn
  clear hpn hf
  rcases t1 with t1 | ⟨t1, t2, t3⟩
  all_goals
    go_enter Try.func4, Try.ntmps4
    go_wp2_with (first
      | (go_at_call 9; (with_reducible refine (head_any _).mono ?_); rintro e w1 ⟨rfl, hb1⟩
         have hr1 := (hr.below hb1).more hb1.size)
      | (go_at_call 12; (with_reducible refine (put_any u A n c _ l _ hr1 (Nat.le_refl _) hb HU'.out hnm).mono ?_)
         rintro e w2 ⟨A2, n2, c2, rfl, hown2, hb2⟩
         rw [Int.toNat_natCast, F1.out] at hown2
         obtain rfl : n2 = 0 := by have := own_len hown2; exact this
         have hbw2 := hb1.trans (hb2.mono hb1.size)
         have hr12 := (hr1.below hb2).more hb2.size
         clear hown2 hb1 hb2 hr1)
      | (go_at_call 10; (with_reducible refine (get_any A n c _ l _ hr12 (Nat.le_refl _) hb hc hnm).mono ?_)
         rintro e w4 ⟨A4, n4, c4, he, hr4, hc4, hm4, hb4⟩
         rw [Hg.out] at he hr4
         subst he
         have hr14 := (hr12.below hb4).more hb4.size
         have hbw4 := hbw2.trans (hb4.mono hbw2.size)
         clear hb4 hr12 hbw2))
    have cv1 : ∀ w', Below w4.heap.size w4 w' → (convert 22 9 (.slice A n c)).run Try.prog w' = .ok (.string (bstr l)) w' := fun w' h => kcvB w' A n c _ l (hr14.below h)
    rcases Hgc.out with ⟨rfl, hpg, hgu, hgb⟩ | ⟨hge, rfl, rfl⟩
    · have Hpg := Lib.hid hpg
      have hgu' : 0 ≤ (gu : Int) ∧ (gu : Int) < 256 := by omega
      have Hgu := Lib.hid hgu'
      have hn4 : n4 ≤ 9223372036854775807 := by have := Nat.le_trans hc4 hm4; unfold maxLen at this; omega
      clear hpg hgu'
      refine startH (fun w' => Below w4.heap.size w4 w') 28 #[false, false, false, false, false, false, false, false, false, false, false, false, false, false, false, false, false, false, false, false, false, false, false, false, false, false, false, false] rfl rfl (by kernel_rfl) ?_ (fun hHeld => ?_)
      · (first | exact (Below.refl _ _).drew | assumption)
      refine takeH 0 70 #[true, false, false, false, false, false, false, false, false, false, false, false, false, false, false, false, false, false, false, false, false, false, false, false, false, false, false, false] (v := ?_) rfl rfl rfl (by kernel_rfl) (by kernel_rfl) (by kernel_rfl) (fun _ _ _ h => h) (Or.inl ⟨by rfl, ?_⟩) hHeld ?_
      rotate_left
      · (intro w' hSw; (try dsimp only at hSw); go_simp; (try with_reducible rfl))
      simp only [List.set_cons_zero, List.set_cons_succ]
      refine takeH 1 71 #[true, true, false, false, false, false, false, false, false, false, false, false, false, false, false, false, false, false, false, false, false, false, false, false, false, false, false, false] (v := ?_) rfl rfl rfl (by kernel_rfl) (by kernel_rfl) (by kernel_rfl) (fun _ _ _ h => h) (Or.inl ⟨by rfl, ?_⟩) hHeld ?_
      rotate_left
      · (intro w' hSw; (try dsimp only at hSw); go_simp; (try with_reducible rfl))
      simp only [List.set_cons_zero, List.set_cons_succ]
      refine takeH 2 72 #[true, true, true, false, false, false, false, false, false, false, false, false, false, false, false, false, false, false, false, false, false, false, false, false, false, false, false, false] (v := ?_) rfl rfl rfl (by kernel_rfl) (by kernel_rfl) (by kernel_rfl) (fun _ _ _ h => h) (Or.inl ⟨by rfl, ?_⟩) hHeld ?_
      rotate_left
      · (intro w' hSw; (try dsimp only at hSw); go_simp; (try with_reducible rfl))
      simp only [List.set_cons_zero, List.set_cons_succ]
      refine takeH 3 73 #[true, true, true, true, false, false, false, false, false, false, false, false, false, false, false, false, false, false, false, false, false, false, false, false, false, false, false, false] (v := ?_) rfl rfl rfl (by kernel_rfl) (by kernel_rfl) (by kernel_rfl) (fun _ _ _ h => h) (Or.inl ⟨by rfl, ?_⟩) hHeld ?_
      rotate_left
      · (intro w' hSw; (try dsimp only at hSw); go_simp; (try with_reducible rfl))
      simp only [List.set_cons_zero, List.set_cons_succ]
      refine takeH 4 74 #[true, true, true, true, true, false, false, false, false, false, false, false, false, false, false, false, false, false, false, false, false, false, false, false, false, false, false, false] (v := ?_) rfl rfl rfl (by kernel_rfl) (by kernel_rfl) (by kernel_rfl) (fun _ _ _ h => h) (Or.inl ⟨by rfl, ?_⟩) hHeld ?_
      rotate_left
      · (intro w' hSw; (try dsimp only at hSw); go_simp; (try with_reducible rfl))
      simp only [List.set_cons_zero, List.set_cons_succ]
      refine takeH 5 75 #[true, true, true, true, true, true, false, false, false, false, false, false, false, false, false, false, false, false, false, false, false, false, false, false, false, false, false, false] (v := ?_) rfl rfl rfl (by kernel_rfl) (by kernel_rfl) (by kernel_rfl) (fun _ _ _ h => h) (Or.inl ⟨by rfl, ?_⟩) hHeld ?_
      rotate_left
      · (intro w' hSw; (try dsimp only at hSw); go_simp; (try with_reducible rfl))
      simp only [List.set_cons_zero, List.set_cons_succ]
      refine takeH 6 76 #[true, true, true, true, true, true, true, false, false, false, false, false, false, false, false, false, false, false, false, false, false, false, false, false, false, false, false, false] (v := ?_) rfl rfl rfl (by kernel_rfl) (by kernel_rfl) (by kernel_rfl) (fun _ _ _ h => h) (Or.inl ⟨by rfl, ?_⟩) hHeld ?_
      rotate_left
      · (intro w' hSw; (try dsimp only at hSw); go_simp; (try with_reducible rfl))
      simp only [List.set_cons_zero, List.set_cons_succ]
      refine takeH 9 79 #[true, true, true, true, true, true, true, false, false, true, false, false, false, false, false, false, false, false, false, false, false, false, false, false, false, false, false, false] (v := ?_) rfl rfl rfl (by kernel_rfl) (by kernel_rfl) (by kernel_rfl) (fun _ _ _ h => h) (Or.inl ⟨by rfl, ?_⟩) hHeld ?_
      rotate_left
      · (intro w' hSw; (try dsimp only at hSw); go_simp; (try with_reducible rfl))
      simp only [List.set_cons_zero, List.set_cons_succ]
      refine takeH 10 80 #[true, true, true, true, true, true, true, false, false, true, true, false, false, false, false, false, false, false, false, false, false, false, false, false, false, false, false, false] (v := ?_) rfl rfl rfl (by kernel_rfl) (by kernel_rfl) (by kernel_rfl) (fun _ _ _ h => h) (Or.inl ⟨by rfl, ?_⟩) hHeld ?_
      rotate_left
      · (intro w' hSw; (try dsimp only at hSw); go_simp; (try with_reducible rfl))
      simp only [List.set_cons_zero, List.set_cons_succ]
      refine branchH 7 77 #[true, true, true, true, true, true, true, true, false, true, true, false, false, false, false, false, false, false, false, false, false, false, false, false, false, false, false, false] (by kernel_rfl) rfl rfl rfl (by rfl) (fun K hK => ?_)
      go_simp
      (go_at_call 12; (with_reducible refine (put_any gu A4 n4 c4 w4.heap.size gp _ (hr4.below hHeld) hHeld.size hgb Hgu.out hn4).mono ?_))
      rintro e wn ⟨A5, n5, c5, rfl, hown5, hbn⟩
      rw [Int.toNat_natCast, Hpg.out] at hown5
      have hr5 := Rd.of_own hown5
      have hHn := hHeld.trans (hbn.mono hHeld.size)
      have kv5 := kcvB _ A5 n5 c5 _ _ hr5
      clear hown5
      refine hK.out _ _ ?_ (fun hHeld' => ?_)
      · (first | exact (Below.refl _ _).drew | assumption)
      clear hK K hHeld
      have hHeld := hHeld'
      clear hHeld'
      simp only [List.set_cons_zero, List.set_cons_succ]
      refine branchH 8 78 #[true, true, true, true, true, true, true, true, true, true, true, false, false, false, false, false, false, false, false, false, false, false, false, false, false, false, false, false] (by kernel_rfl) rfl rfl rfl (by rfl) (fun K hK => ?_)
      go_simp
      refine hK.out _ _ ?_ (fun hHeld' => ?_)
      · (first | exact (Below.refl _ _).drew | assumption)
      clear hK K hHeld
      have hHeld := hHeld'
      clear hHeld'
      simp only [List.set_cons_zero, List.set_cons_succ]
      refine takeH 11 81 #[true, true, true, true, true, true, true, true, true, true, true, true, false, false, false, false, false, false, false, false, false, false, false, false, false, false, false, false] (v := ?_) rfl rfl rfl (by kernel_rfl) (by kernel_rfl) (by kernel_rfl) (fun _ _ _ h => h) (Or.inl ⟨by rfl, ?_⟩) hHeld ?_
      rotate_left
      · (intro w' hSw; (try dsimp only at hSw); go_simp; (try with_reducible rfl))
      simp only [List.set_cons_zero, List.set_cons_succ]
      refine takeH 12 82 #[true, true, true, true, true, true, true, true, true, true, true, true, true, false, false, false, false, false, false, false, false, false, false, false, false, false, false, false] (v := ?_) rfl rfl rfl (by kernel_rfl) (by kernel_rfl) (by kernel_rfl) (fun _ _ _ h => h) (Or.inl ⟨by rfl, ?_⟩) hHeld ?_
      rotate_left
      · (intro w' hSw; (try dsimp only at hSw); go_simp; (try with_reducible rfl))
      simp only [List.set_cons_zero, List.set_cons_succ]
      refine takeH 13 83 #[true, true, true, true, true, true, true, true, true, true, true, true, true, true, false, false, false, false, false, false, false, false, false, false, false, false, false, false] (v := ?_) rfl rfl rfl (by kernel_rfl) (by kernel_rfl) (by kernel_rfl) (fun _ _ _ h => h) (Or.inl ⟨by rfl, ?_⟩) hHeld ?_
      rotate_left
      · (intro w' hSw; (try dsimp only at hSw); go_simp; (try with_reducible rfl))
      simp only [List.set_cons_zero, List.set_cons_succ]
      refine takeH 14 84 #[true, true, true, true, true, true, true, true, true, true, true, true, true, true, true, false, false, false, false, false, false, false, false, false, false, false, false, false] (v := ?_) rfl rfl rfl (by kernel_rfl) (by kernel_rfl) (by kernel_rfl) (fun _ _ _ h => h) (Or.inl ⟨by rfl, ?_⟩) hHeld ?_
      rotate_left
      · (intro w' hSw; (try dsimp only at hSw); go_simp; (try with_reducible rfl))
      simp only [List.set_cons_zero, List.set_cons_succ]
      refine takeH 15 85 #[true, true, true, true, true, true, true, true, true, true, true, true, true, true, true, true, false, false, false, false, false, false, false, false, false, false, false, false] (v := ?_) rfl rfl rfl (by kernel_rfl) (by kernel_rfl) (by kernel_rfl) (fun _ _ _ h => h) (Or.inl ⟨by rfl, ?_⟩) hHeld ?_
      rotate_left
      · (intro w' hSw; (try dsimp only at hSw); go_simp; (try with_reducible rfl))
      simp only [List.set_cons_zero, List.set_cons_succ]
      refine takeH 16 86 #[true, true, true, true, true, true, true, true, true, true, true, true, true, true, true, true, true, false, false, false, false, false, false, false, false, false, false, false] (v := ?_) rfl rfl rfl (by kernel_rfl) (by kernel_rfl) (by kernel_rfl) (fun _ _ _ h => h) (Or.inl ⟨by rfl, ?_⟩) hHeld ?_
      rotate_left
      · (intro w' hSw; (try dsimp only at hSw); go_simp; (try with_reducible rfl))
      simp only [List.set_cons_zero, List.set_cons_succ]
      refine takeH 17 87 #[true, true, true, true, true, true, true, true, true, true, true, true, true, true, true, true, true, true, false, false, false, false, false, false, false, false, false, false] (v := ?_) rfl rfl rfl (by kernel_rfl) (by kernel_rfl) (by kernel_rfl) (fun _ _ _ h => h) (Or.inl ⟨by rfl, ?_⟩) hHeld ?_
      rotate_left
      · (intro w' hSw; (try dsimp only at hSw); go_simp; (try with_reducible rfl))
      simp only [List.set_cons_zero, List.set_cons_succ]
      refine takeH 18 88 #[true, true, true, true, true, true, true, true, true, true, true, true, true, true, true, true, true, true, true, false, false, false, false, false, false, false, false, false] (v := undef) rfl rfl rfl (by kernel_rfl) (by kernel_rfl) (by kernel_rfl) (fun _ _ _ h => h) (Or.inr ⟨by rfl, rfl⟩) hHeld ?_
      simp only [List.set_cons_zero, List.set_cons_succ]
      refine takeH 19 89 #[true, true, true, true, true, true, true, true, true, true, true, true, true, true, true, true, true, true, true, true, false, false, false, false, false, false, false, false] (v := undef) rfl rfl rfl (by kernel_rfl) (by kernel_rfl) (by kernel_rfl) (fun _ _ _ h => h) (Or.inr ⟨by rfl, rfl⟩) hHeld ?_
      simp only [List.set_cons_zero, List.set_cons_succ]
      refine takeH 20 90 #[true, true, true, true, true, true, true, true, true, true, true, true, true, true, true, true, true, true, true, true, true, false, false, false, false, false, false, false] (v := undef) rfl rfl rfl (by kernel_rfl) (by kernel_rfl) (by kernel_rfl) (fun _ _ _ h => h) (Or.inr ⟨by rfl, rfl⟩) hHeld ?_
      simp only [List.set_cons_zero, List.set_cons_succ]
      refine takeH 21 91 #[true, true, true, true, true, true, true, true, true, true, true, true, true, true, true, true, true, true, true, true, true, true, false, false, false, false, false, false] (v := undef) rfl rfl rfl (by kernel_rfl) (by kernel_rfl) (by kernel_rfl) (fun _ _ _ h => h) (Or.inr ⟨by rfl, rfl⟩) hHeld ?_
      simp only [List.set_cons_zero, List.set_cons_succ]
      refine takeH 22 92 #[true, true, true, true, true, true, true, true, true, true, true, true, true, true, true, true, true, true, true, true, true, true, true, false, false, false, false, false] (v := undef) rfl rfl rfl (by kernel_rfl) (by kernel_rfl) (by kernel_rfl) (fun _ _ _ h => h) (Or.inr ⟨by rfl, rfl⟩) hHeld ?_
      simp only [List.set_cons_zero, List.set_cons_succ]
      refine takeH 23 93 #[true, true, true, true, true, true, true, true, true, true, true, true, true, true, true, true, true, true, true, true, true, true, true, true, false, false, false, false] (v := undef) rfl rfl rfl (by kernel_rfl) (by kernel_rfl) (by kernel_rfl) (fun _ _ _ h => h) (Or.inr ⟨by rfl, rfl⟩) hHeld ?_
      simp only [List.set_cons_zero, List.set_cons_succ]
      refine takeH 24 94 #[true, true, true, true, true, true, true, true, true, true, true, true, true, true, true, true, true, true, true, true, true, true, true, true, true, false, false, false] (v := undef) rfl rfl rfl (by kernel_rfl) (by kernel_rfl) (by kernel_rfl) (fun _ _ _ h => h) (Or.inr ⟨by rfl, rfl⟩) hHeld ?_
      simp only [List.set_cons_zero, List.set_cons_succ]
      refine takeH 25 95 #[true, true, true, true, true, true, true, true, true, true, true, true, true, true, true, true, true, true, true, true, true, true, true, true, true, true, false, false] (v := ?_) rfl rfl rfl (by kernel_rfl) (by kernel_rfl) (by kernel_rfl) (fun _ _ _ h => h) (Or.inl ⟨by rfl, ?_⟩) hHeld ?_
      rotate_left
      · (intro w' hSw; (try dsimp only at hSw); go_simp; (try with_reducible rfl))
      simp only [List.set_cons_zero, List.set_cons_succ]
      refine takeH 26 96 #[true, true, true, true, true, true, true, true, true, true, true, true, true, true, true, true, true, true, true, true, true, true, true, true, true, true, true, false] (v := ?_) rfl rfl rfl (by kernel_rfl) (by kernel_rfl) (by kernel_rfl) (fun _ _ _ h => h) (Or.inl ⟨by rfl, ?_⟩) hHeld ?_
      rotate_left
      · (intro w' hSw; (try dsimp only at hSw); go_simp; (try with_reducible rfl))
      simp only [List.set_cons_zero, List.set_cons_succ]
      refine takeH 27 4 #[true, true, true, true, true, true, true, true, true, true, true, true, true, true, true, true, true, true, true, true, true, true, true, true, true, true, true, true] (v := ?_) rfl rfl rfl (by kernel_rfl) (by kernel_rfl) (by kernel_rfl) (fun _ _ _ h => h) (Or.inl ⟨by rfl, ?_⟩) hHeld ?_
      rotate_left
      · (intro w' hSw; (try dsimp only at hSw); go_simp; (try with_reducible rfl))
      simp only [List.set_cons_zero, List.set_cons_succ]
      refine wpAnyH_done (by kernel_rfl) ?_ _
      refine NoPanic.normal ?_
      go_wp2_with fail
      go_ret
      exact ⟨ret_bool (by simp), hbw4.trans (hHeld.mono hbw4.size)⟩
    · have g1 : ((ge : Int) != 0) = true := by rw [bne_iff_ne]; omega
      have g2 : ((ge : Int) == 0) = false := by rw [beq_eq_false_iff_ne]; omega
      obtain rfl : n4 = 0 := by have := hr4.1; simpa using this.symm
      refine startH (fun w' => Below w4.heap.size w4 w') 28 #[false, false, false, false, false, false, false, false, false, false, false, false, false, false, false, false, false, false, false, false, false, false, false, false, false, false, false, false] rfl rfl (by kernel_rfl) ?_ (fun hHeld => ?_)
      · (first | exact (Below.refl _ _).drew | assumption)
      refine takeH 0 70 #[true, false, false, false, false, false, false, false, false, false, false, false, false, false, false, false, false, false, false, false, false, false, false, false, false, false, false, false] (v := ?_) rfl rfl rfl (by kernel_rfl) (by kernel_rfl) (by kernel_rfl) (fun _ _ _ h => h) (Or.inl ⟨by rfl, ?_⟩) hHeld ?_
      rotate_left
      · (intro w' hSw; (try dsimp only at hSw); go_simp; (try with_reducible rfl))
      simp only [List.set_cons_zero, List.set_cons_succ]
      refine takeH 1 71 #[true, true, false, false, false, false, false, false, false, false, false, false, false, false, false, false, false, false, false, false, false, false, false, false, false, false, false, false] (v := ?_) rfl rfl rfl (by kernel_rfl) (by kernel_rfl) (by kernel_rfl) (fun _ _ _ h => h) (Or.inl ⟨by rfl, ?_⟩) hHeld ?_
      rotate_left
      · (intro w' hSw; (try dsimp only at hSw); go_simp; (try with_reducible rfl))
      simp only [List.set_cons_zero, List.set_cons_succ]
      refine takeH 2 72 #[true, true, true, false, false, false, false, false, false, false, false, false, false, false, false, false, false, false, false, false, false, false, false, false, false, false, false, false] (v := ?_) rfl rfl rfl (by kernel_rfl) (by kernel_rfl) (by kernel_rfl) (fun _ _ _ h => h) (Or.inl ⟨by rfl, ?_⟩) hHeld ?_
      rotate_left
      · (intro w' hSw; (try dsimp only at hSw); go_simp; (try with_reducible rfl))
      simp only [List.set_cons_zero, List.set_cons_succ]
      refine takeH 3 73 #[true, true, true, true, false, false, false, false, false, false, false, false, false, false, false, false, false, false, false, false, false, false, false, false, false, false, false, false] (v := ?_) rfl rfl rfl (by kernel_rfl) (by kernel_rfl) (by kernel_rfl) (fun _ _ _ h => h) (Or.inl ⟨by rfl, ?_⟩) hHeld ?_
      rotate_left
      · (intro w' hSw; (try dsimp only at hSw); go_simp; (try with_reducible rfl))
      simp only [List.set_cons_zero, List.set_cons_succ]
      refine takeH 4 74 #[true, true, true, true, true, false, false, false, false, false, false, false, false, false, false, false, false, false, false, false, false, false, false, false, false, false, false, false] (v := ?_) rfl rfl rfl (by kernel_rfl) (by kernel_rfl) (by kernel_rfl) (fun _ _ _ h => h) (Or.inl ⟨by rfl, ?_⟩) hHeld ?_
      rotate_left
      · (intro w' hSw; (try dsimp only at hSw); go_simp; (try with_reducible rfl))
      simp only [List.set_cons_zero, List.set_cons_succ]
      refine takeH 5 75 #[true, true, true, true, true, true, false, false, false, false, false, false, false, false, false, false, false, false, false, false, false, false, false, false, false, false, false, false] (v := undef) rfl rfl rfl (by kernel_rfl) (by kernel_rfl) (by kernel_rfl) (fun _ _ _ h => h) (Or.inr ⟨by rfl, rfl⟩) hHeld ?_
      simp only [List.set_cons_zero, List.set_cons_succ]
      refine takeH 6 76 #[true, true, true, true, true, true, true, false, false, false, false, false, false, false, false, false, false, false, false, false, false, false, false, false, false, false, false, false] (v := undef) rfl rfl rfl (by kernel_rfl) (by kernel_rfl) (by kernel_rfl) (fun _ _ _ h => h) (Or.inr ⟨by rfl, rfl⟩) hHeld ?_
      simp only [List.set_cons_zero, List.set_cons_succ]
      refine takeH 7 77 #[true, true, true, true, true, true, true, true, false, false, false, false, false, false, false, false, false, false, false, false, false, false, false, false, false, false, false, false] (v := undef) rfl rfl rfl (by kernel_rfl) (by kernel_rfl) (by kernel_rfl) (fun _ _ _ h => h) (Or.inr ⟨by rfl, rfl⟩) hHeld ?_
      simp only [List.set_cons_zero, List.set_cons_succ]
      refine takeH 8 78 #[true, true, true, true, true, true, true, true, true, false, false, false, false, false, false, false, false, false, false, false, false, false, false, false, false, false, false, false] (v := undef) rfl rfl rfl (by kernel_rfl) (by kernel_rfl) (by kernel_rfl) (fun _ _ _ h => h) (Or.inr ⟨by rfl, rfl⟩) hHeld ?_
      simp only [List.set_cons_zero, List.set_cons_succ]
      refine takeH 9 79 #[true, true, true, true, true, true, true, true, true, true, false, false, false, false, false, false, false, false, false, false, false, false, false, false, false, false, false, false] (v := undef) rfl rfl rfl (by kernel_rfl) (by kernel_rfl) (by kernel_rfl) (fun _ _ _ h => h) (Or.inr ⟨by rfl, rfl⟩) hHeld ?_
      simp only [List.set_cons_zero, List.set_cons_succ]
      refine takeH 10 80 #[true, true, true, true, true, true, true, true, true, true, true, false, false, false, false, false, false, false, false, false, false, false, false, false, false, false, false, false] (v := undef) rfl rfl rfl (by kernel_rfl) (by kernel_rfl) (by kernel_rfl) (fun _ _ _ h => h) (Or.inr ⟨by rfl, rfl⟩) hHeld ?_
      simp only [List.set_cons_zero, List.set_cons_succ]
      refine takeH 11 81 #[true, true, true, true, true, true, true, true, true, true, true, true, false, false, false, false, false, false, false, false, false, false, false, false, false, false, false, false] (v := undef) rfl rfl rfl (by kernel_rfl) (by kernel_rfl) (by kernel_rfl) (fun _ _ _ h => h) (Or.inr ⟨by rfl, rfl⟩) hHeld ?_
      simp only [List.set_cons_zero, List.set_cons_succ]
      refine takeH 12 82 #[true, true, true, true, true, true, true, true, true, true, true, true, true, false, false, false, false, false, false, false, false, false, false, false, false, false, false, false] (v := ?_) rfl rfl rfl (by kernel_rfl) (by kernel_rfl) (by kernel_rfl) (fun _ _ _ h => h) (Or.inl ⟨by rfl, ?_⟩) hHeld ?_
      rotate_left
      · (intro w' hSw; (try dsimp only at hSw); go_simp; (try with_reducible rfl))
      simp only [List.set_cons_zero, List.set_cons_succ]
      refine takeH 13 83 #[true, true, true, true, true, true, true, true, true, true, true, true, true, true, false, false, false, false, false, false, false, false, false, false, false, false, false, false] (v := ?_) rfl rfl rfl (by kernel_rfl) (by kernel_rfl) (by kernel_rfl) (fun _ _ _ h => h) (Or.inl ⟨by rfl, ?_⟩) hHeld ?_
      rotate_left
      · (intro w' hSw; (try dsimp only at hSw); go_simp; (try with_reducible rfl))
      simp only [List.set_cons_zero, List.set_cons_succ]
      refine takeH 14 84 #[true, true, true, true, true, true, true, true, true, true, true, true, true, true, true, false, false, false, false, false, false, false, false, false, false, false, false, false] (v := ?_) rfl rfl rfl (by kernel_rfl) (by kernel_rfl) (by kernel_rfl) (fun _ _ _ h => h) (Or.inl ⟨by rfl, ?_⟩) hHeld ?_
      rotate_left
      · (intro w' hSw; (try dsimp only at hSw); go_simp; (try with_reducible rfl))
      simp only [List.set_cons_zero, List.set_cons_succ]
      refine takeH 15 85 #[true, true, true, true, true, true, true, true, true, true, true, true, true, true, true, true, false, false, false, false, false, false, false, false, false, false, false, false] (v := ?_) rfl rfl rfl (by kernel_rfl) (by kernel_rfl) (by kernel_rfl) (fun _ _ _ h => h) (Or.inl ⟨by rfl, ?_⟩) hHeld ?_
      rotate_left
      · (intro w' hSw; (try dsimp only at hSw); go_simp; (try with_reducible rfl))
      simp only [List.set_cons_zero, List.set_cons_succ]
      refine takeH 16 86 #[true, true, true, true, true, true, true, true, true, true, true, true, true, true, true, true, true, false, false, false, false, false, false, false, false, false, false, false] (v := ?_) rfl rfl rfl (by kernel_rfl) (by kernel_rfl) (by kernel_rfl) (fun _ _ _ h => h) (Or.inl ⟨by rfl, ?_⟩) hHeld ?_
      rotate_left
      · (intro w' hSw; (try dsimp only at hSw); go_simp; (try with_reducible rfl))
      simp only [List.set_cons_zero, List.set_cons_succ]
      refine takeH 17 87 #[true, true, true, true, true, true, true, true, true, true, true, true, true, true, true, true, true, true, false, false, false, false, false, false, false, false, false, false] (v := ?_) rfl rfl rfl (by kernel_rfl) (by kernel_rfl) (by kernel_rfl) (fun _ _ _ h => h) (Or.inl ⟨by rfl, ?_⟩) hHeld ?_
      rotate_left
      · (intro w' hSw; (try dsimp only at hSw); go_simp; (try with_reducible rfl))
      simp only [List.set_cons_zero, List.set_cons_succ]
      refine takeH 18 88 #[true, true, true, true, true, true, true, true, true, true, true, true, true, true, true, true, true, true, true, false, false, false, false, false, false, false, false, false] (v := ?_) rfl rfl rfl (by kernel_rfl) (by kernel_rfl) (by kernel_rfl) (fun _ _ _ h => h) (Or.inl ⟨by rfl, ?_⟩) hHeld ?_
      rotate_left
      · (intro w' hSw; (try dsimp only at hSw); go_simp; (try with_reducible rfl))
      simp only [List.set_cons_zero, List.set_cons_succ]
      refine takeH 19 89 #[true, true, true, true, true, true, true, true, true, true, true, true, true, true, true, true, true, true, true, true, false, false, false, false, false, false, false, false] (v := ?_) rfl rfl rfl (by kernel_rfl) (by kernel_rfl) (by kernel_rfl) (fun _ _ _ h => h) (Or.inl ⟨by rfl, ?_⟩) hHeld ?_
      rotate_left
      · (intro w' hSw; (try dsimp only at hSw); go_simp; (try with_reducible rfl))
      simp only [List.set_cons_zero, List.set_cons_succ]
      refine takeH 20 90 #[true, true, true, true, true, true, true, true, true, true, true, true, true, true, true, true, true, true, true, true, true, false, false, false, false, false, false, false] (v := ?_) rfl rfl rfl (by kernel_rfl) (by kernel_rfl) (by kernel_rfl) (fun _ _ _ h => h) (Or.inl ⟨by rfl, ?_⟩) hHeld ?_
      rotate_left
      · (intro w' hSw; (try dsimp only at hSw); go_simp; (try with_reducible rfl))
      simp only [List.set_cons_zero, List.set_cons_succ]
      refine takeH 21 91 #[true, true, true, true, true, true, true, true, true, true, true, true, true, true, true, true, true, true, true, true, true, true, false, false, false, false, false, false] (v := ?_) rfl rfl rfl (by kernel_rfl) (by kernel_rfl) (by kernel_rfl) (fun _ _ _ h => h) (Or.inl ⟨by rfl, ?_⟩) hHeld ?_
      rotate_left
      · (intro w' hSw; (try dsimp only at hSw); go_simp; (try with_reducible rfl))
      simp only [List.set_cons_zero, List.set_cons_succ]
      refine takeH 22 92 #[true, true, true, true, true, true, true, true, true, true, true, true, true, true, true, true, true, true, true, true, true, true, true, false, false, false, false, false] (v := ?_) rfl rfl rfl (by kernel_rfl) (by kernel_rfl) (by kernel_rfl) (fun _ _ _ h => h) (Or.inl ⟨by rfl, ?_⟩) hHeld ?_
      rotate_left
      · (intro w' hSw; (try dsimp only at hSw); go_simp; (try with_reducible rfl))
      simp only [List.set_cons_zero, List.set_cons_succ]
      refine takeH 23 93 #[true, true, true, true, true, true, true, true, true, true, true, true, true, true, true, true, true, true, true, true, true, true, true, true, false, false, false, false] (v := ?_) rfl rfl rfl (by kernel_rfl) (by kernel_rfl) (by kernel_rfl) (fun _ _ _ h => h) (Or.inl ⟨by rfl, ?_⟩) hHeld ?_
      rotate_left
      · (intro w' hSw; (try dsimp only at hSw); go_simp; (try with_reducible rfl))
      simp only [List.set_cons_zero, List.set_cons_succ]
      refine takeH 24 94 #[true, true, true, true, true, true, true, true, true, true, true, true, true, true, true, true, true, true, true, true, true, true, true, true, true, false, false, false] (v := ?_) rfl rfl rfl (by kernel_rfl) (by kernel_rfl) (by kernel_rfl) (fun _ _ _ h => h) (Or.inl ⟨by rfl, ?_⟩) hHeld ?_
      rotate_left
      · (intro w' hSw; (try dsimp only at hSw); go_simp; (try with_reducible rfl))
      simp only [List.set_cons_zero, List.set_cons_succ]
      refine takeH 25 95 #[true, true, true, true, true, true, true, true, true, true, true, true, true, true, true, true, true, true, true, true, true, true, true, true, true, true, false, false] (v := ?_) rfl rfl rfl (by kernel_rfl) (by kernel_rfl) (by kernel_rfl) (fun _ _ _ h => h) (Or.inl ⟨by rfl, ?_⟩) hHeld ?_
      rotate_left
      · (intro w' hSw; (try dsimp only at hSw); go_simp; (try with_reducible rfl))
      simp only [List.set_cons_zero, List.set_cons_succ]
      refine takeH 26 96 #[true, true, true, true, true, true, true, true, true, true, true, true, true, true, true, true, true, true, true, true, true, true, true, true, true, true, true, false] (v := ?_) rfl rfl rfl (by kernel_rfl) (by kernel_rfl) (by kernel_rfl) (fun _ _ _ h => h) (Or.inl ⟨by rfl, ?_⟩) hHeld ?_
      rotate_left
      · (intro w' hSw; (try dsimp only at hSw); go_simp; (try with_reducible rfl))
      simp only [List.set_cons_zero, List.set_cons_succ]
      refine takeH 27 4 #[true, true, true, true, true, true, true, true, true, true, true, true, true, true, true, true, true, true, true, true, true, true, true, true, true, true, true, true] (v := ?_) rfl rfl rfl (by kernel_rfl) (by kernel_rfl) (by kernel_rfl) (fun _ _ _ h => h) (Or.inl ⟨by rfl, ?_⟩) hHeld ?_
      rotate_left
      · (intro w' hSw; (try dsimp only at hSw); go_simp; (try with_reducible rfl))
      simp only [List.set_cons_zero, List.set_cons_succ]
      refine wpAnyH_done (by kernel_rfl) ?_ _
      refine NoPanic.normal ?_
      go_wp2_with fail
      go_ret
      exact ⟨ret_bool (by simp), hbw4.trans (hHeld.mono hbw4.size)⟩
theorem rback_walk (u : Int) (A : Option Addr) (n c : Nat) (l : List Nat) (w : World) (hu : (Lit.int .u8 u).wf = true) (hr : Rd w w.heap.size 1 A n (l.map bv)) (hb : ∀ c ∈ l, c < 256) (hc : n ≤ c) (hm : c ≤ maxLen) :
    Calls Try.prog 4 #[.int .u8 u, .slice A n c] w fun e w' => e = .returned (.bool true) ∧ Below w.heap.size w w' := by
  by_cases hn : n ≤ 20000
  · obtain ⟨p1, p2⟩ := wf_u8_lt hu
    obtain ⟨k, rfl⟩ : ∃ k : Nat, u = (k : Int) := ⟨u.toNat, by omega⟩
    by_cases hf : 1 ≤ n ∧ n ≤ 253
    · exact rback_fine k A n c l w (by omega) hr hb hc hn hf
    · exact rback_none k A n c l w (by omega) hr hb hc hn hf
  · exact rback_great u A n c w (by omega) (by unfold maxLen at hm; omega)
end Go.Proofs.Ytkajhobgelaigaa
