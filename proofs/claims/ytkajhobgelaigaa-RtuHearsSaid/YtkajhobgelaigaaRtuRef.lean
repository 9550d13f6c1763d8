/- The reference of layer 2: frames. -/
import Derived.Test.YtkajhobgelaigaaRtu
import Derived.Test.YtkajhobgelaigaaCrcF
set_option linter.unusedVariables false
set_option linter.unusedSimpArgs false
set_option maxRecDepth 100000
namespace Go.Proofs.Ytkajhobgelaigaa
open Go Go.RowKit CrcMath

set_option maxHeartbeats 1000000 in
theorem rput_fine (u : Nat) (A : Option Addr) (n c B : Nat) (l : List Nat) (w : World) (hr : Rd w B 1 A n (l.map bv)) (hB : B ≤ w.heap.size) (hb : ∀ c ∈ l, c < 256) (hu : u < 256) (h1 : 1 ≤ n) (h2 : n ≤ 253) :
    Calls Try.prog 13 #[.int .u8 u, .slice A n c] w (PutPost w (seal_ (u :: l))) := by
  have hl : l.length = n := by have := hr.1; simpa using this
  obtain ⟨i0, hi, hz0, hz1, hz2⟩ := info_parts info_u8
  have b1 : ((n : Int) == 0) = false := by rw [beq_eq_false_iff_ne]; omega
  have b2 : decide ((253 : Int) < (n : Int)) = false := decide_eq_false (by omega)
  have hl2 : ∀ c ∈ u :: l, c < 256 := fun c hc => by
    rcases List.mem_cons.1 hc with rfl | hc
    · exact hu
    · exact hb c hc
  have hown2 : (w.alloc (.cells #[.int .u8 u] 5)).ownsRow w.heap.size 5 1 (.slice (some ⟨w.heap.size, 0, none⟩) 1 1) 1 [bv u] := World.ownsRow_lit w #[bv u] 1 (Nat.le_refl _) (by unfold maxLen; omega) rfl
  have hb2 : Below w.heap.size w (w.alloc (.cells #[.int .u8 u] 5)) := (Below.refl _ _).alloc (Nat.le_refl _) _
  have hr2 := (hr.more hB).below hb2
  go_enter Try.func13, Try.ntmps13
  go_wp2_with (first
    | (at_builtin
       refine wpList_app _ rfl (.tmp 14) (.tmp 15) 22 rfl w.heap.size 5 i0 (.int .u8 0) 1 1 Try.underlying22 hi hz0 hz1 hz2 rfl (by omega) _ 1 _ rfl hown2 w.heap.size A n c (l.map bv) rfl hr2 (bv_one l) ?g2 ?g3 ?g4 ?_))
  case g2 => unfold maxLen; omega
  case g3 => omega
  case g4 => simp
  intro v3 w3 hown3 hg3 _
  obtain ⟨A3, c3, rfl⟩ := own_shape hown3
  have hb3 : Below w.heap.size w w3 := hb2.grown hg3 (by simp) (fun k hk => by simp [Value.ownBlock] at hk; omega)
  have hown3' : w3.ownsRow w.heap.size 5 1 (.slice A3 (1 + n) c3) (1 + n) ((u :: l).map bv) := hown3
  have hr3 := Rd.of_own hown3'
  have hsz3 := hb3.size
  clear hown3 hg3 hown2 hr2
  go_wp2_with (first
    | (go_at_call 26; (with_reducible refine (rseal_any A3 (1 + n) c3 _ (u :: l) _ hr3 (Nat.le_refl _) hl2 (by omega)).mono ?_)
       rintro e w4 ⟨A4, c4, rfl, hown4, hb4⟩))
  go_ret
  exact ⟨_, _, _, rfl, own_base hown4 hsz3, hb3.trans (hb4.mono hsz3)⟩
theorem rput_none (u : Nat) (A : Option Addr) (n c : Nat) (w : World) (hn : n ≤ 9223372036854775807) (h : ¬ (1 ≤ n ∧ n ≤ 253)) :
    Calls Try.prog 13 #[.int .u8 u, .slice A n c] w (PutPost w []) := by
  have go : ((n : Int) == 0) = true ∨ ((n : Int) == 0) = false ∧ decide ((253 : Int) < (n : Int)) = true := by simp; omega
  rcases go with b1 | ⟨b1, b2⟩
  all_goals
    go_enter Try.func13, Try.ntmps13
    go_wp2_with fail
    go_ret
    exact ⟨none, 0, 0, rfl, World.ownsRow_nil _ _ _ _, Below.refl _ _⟩
theorem rput_any (ui : Int) (A : Option Addr) (n c B : Nat) (l : List Nat) (w : World) (hr : Rd w B 1 A n (l.map bv)) (hB : B ≤ w.heap.size) (hb : ∀ c ∈ l, c < 256) (hu : 0 ≤ ui ∧ ui < 256) (hn : n ≤ 9223372036854775807) :
    Calls Try.prog 13 #[.int .u8 ui, .slice A n c] w (PutPost w (putL ui.toNat l)) := by
  have hl : l.length = n := by have := hr.1; simpa using this
  obtain ⟨u, rfl⟩ : ∃ u : Nat, ui = (u : Int) := ⟨ui.toNat, by omega⟩
  rw [Int.toNat_natCast]
  by_cases h : 1 ≤ n ∧ n ≤ 253
  · rw [putL, if_pos (by omega)]; exact rput_fine u A n c B l w hr hB hb (by omega) h.1 h.2
  · rw [putL, if_neg (by omega)]; exact rput_none u A n c w hn h

set_option maxHeartbeats 1000000 in
theorem rget_mid (A : Option Addr) (n c B : Nat) (l : List Nat) (w : World) (hr : Rd w B 1 A n (l.map bv)) (hB : B ≤ w.heap.size) (hb : ∀ c ∈ l, c < 256) (h1 : 4 ≤ n) (h2 : n ≤ 256) (hc : n ≤ c) :
    Calls Try.prog 11 #[.slice A n c] w (GetPost w (getL l)) := by
  have hl : l.length = n := by have := hr.1; simpa using this
  have b1 : decide ((256 : Int) < (n : Int)) = false := decide_eq_false (by omega)
  have b2 : decide ((n : Int) < 4) = false := decide_eq_false (by omega)
  rcases ho : opens l with _ | _
  · have e : getL l = (0, [], 23) := by rw [getL, if_neg (by omega), if_neg (by omega), ho]; rfl
    rw [e]
    have Ho := Lib.hid ho
    clear ho
    go_enter Try.func11, Try.ntmps11
    go_wp2_with (first
      | (go_at_call 23; (with_reducible refine (ropen_any A n c _ l _ hr hB hb (by omega) hc).mono ?_)
         rintro e w2 ⟨A2, n2, c2, he, hown2, hb2⟩
         rw [Ho.out] at he
         subst he))
    go_ret3
    exact ⟨none, 0, 0, rfl, Rd.nil_ _ _ _ _, Nat.le_refl _, Nat.zero_le _, hb2⟩
  · obtain ⟨n', hn'⟩ : ∃ n', n = n' + 2 := ⟨n - 2, by omega⟩
    subst hn'
    have e : getL l = (l.getD 0 0, (l.take n').drop 1, 0) := by rw [getL, if_neg (by omega), if_neg (by omega), ho, if_pos rfl, hl]; rfl
    rw [e]
    have Ho := Lib.hid ho
    have Hl := Lib.hid hl
    clear ho hl
    go_enter Try.func11, Try.ntmps11
    go_wp2_with (first
      | (go_at_call 23; (with_reducible refine (ropen_any A (n' + 2) c _ l _ hr hB hb (by omega) hc).mono ?_)
         rintro e w2 ⟨A2, n2, c2, he, hown2, hb2⟩
         rw [Ho.out] at he hown2
         rw [if_pos rfl, Hl.out, show n' + 2 - 2 = n' from rfl] at hown2
         have hn2 := own_len hown2
         rw [List.length_map, List.length_take, Hl.out, show min n' (n' + 2) = n' by omega] at hn2
         subst hn2
         subst he))
    have hcap := own_cap hown2
    have hcm := own_cap2 hown2
    obtain ⟨_, g, rfl, _, _, hcell, _⟩ := own_some hown2 (by omega)
    have hl0 : 0 < l.length := by rw [Hl.out]; omega
    obtain ⟨x0, hx0⟩ : ∃ x0, x0 = l.getD 0 0 := ⟨_, rfl⟩
    rw [← hx0]
    have c0 := hcell 0 (.int .u8 (x0 : Nat)) (by
      rw [hx0]
      rw [List.getElem?_map, List.getElem?_take, if_pos (by omega), List.getElem?_eq_getElem hl0, List.getD_eq_getElem?_getD, List.getElem?_eq_getElem hl0]; rfl)
    have hg2 : g < w2.heap.size := World.block_lt_of_cell? _ _ c0
    have hr2 := Rd.of_own hown2
    have q0 : (0 : Int) < (n2 : Int) := by omega
    have hn1 : 1 ≤ n2 := by omega
    have q1 : 0 < n2 := by omega
    have q3 : (c2 = 1) = False := eq_false (by omega)
    have q2 : (1 : Int) ≤ (n2 : Int) := by omega
    obtain ⟨xs, hxs⟩ : ∃ xs, xs = (l.take n2).drop 1 := ⟨_, rfl⟩
    have hfin : Rd w2 w2.heap.size 1 (some ⟨g, 1, none⟩) (n2 - 1) (xs.map bv) := by
      rw [hxs, List.map_drop]
      exact hr2.drop1 (by omega)
    have c0' : ∀ w', Below w2.heap.size w2 w' → w'.cell? ⟨g, 0, none⟩ = some (.int .u8 (x0 : Nat)) := fun w' h => (h.cell (p := ⟨g, 0, none⟩) hg2).trans c0
    obtain ⟨i0, hi, hz0, hz1, hz2⟩ := info_parts info_u8
    have Hfin := Lib.hid hfin
    have Hx0 := Lib.hid hx0
    have Hxs := Lib.hid hxs
    have Hi := Lib.hid hi
    clear hcell hfin hx0 c0 hxs hi
    refine startH (fun w' => Below w2.heap.size w2 w') 10 #[false, false, false, false, false, false, false, false, false, false] rfl rfl (by kernel_rfl) ?_ (fun hHeld => ?_)
    · (first | exact (Below.refl _ _).drew | exact hB6 | exact ((Below.refl _ w2).drew).alloc (Nat.le_refl _) _ | assumption)
    refine takeH 0 20 #[true, false, false, false, false, false, false, false, false, false] (v := ?_) rfl rfl rfl (by kernel_rfl) (by kernel_rfl) (by kernel_rfl) (fun _ _ _ h => h) (Or.inl ⟨by rfl, ?_⟩) hHeld ?_
    rotate_left
    · (intro w' hSw; (try dsimp only at hSw); go_simp; (try with_reducible rfl))
    simp only [List.set_cons_zero, List.set_cons_succ]
    refine takeH 1 21 #[true, true, false, false, false, false, false, false, false, false] (v := ?_) rfl rfl rfl (by kernel_rfl) (by kernel_rfl) (by kernel_rfl) (fun _ _ _ h => h) (Or.inl ⟨by rfl, ?_⟩) hHeld ?_
    rotate_left
    · (intro w' hSw; (try dsimp only at hSw); go_simp; (try with_reducible rfl))
    simp only [List.set_cons_zero, List.set_cons_succ]
    refine takeH 2 22 #[true, true, true, false, false, false, false, false, false, false] (v := ?_) rfl rfl rfl (by kernel_rfl) (by kernel_rfl) (by kernel_rfl) (fun _ _ _ h => h) (Or.inl ⟨by rfl, ?_⟩) hHeld ?_
    rotate_left
    · (intro w' hSw; (try dsimp only at hSw); go_simp; (try with_reducible rfl))
    simp only [List.set_cons_zero, List.set_cons_succ]
    refine takeH 4 24 #[true, true, true, false, true, false, false, false, false, false] (v := ?_) rfl rfl rfl (by kernel_rfl) (by kernel_rfl) (by kernel_rfl) (fun _ _ _ h => h) (Or.inl ⟨by rfl, ?_⟩) hHeld ?_
    rotate_left
    · (intro w' hSw; (try dsimp only at hSw); go_simp; (try with_reducible rfl))
    simp only [List.set_cons_zero, List.set_cons_succ]
    refine takeH 5 25 #[true, true, true, false, true, true, false, false, false, false] (v := ?_) rfl rfl rfl (by kernel_rfl) (by kernel_rfl) (by kernel_rfl) (fun _ _ _ h => h) (Or.inl ⟨by rfl, ?_⟩) hHeld ?_
    rotate_left
    · (intro w' hSw; (try dsimp only at hSw); go_simp; (try with_reducible rfl))
    simp only [List.set_cons_zero, List.set_cons_succ]
    refine branchH 3 23 #[true, true, true, true, true, true, false, false, false, false] (by kernel_rfl) rfl rfl rfl (by rfl) (fun K hK => ?_)
    go_simp
    refine hK.out _ _ ?_ (fun hHeld' => ?_)
    · (first | exact (Below.refl _ _).drew | exact hB6 | exact ((Below.refl _ w2).drew).alloc (Nat.le_refl _) _ | assumption)
    clear hK K hHeld
    have hHeld := hHeld'
    clear hHeld'
    simp only [List.set_cons_zero, List.set_cons_succ]
    refine branchH 6 26 #[true, true, true, true, true, true, true, false, false, false] (by kernel_rfl) rfl rfl rfl (by rfl) (fun K hK => ?_)
    have hB5 : Below w2.heap.size w2 (w2.drew.alloc (.cells #[] 5)) := ((Below.refl _ w2).drew).alloc (Nat.le_refl _) _
    refine wp_app _ (.tmp 23) (.tmp 25) 22 rfl w2.heap.size 5 i0 (.int .u8 0) 1 1 Try.underlying22 Hi.out hz0 hz1 hz2 rfl (by decide) _ 0 _ rfl (World.ownsRow_made w2.drew #[] 0 (Nat.le_refl _) (by unfold maxLen; omega) rfl) w2.heap.size (some ⟨g, 1, none⟩) (n2 - 1) (c2 - 1) (xs.map bv) rfl (Hfin.out.below hB5) (bv_one _) (by unfold maxLen; omega) (by omega) (by simp) ?_
    intro v6 w6 hown6 hg6 hat6
    obtain ⟨A6, c6, rfl⟩ := own_shape hown6
    rw [Nat.zero_add, List.nil_append] at hown6
    have hB6 : Below w2.heap.size w2 w6 := hB5.grown (row := some w2.heap.size) hg6 (by simp) (fun k hk => by injection hk; omega)
    refine hK.out _ _ ?_ (fun hHeld' => ?_)
    · (first | exact (Below.refl _ _).drew | exact hB6 | exact ((Below.refl _ w2).drew).alloc (Nat.le_refl _) _ | assumption)
    clear hK K hHeld
    have hHeld := hHeld'
    clear hHeld'
    simp only [List.set_cons_zero, List.set_cons_succ]
    refine takeH 7 2 #[true, true, true, true, true, true, true, true, false, false] (v := ?_) rfl rfl rfl (by kernel_rfl) (by kernel_rfl) (by kernel_rfl) (fun _ _ _ h => h) (Or.inl ⟨by rfl, ?_⟩) hHeld ?_
    rotate_left
    · (intro w' hSw; (try dsimp only at hSw); go_simp; (try with_reducible rfl))
    simp only [List.set_cons_zero, List.set_cons_succ]
    refine takeH 8 3 #[true, true, true, true, true, true, true, true, true, false] (v := ?_) rfl rfl rfl (by kernel_rfl) (by kernel_rfl) (by kernel_rfl) (fun _ _ _ h => h) (Or.inl ⟨by rfl, ?_⟩) hHeld ?_
    rotate_left
    · (intro w' hSw; (try dsimp only at hSw); go_simp; (try with_reducible rfl))
    simp only [List.set_cons_zero, List.set_cons_succ]
    refine takeH 9 4 #[true, true, true, true, true, true, true, true, true, true] (v := ?_) rfl rfl rfl (by kernel_rfl) (by kernel_rfl) (by kernel_rfl) (fun _ _ _ h => h) (Or.inl ⟨by rfl, ?_⟩) hHeld ?_
    rotate_left
    · (intro w' hSw; (try dsimp only at hSw); go_simp; (try with_reducible rfl))
    simp only [List.set_cons_zero, List.set_cons_succ]
    refine wpAnyH_done (by kernel_rfl) ?_ _
    refine NoPanic.normal ?_
    go_wp2_with fail
    go_ret3
    unfold GetPost
    rw [← Hx0.out, ← Hxs.out]
    exact ⟨_, _, _, rfl, Rd.of_own hown6, own_cap hown6, own_cap2 hown6, hb2.trans (hB6.mono hb2.size)⟩
theorem rget_far (A : Option Addr) (n c : Nat) (w : World) (l : List Nat) (hl : l.length = n) (hn : n ≤ 9223372036854775807) (h : ¬ (4 ≤ n ∧ n ≤ 256)) :
    Calls Try.prog 11 #[.slice A n c] w (GetPost w (getL l)) := by
  have go : decide ((256 : Int) < (n : Int)) = true ∧ getL l = (0, [], 22) ∨ decide ((256 : Int) < (n : Int)) = false ∧ decide ((n : Int) < 4) = true ∧ getL l = (0, [], 21) := by
    by_cases h2 : 256 < n
    · exact .inl ⟨decide_eq_true (by omega), by rw [getL, if_pos (by omega)]⟩
    · exact .inr ⟨decide_eq_false (by omega), decide_eq_true (by omega), by rw [getL, if_neg (by omega), if_pos (by omega)]⟩
  rcases go with ⟨b1, e⟩ | ⟨b1, b2, e⟩
  all_goals
    rw [e]
    clear e
    go_enter Try.func11, Try.ntmps11
    go_wp2_with fail
    go_ret3
    exact ⟨none, 0, 0, rfl, Rd.nil_ _ _ _ _, Nat.le_refl _, Nat.zero_le _, Below.refl _ _⟩
theorem rget_any (A : Option Addr) (n c B : Nat) (l : List Nat) (w : World) (hr : Rd w B 1 A n (l.map bv)) (hB : B ≤ w.heap.size) (hb : ∀ c ∈ l, c < 256) (hc : n ≤ c) (hn : n ≤ 9223372036854775807) :
    Calls Try.prog 11 #[.slice A n c] w (GetPost w (getL l)) := by
  have hl : l.length = n := by have := hr.1; simpa using this
  by_cases h : 4 ≤ n ∧ n ≤ 256
  · exact rget_mid A n c B l w hr hB hb h.1 h.2 hc
  · exact rget_far A n c w l hl hn h
end Go.Proofs.Ytkajhobgelaigaa
