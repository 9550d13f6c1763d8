/- The live question ahead of each statement on frames is answered as it says. -/
import Derived.Test.YtkajhobgelaigaaEar
set_option linter.unusedVariables false
set_option linter.unusedSimpArgs false
set_option maxRecDepth 100000
namespace Go.Proofs.Ytkajhobgelaigaa
open Go Go.RowKit CrcMath

def p5 : List Nat := [3, 0, 0, 0, 1]
def f8 : List Nat := [1, 3, 0, 0, 0, 1, 132, 10]
def z257 : List Nat := List.replicate 257 0
theorem hk1 : putL 1 p5 = f8 := by decide +kernel
theorem hk2 : getL f8 = (1, p5, 0) := by decide +kernel
theorem hk3 : getL [1, 2, 3] = (0, [], 21) := by decide +kernel
theorem hk4 : getL [1, 2, 3, 4] = (0, [], 23) := by decide +kernel
theorem hk5 : getL z257 = (0, [], 22) := by rw [getL, if_pos (by simp [z257])]
theorem hk6 : silL ([] ++ f8) = (1, p5, 0, true) := by
  show silL f8 = _
  rw [silL, if_neg (by decide), hk2]
theorem hk7 : silL [] = (0, [], 0, false) := rfl
theorem f8_lt : ∀ c ∈ f8, c < 256 := by decide
theorem p5_lt : ∀ c ∈ p5, c < 256 := by decide
theorem z257_lt : ∀ c ∈ z257, c < 256 := by
  intro c hc
  have := (List.mem_replicate.1 hc).2
  omega
theorem rd_p5 (w : World) (e : TypeId) (fr : Nat × Nat) : Rd (w.alloc (.cells #[.int .u8 3, .int .u8 0, .int .u8 0, .int .u8 0, .int .u8 1] e fr)) (w.alloc (.cells #[.int .u8 3, .int .u8 0, .int .u8 0, .int .u8 0, .int .u8 1] e fr)).heap.size 1 (some ⟨w.heap.size, 0, none⟩) 5 (p5.map bv) := by
  rw [World.size_alloc]
  exact rd_new w (p5.map bv) e 5 5 rfl fr
theorem rd_3 (w : World) (e : TypeId) (fr : Nat × Nat) : Rd (w.alloc (.cells #[.int .u8 1, .int .u8 2, .int .u8 3] e fr)) (w.alloc (.cells #[.int .u8 1, .int .u8 2, .int .u8 3] e fr)).heap.size 1 (some ⟨w.heap.size, 0, none⟩) 3 (([1, 2, 3] : List Nat).map bv) := by
  rw [World.size_alloc]
  exact rd_new w (([1, 2, 3] : List Nat).map bv) e 3 3 rfl fr
theorem rd_4 (w : World) (e : TypeId) (fr : Nat × Nat) : Rd (w.alloc (.cells #[.int .u8 1, .int .u8 2, .int .u8 3, .int .u8 4] e fr)) (w.alloc (.cells #[.int .u8 1, .int .u8 2, .int .u8 3, .int .u8 4] e fr)).heap.size 1 (some ⟨w.heap.size, 0, none⟩) 4 (([1, 2, 3, 4] : List Nat).map bv) := by
  rw [World.size_alloc]
  exact rd_new w (([1, 2, 3, 4] : List Nat).map bv) e 4 4 rfl fr

set_option maxHeartbeats 2000000 in
theorem head_any (w : World) :
    Calls Try.prog 9 #[] w fun e w' => e = .returned (.bool true) ∧ Below w.heap.size w w' := by
  obtain ⟨U, hUd⟩ : ∃ U : Nat → Prop, U = fun k => k < w.heap.size := ⟨_, rfl⟩
  have HU : Hid (∀ k, U k → k < w.heap.size) := fun k hk => by rw [hUd] at hk; exact hk
  have HU' : Hid (∀ k, k < w.heap.size → U k) := fun k hk => by rw [hUd]; exact hk
  clear hUd
  obtain ⟨i0, hi, hz0, hz1, hz2⟩ := info_parts info_u8
  go_enter Try.func9, Try.ntmps9
  go_wp2_with (first
    | (go_at_call 12; (with_reducible refine (put_any 1 _ 5 5 _ p5 _ (rd_p5 w _ _) (Nat.le_refl _) p5_lt (by decide) (by decide)).mono ?_)
       rintro e w1 ⟨A1, n1, c1, rfl, hown1, hb1⟩
       rw [show (1 : Int).toNat = 1 from rfl, hk1] at hown1
       obtain rfl : n1 = 8 := by have := own_len hown1; simpa [f8] using this
       have hb1' : Below w.heap.size w w1 := ((Below.refl _ w).alloc (Nat.le_refl _) _).trans (hb1.mono (by rw [World.size_alloc]; omega))
       have hr1 := Rd.of_own hown1
       have hc1 := own_cap hown1
       obtain ⟨_, g1, rfl, _, hg1, hcell1, _⟩ := own_some hown1 (by decide)
       have cc6 := hcell1 6 (.int .u8 132) rfl
       have cc7 := hcell1 7 (.int .u8 10) rfl
       clear hb1 hown1 hcell1)
    | (go_at_call 10; (with_reducible refine (get_any (some ⟨g1, 0, none⟩) 8 c1 _ f8 w1 hr1 (Nat.le_refl _) f8_lt hc1 (by decide)).mono ?_)
       rintro e w2 ⟨A2, n2, c2, he, hr2, _, _, hb2⟩
       rw [hk2] at he hr2
       obtain rfl : n2 = 5 := by have := hr2.1; simpa [p5] using this.symm
       subst he
       obtain ⟨g2, o2, rfl, _, hcell2⟩ := hr2.2 (by decide)
       have cp : w2.cell? ⟨g2, o2, none⟩ = some (.int .u8 3) := hcell2 0 (.int .u8 3) rfl
       have hlt2 := World.block_lt_of_cell? _ _ cp
       clear hr2 hcell2)
    | (go_at_call 10; (with_reducible refine (get_any _ 3 3 _ [1, 2, 3] _ (rd_3 w2 _ _) (Nat.le_refl _) (by decide) (by decide) (by decide)).mono ?_)
       rintro e w3 ⟨A3, n3, c3, he, _, _, _, hb3⟩
       rw [hk3] at he
       subst he
       have hb23 : Below w2.heap.size w2 w3 := ((Below.refl _ w2).alloc (Nat.le_refl _) _).trans (hb3.mono (by rw [World.size_alloc]; omega))
       clear hb3)
    | (go_at_call 10; (with_reducible refine (get_any _ 4 4 _ [1, 2, 3, 4] _ (rd_4 w3 _ _) (Nat.le_refl _) (by decide) (by decide) (by decide)).mono ?_)
       rintro e w4 ⟨A4, n4, c4, he, _, _, _, hb4⟩
       rw [hk4] at he
       subst he
       have hb34 : Below w3.heap.size w3 w4 := ((Below.refl _ w3).alloc (Nat.le_refl _) _).trans (hb4.mono (by rw [World.size_alloc]; omega))
       clear hb4)
    | (with_reducible refine wpList_mk _ rfl (.const (.int .i64 257)) (.const (.int .i64 257)) 22 rfl w4.heap.size 5 i0 (.int .u8 0) Try.underlying22 hi hz0 hz1 rfl .i64 .i64 _ _ 257 257 rfl rfl rfl rfl (Nat.le_refl _) ?e3 ?e4 (Nat.le_refl _) ?_)
    | fail)
  case e3 => rw [hz2]; omega
  case e4 => unfold maxLen; omega
  intro w5 hown5 hg5
  obtain ⟨Z, hZe, hown5⟩ : ∃ Z : List Nat, Z = z257 ∧ w5.ownsRow w4.heap.size 5 1 (.slice (some ⟨w4.heap.size, 0, none⟩) 257 257) 257 (Z.map bv) := ⟨_, rfl, by rw [z257, List.map_replicate]; exact hown5⟩
  have hb45 : Below w4.heap.size w4 w5 := (Below.refl _ _).grown hg5 (Nat.le_refl _) (by simp)
  have hr5 := Rd.of_own hown5
  have HZ := Lib.hid hZe
  clear hown5 hg5 hZe
  have s12 := hb2.size
  have s23 := hb23.size
  have s34 := hb34.size
  have s45 := hb45.size
  have hb25 : Below w2.heap.size w2 w5 := (hb23.trans (hb34.mono s23)).trans (hb45.mono (Nat.le_trans s23 s34))
  have cp5 := (hb25.cell (p := ⟨g2, o2, none⟩) hlt2).trans cp
  have hb15 : Below w1.heap.size w1 w5 := hb2.trans (hb25.mono s12)
  have c65 := (hb15.cell (p := ⟨g1, 6, none⟩) hg1).trans cc6
  have c75 := (hb15.cell (p := ⟨g1, 7, none⟩) hg1).trans cc7
  have hr15 := (hr1.below hb15).more hb15.size
  have hbw5 := hb1'.trans (hb15.mono hb1'.size)
  have s15 := hb15.size
  clear cp cc6 cc7 hr1 hb23 hb34 hb45 hb2
  go_wp2_with (first
    | (go_at_call 10; (with_reducible refine (get_any _ 257 257 _ Z w5 hr5 (Nat.le_refl _) (by rw [HZ.out]; exact z257_lt) (by decide) (by decide)).mono ?_)
       rintro e w6 ⟨A6, n6, c6, he, _, _, _, hb6⟩
       rw [HZ.out, hk5] at he
       subst he
       obtain ⟨V, hVd⟩ : ∃ V : Nat → Prop, V = fun k => k < w6.heap.size := ⟨_, rfl⟩
       have HV : Hid (∀ k, V k → k < w6.heap.size) := fun k hk => by rw [hVd] at hk; exact hk
       have HV' : Hid (∀ k, k < w6.heap.size → V k) := fun k hk => by rw [hVd]; exact hk
       have hbw6 := hbw5.trans (hb6.mono hbw5.size)
       have hr6 := (hr15.below hb6).more hb6.size
       have c66 := (hb6.cell (p := ⟨g1, 6, none⟩) (Nat.lt_of_lt_of_le hg1 s15)).trans c65
       have c76 := (hb6.cell (p := ⟨g1, 7, none⟩) (Nat.lt_of_lt_of_le hg1 s15)).trans c75
       have cp6 := (hb6.cell (p := ⟨g2, o2, none⟩) (Nat.lt_of_lt_of_le hlt2 hb25.size)).trans cp5
       have hg6 : g1 < w6.heap.size := Nat.lt_of_lt_of_le hg1 (Nat.le_trans s15 hb6.size)
       have hg26 : g2 < w6.heap.size := Nat.lt_of_lt_of_le hlt2 (Nat.le_trans hb25.size hb6.size)
       clear hVd c65 c75 cp5 hr15 hb6 hbw5)
    | (go_at_call 14; (with_reducible refine (enew_any V w6 HV.out).mono ?_)
       rintro e w7 ⟨rfl, hE7, hb7⟩
       have hr7 := (hr6.below hb7).more hb7.size)
    | (go_at_call 19; (with_reducible refine (hear_any V _ _ _ _ _ _ _ hE7 hr7 f8_lt (by decide)).mono ?_)
       rintro e w8 ⟨rfl, hE8, hK8⟩
       have hb8 := hb7.trans (hK8.below HV'.out)
       clear hE7 hr7 hK8 hb7)
    | (go_at_call 21; (with_reducible refine (emany_any V _ _ _ hE8).mono ?_)
       rintro e w8 ⟨rfl, rfl⟩
       rw [show min (([] : List Nat) ++ f8).length 257 = 8 from rfl])
    | (go_at_call 17; (with_reducible refine (sil_any V _ _ _ hE8).mono ?_)
       rintro e w9 ⟨A9, n9, c9, he, hr9, hE9, hK9⟩
       rw [hk6] at he
       subst he
       have hb9 := hb8.trans (hK9.below HV'.out)
       clear hr9 hK9 hE8 hb8)
    | (go_at_call 17; (with_reducible refine (sil_any V _ _ _ hE9).mono ?_)
       rintro e wa ⟨Aa, na, ca, he, hra, hEa, hKa⟩
       rw [hk7] at he
       subst he
       have hba := hb9.trans (hKa.below HV'.out)
       have c6a := (hba.cell (p := ⟨g1, 6, none⟩) hg6).trans c66
       have c7a := (hba.cell (p := ⟨g1, 7, none⟩) hg6).trans c76
       have cpa := (hba.cell (p := ⟨g2, o2, none⟩) hg26).trans cp6
       have hfin := hbw6.trans (hba.mono hbw6.size)
       clear hra hKa hE9 hb9 c66 c76 cp6)
    | fail)
  go_ret
  exact ⟨ret_bool (by simp), hfin⟩
end Go.Proofs.Ytkajhobgelaigaa
