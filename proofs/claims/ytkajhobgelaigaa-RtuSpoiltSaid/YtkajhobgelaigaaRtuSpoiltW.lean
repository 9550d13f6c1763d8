/- RtuSpoilt, walked. -/
import Derived.Test.YtkajhobgelaigaaRtuPiecesW
import Derived.Test.YtkajhobgelaigaaRtuRef
import Derived.BigRegion
set_option linter.unusedVariables false
set_option linter.unusedSimpArgs false
set_option maxRecDepth 100000
namespace Go.Proofs.Ytkajhobgelaigaa
open Go Go.RowKit CrcMath

theorem pow_q (q : Nat) (h : q < 8) : 2 ^ q < 256 := by
  have : 2 ^ q ≤ 2 ^ 7 := Nat.pow_le_pow_right (by omega) (by omega)
  omega
theorem xor_bit (x q : Nat) (hx : x < 256) (hq : q < 8) : bits .xor .u8 (x : Int) ((2 : Int) ^ q % 256) = ((x ^^^ 2 ^ q : Nat) : Int) := by
  have h := pow_q q hq
  have e : (2 : Int) ^ q % 256 = ((2 ^ q : Nat) : Int) := by
    have : (2 : Int) ^ q = ((2 ^ q : Nat) : Int) := by simp
    rw [this]
    generalize 2 ^ q = m at *
    exact Int.emod_eq_of_lt (by omega) (by omega)
  rw [e]
  exact u8_xor_nat x (2 ^ q) hx h
theorem modify_set (sl : List Nat) (p x0 y : Nat) (h0 : sl[p]? = some x0) : sl.modify p (· ^^^ y) = sl.set p (x0 ^^^ y) := by
  have hl0 := (List.getElem?_eq_some_iff.1 h0).1
  apply List.ext_getElem?
  intro i
  rw [List.getElem?_modify, List.getElem?_set]
  by_cases e0 : p = i
  · subst e0
    simp only [List.getElem?_eq_getElem hl0, Option.some.injEq] at h0
    simp [h0, hl0]
  · simp [e0]
theorem get_err (x : List Nat) (h : x.length ≤ 256) : ∃ gu gp ge, getL x = (gu, gp, ge) ∧ (((ge : Int) != 0) = (decide ((x.length : Int) < 4) || !opens x)) := by
  unfold getL
  rw [if_neg (by omega)]
  by_cases h4 : x.length < 4
  · rw [if_pos h4]
    exact ⟨_, _, _, rfl, by rw [decide_eq_true (by omega)]; rfl⟩
  · rw [if_neg h4, decide_eq_false (by omega)]
    rcases opens x with _ | _
    · exact ⟨_, _, _, rfl, rfl⟩
    · exact ⟨_, _, _, rfl, rfl⟩

set_option maxHeartbeats 4000000 in
theorem spoilt_cut (u : Nat) (A : Option Addr) (n c : Nat) (b : List Nat) (at1 : Nat) (w : World) (hu : u < 256) (hr : Rd w w.heap.size 1 A n (b.map bv)) (hb : ∀ c ∈ b, c < 256) (hn : 1 ≤ n ∧ n ≤ 253) (ha : at1 < 65536) :
    Calls Try.prog 7 #[.int .u8 u, .slice A n c, .int .u16 at1, .bool true] w fun e w' => e = .returned (.bool true) ∧ Below w.heap.size w w' := by
  have hu' : 0 ≤ (u : Int) ∧ (u : Int) < 256 := by omega
  have hl : b.length = n := by have := hr.1; simpa using this
  obtain ⟨f1, f2, f3⟩ := get_put u b (by omega) (by omega) hu hb
  have fb := mem_seal (u :: b) (fun c hc => by
    rcases List.mem_cons.1 hc with rfl | hc
    · exact hu
    · exact hb c hc)
  obtain ⟨f, hf⟩ : ∃ f, f = seal_ (u :: b) := ⟨_, rfl⟩
  rw [← hf] at f1 f3 fb
  rw [hl] at f3
  obtain ⟨m, hm⟩ : ∃ m, m = at1 % (n + 3) := ⟨_, rfl⟩
  have hml : m < n + 3 := by rw [hm]; exact Nat.mod_lt _ (by omega)
  have hm' : (at1 : Int) % ((n : Int) + 3) = (m : Int) := by rw [hm, show (n : Int) + 3 = ((n + 3 : Nat) : Int) by omega]; simp
  obtain ⟨gu, gp, ge, hg, hge⟩ := get_err (f.take m) (by rw [List.length_take]; omega)
  have hxl : (f.take m).length = m := by rw [List.length_take]; omega
  rw [hxl] at hge
  have xb : ∀ c ∈ f.take m, c < 256 := fun c hc => fb c (List.mem_of_mem_take hc)
  have F1 := Lib.hid f1
  have F3 := Lib.hid f3
  have HU' := Lib.hid hu'
  have HG := Lib.hid hg
  have HX := Lib.hid hxl
  have b1 : (n : Int) ≤ 253 := by omega
  have b2 : decide ((253 : Int) < (n : Int)) = false := decide_eq_false (by omega)
  have b3 : ((n : Int) + 3 == 0) = false := by rw [beq_eq_false_iff_ne]; omega
  have m1 : (0 : Int) ≤ (m : Int) := by omega
  have m2 : m ≤ n + 3 := by omega
  have m3 : (m : Int) ≤ (n : Int) + 3 := by omega
  obtain ⟨op, hop⟩ : ∃ op, op = opens (f.take m) := ⟨_, rfl⟩
  rw [← hop] at hge
  have HO := Lib.hid hop
  have HGE := Lib.hid hge
  clear f1 f2 f3 hf hl hu' hm hg hxl hop hge
  go_enter Try.func7, Try.ntmps7
  go_wp2_with (first
    | (go_at_call 9; (with_reducible refine (head_any _).mono ?_); rintro e w1 ⟨rfl, hb1⟩
       have hr1 := (hr.below hb1).more hb1.size)
    | (go_at_call 12; (with_reducible refine (put_any u A n c _ b _ hr1 (Nat.le_refl _) hb HU'.out (by omega)).mono ?_)
       rintro e w2 ⟨A2, n2, c2, rfl, hown2, hb2⟩
       rw [Int.toNat_natCast, F1.out] at hown2
       obtain rfl : n2 = n + 3 := by have := own_len hown2; rw [List.length_map, F3.out] at this; exact this
       have hc2 := own_cap hown2
       have hc3 : m ≤ c2 := by omega
       have hr2 := (Rd.of_own hown2).take_ (k := m) m2
       rw [Nat.mul_one, ← List.map_take] at hr2
       have hbw2 := hb1.trans (hb2.mono hb1.size)
       clear hown2 hb1 hb2 hr1)
    | (go_at_call 10; (with_reducible refine (get_any A2 m c2 _ (f.take m) w2 hr2 (Nat.le_refl _) xb hc3 (by omega)).mono ?_)
       rintro e w3 ⟨A3, n3, c3, he, hr3, _, _, hb3⟩
       rw [HG.out] at he
       subst he
       have hr23 := (hr2.below hb3).more hb3.size
       have hbw3 := hbw2.trans (hb3.mono hbw2.size)
       clear hb3 hr2 hbw2 hr3)
    | (go_at_call 23; (with_reducible refine (ropen_any A2 m c2 _ (f.take m) w3 hr23 (Nat.le_refl _) xb (by omega) hc3).mono ?_)
       rintro e w4 ⟨A4, n4, c4, he, hown4, hb4⟩
       rw [← HO.out] at he
       subst he
       have hbw4 := hbw3.trans (hb4.mono hbw3.size)
       clear hown4 hb4 hr23 hbw3))
  all_goals
    go_ret
    refine ⟨ret_bool ?_, hbw4⟩
    have := HGE.out
    first
      | (rw [this]; simp; done)
      | (rw [this]; simp_all; done)
      | (simp_all; done)
set_option maxHeartbeats 4000000 in
theorem spoilt_flip (u : Nat) (A : Option Addr) (n c : Nat) (b : List Nat) (at1 : Nat) (w : World) (hu : u < 256) (hr : Rd w w.heap.size 1 A n (b.map bv)) (hb : ∀ c ∈ b, c < 256) (hn : 1 ≤ n ∧ n ≤ 253) (ha : at1 < 65536) :
    Calls Try.prog 7 #[.int .u8 u, .slice A n c, .int .u16 at1, .bool false] w fun e w' => e = .returned (.bool true) ∧ Below w.heap.size w w' := by
  have hu' : 0 ≤ (u : Int) ∧ (u : Int) < 256 := by omega
  have hl : b.length = n := by have := hr.1; simpa using this
  obtain ⟨f1, f2, f3⟩ := get_put u b (by omega) (by omega) hu hb
  have hub : ∀ c ∈ u :: b, c < 256 := fun c hc => by
    rcases List.mem_cons.1 hc with rfl | hc
    · exact hu
    · exact hb c hc
  have fb := mem_seal (u :: b) hub
  have fs := sum_seal (u :: b) hub
  obtain ⟨sl, hsl⟩ : ∃ f, f = seal_ (u :: b) := ⟨_, rfl⟩
  rw [← hsl] at f1 f3 fb fs
  rw [hl] at f3
  obtain ⟨k, hk⟩ : ∃ k, k = at1 % (8 * (n + 3)) := ⟨_, rfl⟩
  have hkl : k < 8 * (n + 3) := by rw [hk]; exact Nat.mod_lt _ (by omega)
  have hk' : (at1 : Int) % (8 * ((n : Int) + 3)) = (k : Int) := by rw [hk, show 8 * ((n : Int) + 3) = ((8 * (n + 3) : Nat) : Int) by omega]; simp
  have F1 := Lib.hid f1
  have F3 := Lib.hid f3
  have FS := Lib.hid fs
  have HU' := Lib.hid hu'
  have hslb := fb
  have hn1 : (1 : Int) ≤ (n : Int) := by omega
  have b1 : (n : Int) ≤ 253 := by omega
  have b2 : decide ((253 : Int) < (n : Int)) = false := decide_eq_false (by omega)
  have b3 : ((n : Int) + 3 == 0) = false := by rw [beq_eq_false_iff_ne]; omega
  obtain ⟨i0, hi, hz0, hz1, hz2⟩ := info_parts info_u8
  clear f1 f2 f3 hsl hl hu' hk fs hub fb
  go_enter Try.func7, Try.ntmps7
  go_wp2_with (first
    | (go_at_call 9; (with_reducible refine (head_any _).mono ?_); rintro e w1 ⟨rfl, hb1⟩
       have hr1 := (hr.below hb1).more hb1.size)
    | (go_at_call 12; (with_reducible refine (put_any u A n c _ b _ hr1 (Nat.le_refl _) hb HU'.out (by omega)).mono ?_)
       rintro e w2 ⟨A1, n2, c1, rfl, hown2, hb2⟩
       rw [Int.toNat_natCast, F1.out] at hown2
       obtain rfl : n2 = n + 3 := by have := own_len hown2; rw [List.length_map, F3.out] at this; exact this
       have hr2 := Rd.of_own hown2
       have hbw2 := hb1.trans (hb2.mono hb1.size)
       have hsz2 := hbw2.size
       clear hown2 hb1 hb2 hr1)
    | (at_builtin
       (with_reducible refine wpList_app _ rfl (.tmp 67) (.tmp 68) 22 rfl w.heap.size 5 i0 (.int .u8 0) 1 1 Try.underlying22 hi hz0 hz1 hz2 rfl ?g0 _ 0 [] rfl (World.ownsRow_made w2 #[] 0 hsz2 ?gm rfl) w2.heap.size A1 (n + 3) c1 (sl.map bv) rfl ?gr (bv_one sl) ?g2 ?g3 ?g4 ?_)))
  case g0 => omega
  case gm => unfold maxLen; omega
  case gr => exact hr2.alloc (Nat.le_refl _) _
  case g2 => unfold maxLen; omega
  case g3 => omega
  case g4 => simp; omega
  intro v4 w4 hown4 hg4 hat4
  have hbw4 : Below w.heap.size w w4 := (hbw2.alloc hsz2 _).grown hg4 (by simp; omega) (by intro q hq; simp [Value.ownBlock] at hq; omega)
  obtain ⟨A4, c4, rfl⟩ := own_shape hown4
  have hown4' : w4.ownsRow w.heap.size 5 1 (.slice A4 (n + 3) c4) (n + 3) (sl.map bv) := by simpa using hown4
  obtain ⟨hcap4, g, rfl, hgb, hgl, hcell, hfr⟩ := own_some hown4' (by omega)
  have hsll : sl.length = n + 3 := F3.out
  obtain ⟨p, hp⟩ : ∃ p, p = k / 8 := ⟨_, rfl⟩
  obtain ⟨q, hq⟩ : ∃ q, q = k % 8 := ⟨_, rfl⟩
  have hp2 : p < n + 3 := by omega
  have hq2 : q < 8 := by omega
  have e1 : (k : Int) / 8 = (p : Int) := by omega
  have e2 : (k : Int) % 8 = (q : Int) := by omega
  have e1t : (k : Int).tdiv 8 = (p : Int) := by rw [Int.tdiv_eq_ediv_of_nonneg (by omega)]; exact e1
  have e2t : (k : Int).tmod 8 = (q : Int) := by rw [Int.tmod_eq_emod_of_nonneg (by omega)]; exact e2
  have e3 : IntKind.i64.wrap (p : Int) = (p : Int) := IntWalk.i64_in _ (by omega)
  have e4 : IntKind.i64.wrap (q : Int) = (q : Int) := IntWalk.i64_in _ (by omega)
  obtain ⟨x0, hx0⟩ : ∃ x0, sl[p]? = some x0 := ⟨_, List.getElem?_eq_getElem (by omega)⟩
  have hx0b : x0 < 256 := hslb _ (List.mem_of_getElem? hx0)
  have hq256 : 2 ^ q < 256 := pow_q q hq2
  have hck : w4.cell? ⟨g, p, none⟩ = some (.int .u8 (x0 : Int)) := hcell p (bv x0) (by rw [List.getElem?_map, hx0]; rfl)
  have hfk := hfr p
  obtain ⟨y0, hy0⟩ : ∃ y, y = x0 ^^^ 2 ^ q := ⟨_, rfl⟩
  have hy0b : y0 < 256 := by rw [hy0]; exact Nat.xor_lt_two_pow (n := 8) hx0b hq256
  have f0 : bits .xor .u8 (x0 : Int) ((2 : Int) ^ q % 256) = (y0 : Int) := by rw [hy0]; exact xor_bit x0 q hx0b hq2
  obtain ⟨tl, htl⟩ : ∃ tl, tl = sl.set p y0 := ⟨_, rfl⟩
  have hown6 : ((w4.setCell ⟨g, p, none⟩ (.int .u8 (y0 : Int)))).ownsRow w.heap.size 5 1 (.slice (some ⟨g, 0, none⟩) (n + 3) c4) (n + 3) (tl.map bv) := by
    have := own_stored hown4' p (.int .u8 (y0 : Int))
    rw [htl, List.map_set]
    exact this
  have hr6 : Rd ((w4.setCell ⟨g, p, none⟩ (.int .u8 (y0 : Int)))).drew _ 1 (some ⟨g, 0, none⟩) (n + 3) (tl.map bv) := Rd.of_own hown6
  have htlb : ∀ c ∈ tl, c < 256 := by
    intro c hc
    rw [htl] at hc
    rcases List.mem_or_eq_of_mem_set hc with hc | rfl
    · exact hslb c hc
    · exact hy0b
  have hget : getL tl = (0, [], 23) := by
    have hne := burst_one sl p (2 ^ q) (by omega) (by omega) hslb hq256 (Nat.pos_iff_ne_zero.1 (Nat.pow_pos (by omega))) FS.out
    rw [modify_set sl p x0 _ hx0, ← hy0, ← htl] at hne
    have htl2 : tl.length = n + 3 := by rw [htl]; simp [hsll]
    have h3 := opens_iff tl htlb (by omega)
    have ho : opens tl = false := by
      rcases hh : opens tl with _ | _
      · rfl
      · exact absurd (h3.1 hh) hne
    rw [getL, if_neg (by omega), if_neg (by omega), ho]; rfl
  have Hget := Lib.hid hget
  have hbw6 : Below w.heap.size w ((w4.setCell ⟨g, p, none⟩ (.int .u8 (y0 : Int)))).drew := (hbw4.setCell (p := ⟨g, p, none⟩) hgb _).drew
  clear hget htl hy0 hcell hfr hown6 hown4 hown4' hg4 hat4 hr2 hbw2 hsz2 hx0 hp hq hsll
  go_wp2_with fail
  go_region
  go_wp2_with (first
    | (go_at_call 10; (with_reducible refine (get_any _ (n + 3) c4 _ tl _ hr6 (Nat.le_refl _) htlb hcap4 (by omega)).mono ?_)
       rintro e w7 ⟨A7, n7, c7, he, hr7, _, _, hb7⟩
       rw [Hget.out] at he
       subst he))
  go_ret
  exact ⟨ret_bool (by simp), hbw6.trans (hb7.mono hbw6.size)⟩
theorem spoilt_none (u : Nat) (A : Option Addr) (n c : Nat) (b : List Nat) (at1 : Int) (cut : Bool) (w : World) (hu : u < 256) (hr : Rd w w.heap.size 1 A n (b.map bv)) (hb : ∀ c ∈ b, c < 256) (hn : ¬ (1 ≤ n ∧ n ≤ 253)) (hm : n ≤ 9223372036854775807) :
    Calls Try.prog 7 #[.int .u8 u, .slice A n c, .int .u16 at1, .bool cut] w fun e w' => e = .returned (.bool true) ∧ Below w.heap.size w w' := by
  have hu' : 0 ≤ (u : Int) ∧ (u : Int) < 256 := by omega
  have HU' := Lib.hid hu'
  have hl : b.length = n := by have := hr.1; simpa using this
  have hp : putL u b = [] := by rw [putL, if_neg (by omega)]
  have HP := Lib.hid hp
  have go : decide ((253 : Int) < (n : Int)) = true ∨ decide ((253 : Int) < (n : Int)) = false := by cases decide ((253 : Int) < (n : Int)) <;> simp
  clear hu' hl hp hn
  rcases go with b1 | b1
  all_goals
    go_enter Try.func7, Try.ntmps7
    go_wp2_with (first
      | (go_at_call 9; (with_reducible refine (head_any _).mono ?_); rintro e w1 ⟨rfl, hb1⟩
         have hr1 := (hr.below hb1).more hb1.size)
      | (go_at_call 12; (with_reducible refine (put_any u A n c _ b _ hr1 (Nat.le_refl _) hb HU'.out hm).mono ?_)
         rintro e w2 ⟨A1, n2, c1, rfl, hown2, hb2⟩
         rw [Int.toNat_natCast, HP.out] at hown2
         obtain rfl : n2 = 0 := by have := own_len hown2; exact this
         have hbw2 := hb1.trans (hb2.mono hb1.size)))
    go_ret
    exact ⟨ret_bool (by simp), hbw2⟩
theorem spoilt_walk (u : Int) (A : Option Addr) (n c : Nat) (b : List Nat) (at1 : Int) (cut : Bool) (w : World) (hu : (Lit.int .u8 u).wf = true) (hr : Rd w w.heap.size 1 A n (b.map bv)) (hb : ∀ c ∈ b, c < 256) (hc : n ≤ c) (hm : c ≤ maxLen) (ha : (Lit.int .u16 at1).wf = true) :
    Calls Try.prog 7 #[.int .u8 u, .slice A n c, .int .u16 at1, .bool cut] w fun e w' => e = .returned (.bool true) ∧ Below w.heap.size w w' := by
  obtain ⟨p1, p2⟩ := wf_u8_lt hu
  obtain ⟨q1, q2⟩ := wf_u16_lt ha
  obtain ⟨k, rfl⟩ : ∃ k : Nat, u = (k : Int) := ⟨u.toNat, by omega⟩
  obtain ⟨a, rfl⟩ : ∃ a : Nat, at1 = (a : Int) := ⟨at1.toNat, by omega⟩
  unfold maxLen at hm
  by_cases hn : 1 ≤ n ∧ n ≤ 253
  · cases cut
    · exact spoilt_flip k A n c b a w (by omega) hr hb hn (by omega)
    · exact spoilt_cut k A n c b a w (by omega) hr hb hn (by omega)
  · exact spoilt_none k A n c b a cut w (by omega) hr hb hn (by omega)
end Go.Proofs.Ytkajhobgelaigaa
