/- CrcBits, walked: with one bit turned, or two that stand together, what is sealed is none. -/
import Derived.Test.YtdbibnojeefbpaaCrcBytesW
import Derived.BigRegion
set_option linter.unusedVariables false
set_option linter.unusedSimpArgs false
set_option maxRecDepth 100000
namespace Go.Proofs.Ytdbibnojeefbpaa
open Go Go.RowKit CrcMath

theorem pow_q (q : Nat) (h : q < 8) : 2 ^ q < 256 := by
  have : 2 ^ q ≤ 2 ^ 7 := Nat.pow_le_pow_right (by omega) (by omega)
  omega
theorem xor_bit (x q : Nat) (hx : x < 256) (hq : q < 8) : bits .xor .u8 (x : Int) ((2 : Int) ^ q % 256) = ((x ^^^ 2 ^ q : Nat) : Int) := by
  have h := pow_q q hq
  have e : (2 : Int) ^ q % 256 = ((2 ^ q : Nat) : Int) := by
    have : (2 : Int) ^ q = ((2 ^ q : Nat) : Int) := by simp
    rw [this]
    generalize 2 ^ q = m at *
    exact Int.emod_eq_of_lt (by omega) (by omega)
  rw [e]
  exact u8_xor_nat x (2 ^ q) hx h
theorem modify_set (sl : List Nat) (p x0 y : Nat) (h0 : sl[p]? = some x0) : sl.modify p (· ^^^ y) = sl.set p (x0 ^^^ y) := by
  have hl0 := (List.getElem?_eq_some_iff.1 h0).1
  apply List.ext_getElem?
  intro i
  rw [List.getElem?_modify, List.getElem?_set]
  by_cases e0 : p = i
  · subst e0
    simp only [List.getElem?_eq_getElem hl0, Option.some.injEq] at h0
    simp [h0, hl0]
  · simp [e0]

set_option maxHeartbeats 2000000 in
theorem bits_great (A : Option Addr) (n c : Nat) (at1 : Int) (two : Bool) (w : World) (hn : 4000 < n) (hn2 : n ≤ 9223372036854775807) :
    Calls Try.prog 5 #[.slice A n c, .int .u16 at1, .bool two] w fun e w' => e = .returned (.bool true) ∧ Below w.heap.size w w' := by
  have h0 : (4000 : Int) < (n : Int) := by omega
  go_enter Try.func5, Try.ntmps5
  go_wp2_with (go_at_call 9; (with_reducible refine (head_any _).mono ?_); rintro e w1 ⟨rfl, hb1⟩)
  go_ret
  exact ⟨rfl, hb1⟩

set_option maxHeartbeats 4000000 in
theorem bits_one (A : Option Addr) (n c at1 : Nat) (l : List Nat) (w : World) (hr : Rd w w.heap.size 1 A n (l.map bv)) (hb : ∀ c ∈ l, c < 256) (hc : n ≤ c) (hn : n ≤ 4000)
    (ha : at1 < 65536) :
    Calls Try.prog 5 #[.slice A n c, .int .u16 at1, .bool false] w fun e w' => e = .returned (.bool true) ∧ Below w.heap.size w w' := by
  have hl : l.length = n := by have := hr.1; simpa using this
  have h0 : ¬ (4000 : Int) < (n : Int) := by omega
  obtain ⟨i0, hi, hz0, hz1, hz2⟩ := info_parts info_u8
  obtain ⟨sl, hsl⟩ : ∃ sl, sl = seal_ l := ⟨_, rfl⟩
  have hsll : sl.length = n + 2 := by rw [hsl]; simp [seal_, hl]
  have hslb : ∀ c ∈ sl, c < 256 := by rw [hsl]; exact mem_seal l hb
  have Hsl := Lib.hid hsl
  clear hsl
  obtain ⟨k, hk⟩ : ∃ k, k = at1 % (8 * n + 15) := ⟨_, rfl⟩
  have hkl : k < 8 * n + 15 := by rw [hk]; exact Nat.mod_lt _ (by omega)
  have hk' : (at1 : Int) % (8 * ((n : Int) + 2) - 1) = (k : Int) := by rw [hk, show 8 * ((n : Int) + 2) - 1 = ((8 * n + 15 : Nat) : Int) by omega]; simp
  clear hk
  go_enter Try.func5, Try.ntmps5
  go_wp2_with (first
    | (go_at_call 9; (with_reducible refine (head_any _).mono ?_)
       rintro e w1 ⟨rfl, hb1⟩
       have hr1 := hr.below hb1
       have hsz1 := hb1.size)
    | (go_at_call 14; (with_reducible refine (seal_any A n c _ l _ hr1 hsz1 hb (by omega)).mono ?_)
       rintro e w2 ⟨A1, c1, rfl, hown2, hb2⟩
       rw [← Hsl.out] at hown2
       have hr2 : Rd w2 w2.heap.size 1 A1 (n + 2) (sl.map bv) := Rd.of_own hown2
       have hbw2 := hb1.trans (hb2.mono hsz1)
       have hsz2 := hbw2.size
       clear hown2 hb1 hb2 hr1 hsz1)
    | (at_builtin
       (with_reducible refine wpList_app _ rfl (.tmp 30) (.tmp 31) 22 rfl w.heap.size 5 i0 (.int .u8 0) 1 1 Try.underlying22 hi hz0 hz1 hz2 rfl ?g0 _ 0 [] rfl (World.ownsRow_made w2 #[] 0 hsz2 ?gm rfl) w2.heap.size A1 (n + 2) c1 (sl.map bv) rfl ?gr (bv_one sl) ?g2 ?g3 ?g4 ?_)))
  case g0 => omega
  case gm => unfold maxLen; omega
  case gr => exact hr2.alloc (Nat.le_refl _) _
  case g2 => unfold maxLen; omega
  case g3 => omega
  case g4 => simp; omega
  intro v4 w4 hown4 hg4 hat4
  have hbw4 : Below w.heap.size w w4 := (hbw2.alloc hsz2 _).grown hg4 (by simp; omega) (by intro q hq; simp [Value.ownBlock] at hq; omega)
  obtain ⟨A4, c4, rfl⟩ := own_shape hown4
  have hown4' : w4.ownsRow w.heap.size 5 1 (.slice A4 (n + 2) c4) (n + 2) (sl.map bv) := by simpa using hown4
  obtain ⟨hcap4, g, rfl, hgb, hgl, hcell, hfr⟩ := own_some hown4' (by omega)
  obtain ⟨p, hp⟩ : ∃ p, p = k / 8 := ⟨_, rfl⟩
  obtain ⟨q, hq⟩ : ∃ q, q = k % 8 := ⟨_, rfl⟩
  have hp2 : p < n + 2 := by omega
  have hq2 : q < 8 := by omega
  have e1 : (k : Int) / 8 = (p : Int) := by omega
  have e2 : (k : Int) % 8 = (q : Int) := by omega
  have e1t : (k : Int).tdiv 8 = (p : Int) := by rw [Int.tdiv_eq_ediv_of_nonneg (by omega)]; exact e1
  have e2t : (k : Int).tmod 8 = (q : Int) := by rw [Int.tmod_eq_emod_of_nonneg (by omega)]; exact e2
  have e3 : IntKind.i64.wrap (p : Int) = (p : Int) := IntWalk.i64_in _ (by omega)
  have e4 : IntKind.i64.wrap (q : Int) = (q : Int) := IntWalk.i64_in _ (by omega)
  obtain ⟨x0, hx0⟩ : ∃ x0, sl[p]? = some x0 := ⟨_, List.getElem?_eq_getElem (by omega)⟩
  have hx0b : x0 < 256 := hslb _ (List.mem_of_getElem? hx0)
  have hq256 : 2 ^ q < 256 := pow_q q hq2
  have hck : w4.cell? ⟨g, p, none⟩ = some (.int .u8 (x0 : Int)) := hcell p (bv x0) (by rw [List.getElem?_map, hx0]; rfl)
  have hfk := hfr p
  obtain ⟨y0, hy0⟩ : ∃ y, y = x0 ^^^ 2 ^ q := ⟨_, rfl⟩
  have hy0b : y0 < 256 := by rw [hy0]; exact Nat.xor_lt_two_pow (n := 8) hx0b hq256
  have f0 : bits .xor .u8 (x0 : Int) ((2 : Int) ^ q % 256) = (y0 : Int) := by rw [hy0]; exact xor_bit x0 q hx0b hq2
  obtain ⟨tl, htl⟩ : ∃ tl, tl = sl.set p y0 := ⟨_, rfl⟩
  have hown6 : ((w4.setCell ⟨g, p, none⟩ (.int .u8 (y0 : Int)))).ownsRow w.heap.size 5 1 (.slice (some ⟨g, 0, none⟩) (n + 2) c4) (n + 2) (tl.map bv) := by
    have := own_stored hown4' p (.int .u8 (y0 : Int))
    rw [htl, List.map_set]
    exact this
  have hr6 : Rd ((w4.setCell ⟨g, p, none⟩ (.int .u8 (y0 : Int)))).drew _ 1 (some ⟨g, 0, none⟩) (n + 2) (tl.map bv) := Rd.of_own hown6
  have htlb : ∀ c ∈ tl, c < 256 := by
    intro c hc
    rw [htl] at hc
    rcases List.mem_or_eq_of_mem_set hc with hc | rfl
    · exact hslb c hc
    · exact hy0b
  have hopen : opens tl = false := by
    have hne := burst_one sl p (2 ^ q) (by omega) (by omega) hslb hq256 (Nat.pos_iff_ne_zero.1 (Nat.pow_pos (by omega))) (by rw [Hsl.out]; exact sum_seal l hb)
    rw [modify_set sl p x0 _ hx0, ← hy0, ← htl] at hne
    have h3 := opens_iff tl htlb (by rw [htl]; simp; omega)
    rcases hh : opens tl with _ | _
    · rfl
    · exact absurd (h3.1 hh) hne
  have Hopen := Lib.hid hopen
  have hbw6 : Below w.heap.size w ((w4.setCell ⟨g, p, none⟩ (.int .u8 (y0 : Int)))).drew := (hbw4.setCell (p := ⟨g, p, none⟩) hgb _).drew
  clear hopen htl hy0 hcell hfr hown6 hown4 hown4' hg4 hat4 hr2 hbw2 hsz2 hk' hx0 hp hq
  go_wp2_with fail
  go_region
  go_wp2_with (first
    | (go_at_call 10; (with_reducible refine (open_any _ (n + 2) c4 _ tl _ hr6 (Nat.le_refl _) htlb (by omega) hcap4).mono ?_)
       rintro e w7 ⟨A7, n7, c7, rfl, hown7, hb7⟩))
  go_ret
  refine ⟨ret_bool ?_, hbw6.trans (hb7.mono hbw6.size)⟩
  rw [Hopen.out]
  rfl

set_option maxHeartbeats 4000000 in
theorem bits_two (A : Option Addr) (n c at1 : Nat) (l : List Nat) (w : World) (hr : Rd w w.heap.size 1 A n (l.map bv)) (hb : ∀ c ∈ l, c < 256) (hc : n ≤ c) (hn : n ≤ 4000)
    (ha : at1 < 65536) :
    Calls Try.prog 5 #[.slice A n c, .int .u16 at1, .bool true] w fun e w' => e = .returned (.bool true) ∧ Below w.heap.size w w' := by
  have hl : l.length = n := by have := hr.1; simpa using this
  have h0 : ¬ (4000 : Int) < (n : Int) := by omega
  obtain ⟨i0, hi, hz0, hz1, hz2⟩ := info_parts info_u8
  obtain ⟨sl, hsl⟩ : ∃ sl, sl = seal_ l := ⟨_, rfl⟩
  have hsll : sl.length = n + 2 := by rw [hsl]; simp [seal_, hl]
  have hslb : ∀ c ∈ sl, c < 256 := by rw [hsl]; exact mem_seal l hb
  have Hsl := Lib.hid hsl
  clear hsl
  obtain ⟨k, hk⟩ : ∃ k, k = at1 % (8 * n + 15) := ⟨_, rfl⟩
  have hkl : k < 8 * n + 15 := by rw [hk]; exact Nat.mod_lt _ (by omega)
  have hk' : (at1 : Int) % (8 * ((n : Int) + 2) - 1) = (k : Int) := by rw [hk, show 8 * ((n : Int) + 2) - 1 = ((8 * n + 15 : Nat) : Int) by omega]; simp
  clear hk
  go_enter Try.func5, Try.ntmps5
  go_wp2_with (first
    | (go_at_call 9; (with_reducible refine (head_any _).mono ?_)
       rintro e w1 ⟨rfl, hb1⟩
       have hr1 := hr.below hb1
       have hsz1 := hb1.size)
    | (go_at_call 14; (with_reducible refine (seal_any A n c _ l _ hr1 hsz1 hb (by omega)).mono ?_)
       rintro e w2 ⟨A1, c1, rfl, hown2, hb2⟩
       rw [← Hsl.out] at hown2
       have hr2 : Rd w2 w2.heap.size 1 A1 (n + 2) (sl.map bv) := Rd.of_own hown2
       have hbw2 := hb1.trans (hb2.mono hsz1)
       have hsz2 := hbw2.size
       clear hown2 hb1 hb2 hr1 hsz1)
    | (at_builtin
       (with_reducible refine wpList_app _ rfl (.tmp 30) (.tmp 31) 22 rfl w.heap.size 5 i0 (.int .u8 0) 1 1 Try.underlying22 hi hz0 hz1 hz2 rfl ?g0 _ 0 [] rfl (World.ownsRow_made w2 #[] 0 hsz2 ?gm rfl) w2.heap.size A1 (n + 2) c1 (sl.map bv) rfl ?gr (bv_one sl) ?g2 ?g3 ?g4 ?_)))
  case g0 => omega
  case gm => unfold maxLen; omega
  case gr => exact hr2.alloc (Nat.le_refl _) _
  case g2 => unfold maxLen; omega
  case g3 => omega
  case g4 => simp; omega
  intro v4 w4 hown4 hg4 hat4
  have hbw4 : Below w.heap.size w w4 := (hbw2.alloc hsz2 _).grown hg4 (by simp; omega) (by intro q hq; simp [Value.ownBlock] at hq; omega)
  obtain ⟨A4, c4, rfl⟩ := own_shape hown4
  have hown4' : w4.ownsRow w.heap.size 5 1 (.slice A4 (n + 2) c4) (n + 2) (sl.map bv) := by simpa using hown4
  obtain ⟨hcap4, g, rfl, hgb, hgl, hcell, hfr⟩ := own_some hown4' (by omega)
  obtain ⟨p, hp⟩ : ∃ p, p = k / 8 := ⟨_, rfl⟩
  obtain ⟨q, hq⟩ : ∃ q, q = k % 8 := ⟨_, rfl⟩
  have hp2 : p < n + 2 := by omega
  have hq2 : q < 8 := by omega
  have e1 : (k : Int) / 8 = (p : Int) := by omega
  have e2 : (k : Int) % 8 = (q : Int) := by omega
  have e1t : (k : Int).tdiv 8 = (p : Int) := by rw [Int.tdiv_eq_ediv_of_nonneg (by omega)]; exact e1
  have e2t : (k : Int).tmod 8 = (q : Int) := by rw [Int.tmod_eq_emod_of_nonneg (by omega)]; exact e2
  have e3 : IntKind.i64.wrap (p : Int) = (p : Int) := IntWalk.i64_in _ (by omega)
  have e4 : IntKind.i64.wrap (q : Int) = (q : Int) := IntWalk.i64_in _ (by omega)
  obtain ⟨x0, hx0⟩ : ∃ x0, sl[p]? = some x0 := ⟨_, List.getElem?_eq_getElem (by omega)⟩
  have hx0b : x0 < 256 := hslb _ (List.mem_of_getElem? hx0)
  have hq256 : 2 ^ q < 256 := pow_q q hq2
  have hck : w4.cell? ⟨g, p, none⟩ = some (.int .u8 (x0 : Int)) := hcell p (bv x0) (by rw [List.getElem?_map, hx0]; rfl)
  have hfk := hfr p
  obtain ⟨y0, hy0⟩ : ∃ y, y = x0 ^^^ 2 ^ q := ⟨_, rfl⟩
  have hy0b : y0 < 256 := by rw [hy0]; exact Nat.xor_lt_two_pow (n := 8) hx0b hq256
  have f0 : bits .xor .u8 (x0 : Int) ((2 : Int) ^ q % 256) = (y0 : Int) := by rw [hy0]; exact xor_bit x0 q hx0b hq2
  obtain ⟨p', hp'⟩ : ∃ p, p = (k + 1) / 8 := ⟨_, rfl⟩
  obtain ⟨q', hq'⟩ : ∃ q, q = (k + 1) % 8 := ⟨_, rfl⟩
  have hp2' : p' < n + 2 := by omega
  have hq2' : q' < 8 := by omega
  have e1' : ((k : Int) + 1) / 8 = (p' : Int) := by omega
  have e2' : ((k : Int) + 1) % 8 = (q' : Int) := by omega
  have e1t' : ((k : Int) + 1).tdiv 8 = (p' : Int) := by rw [Int.tdiv_eq_ediv_of_nonneg (by omega)]; exact e1'
  have e2t' : ((k : Int) + 1).tmod 8 = (q' : Int) := by rw [Int.tmod_eq_emod_of_nonneg (by omega)]; exact e2'
  have e3' : IntKind.i64.wrap (p' : Int) = (p' : Int) := IntWalk.i64_in _ (by omega)
  have e4' : IntKind.i64.wrap (q' : Int) = (q' : Int) := IntWalk.i64_in _ (by omega)
  have hq256' : 2 ^ q' < 256 := pow_q q' hq2'
  have hown5 : ((w4.setCell ⟨g, p, none⟩ (.int .u8 (y0 : Int)))).ownsRow w.heap.size 5 1 (.slice (some ⟨g, 0, none⟩) (n + 2) c4) (n + 2) ((sl.set p y0).map bv) := by
    have := own_stored hown4' p (.int .u8 (y0 : Int))
    rw [List.map_set]
    exact this
  obtain ⟨x1, hx1⟩ : ∃ x1, (sl.set p y0)[p']? = some x1 := ⟨_, List.getElem?_eq_getElem (by simp; omega)⟩
  have hmb : ∀ c ∈ sl.set p y0, c < 256 := by
    intro c hc
    rcases List.mem_or_eq_of_mem_set hc with hc | rfl
    · exact hslb c hc
    · exact hy0b
  have hx1b : x1 < 256 := hmb _ (List.mem_of_getElem? hx1)
  obtain ⟨_, g', hg', _, _, hcell5, hfr5⟩ := own_some hown5 (by omega)
  injection hg' with hg'
  injection hg' with hg'
  subst hg'
  have hck1 : (w4.setCell ⟨g, p, none⟩ (.int .u8 (y0 : Int))).cell? ⟨g, p', none⟩ = some (.int .u8 (x1 : Int)) := hcell5 p' (bv x1) (by rw [List.getElem?_map, hx1]; rfl)
  have hfk1 := hfr5 p'
  obtain ⟨y1, hy1⟩ : ∃ y, y = x1 ^^^ 2 ^ q' := ⟨_, rfl⟩
  have hy1b : y1 < 256 := by rw [hy1]; exact Nat.xor_lt_two_pow (n := 8) hx1b hq256'
  have f1 : bits .xor .u8 (x1 : Int) ((2 : Int) ^ q' % 256) = (y1 : Int) := by rw [hy1]; exact xor_bit x1 q' hx1b hq2'
  obtain ⟨tl, htl⟩ : ∃ tl, tl = (sl.set p y0).set p' y1 := ⟨_, rfl⟩
  have hown6 : ((w4.setCell ⟨g, p, none⟩ (.int .u8 (y0 : Int))).setCell ⟨g, p', none⟩ (.int .u8 (y1 : Int))).ownsRow w.heap.size 5 1 (.slice (some ⟨g, 0, none⟩) (n + 2) c4) (n + 2) (tl.map bv) := by
    have := own_stored hown5 p' (.int .u8 (y1 : Int))
    rw [htl, List.map_set]
    exact this
  have hr6 : Rd ((w4.setCell ⟨g, p, none⟩ (.int .u8 (y0 : Int))).setCell ⟨g, p', none⟩ (.int .u8 (y1 : Int))).drew.drew _ 1 (some ⟨g, 0, none⟩) (n + 2) (tl.map bv) := Rd.of_own hown6
  have htlb : ∀ c ∈ tl, c < 256 := by
    intro c hc
    rw [htl] at hc
    rcases List.mem_or_eq_of_mem_set hc with hc | rfl
    · exact hmb c hc
    · exact hy1b
  have hopen : opens tl = false := by
    have hs0 : sum sl = 0 := by rw [Hsl.out]; exact sum_seal l hb
    have hm : (sl.modify p (· ^^^ 2 ^ q)).modify p' (· ^^^ 2 ^ q') = tl := by
      rw [modify_set sl p x0 _ hx0, ← hy0, modify_set _ p' x1 _ hx1, ← hy1, ← htl]
    have hne : sum tl ≠ 0 := by
      rw [← hm]
      by_cases hs : p' = p
      · subst hs
        rw [modify_same]
        refine burst_one sl p' _ (by omega) (by omega) hslb (Nat.xor_lt_two_pow (n := 8) hq256 hq256') ?_ hs0
        intro hz
        have := xor_zero_eq _ _ hz
        have hqq : q' = q + 1 := by omega
        rw [hqq, Nat.pow_succ] at this
        have hpos : 0 < 2 ^ q := Nat.pow_pos (by omega)
        omega
      · have hs2 : p' = p + 1 := by omega
        subst hs2
        intro hz
        have := (sum_burst sl p (2 ^ q) (2 ^ q') (by omega) hslb hq256 hq256' hs0).1 hz
        exact absurd this.1 (Nat.pos_iff_ne_zero.1 (Nat.pow_pos (by omega)))
    have h3 := opens_iff tl htlb (by rw [htl]; simp; omega)
    rcases hh : opens tl with _ | _
    · rfl
    · exact absurd (h3.1 hh) hne
  have Hopen := Lib.hid hopen
  have hbw6 : Below w.heap.size w ((w4.setCell ⟨g, p, none⟩ (.int .u8 (y0 : Int))).setCell ⟨g, p', none⟩ (.int .u8 (y1 : Int))).drew.drew := ((hbw4.setCell (p := ⟨g, p, none⟩) hgb _).setCell (p := ⟨g, p', none⟩) hgb _).drew.drew
  clear hopen htl hy0 hy1 hcell hfr hcell5 hfr5 hown5 hown6 hown4 hown4' hg4 hat4 hr2 hbw2 hsz2 hk' hx0 hx1 hp hq hp' hq'
  go_wp2_with fail
  go_region
  go_wp2_with fail
  go_region
  go_wp2_with (first
    | (go_at_call 10; (with_reducible refine (open_any _ (n + 2) c4 _ tl _ hr6 (Nat.le_refl _) htlb (by omega) hcap4).mono ?_)
       rintro e w7 ⟨A7, n7, c7, rfl, hown7, hb7⟩))
  go_ret
  refine ⟨ret_bool ?_, hbw6.trans (hb7.mono hbw6.size)⟩
  rw [Hopen.out]
  rfl

theorem bits_walk (A : Option Addr) (n c : Nat) (l : List Nat) (at1 : Int) (two : Bool) (w : World) (hr : Rd w w.heap.size 1 A n (l.map bv)) (hb : ∀ c ∈ l, c < 256) (hc : n ≤ c) (hm : c ≤ maxLen)
    (ha : (Lit.int .u16 at1).wf = true) :
    Calls Try.prog 5 #[.slice A n c, .int .u16 at1, .bool two] w fun e w' => e = .returned (.bool true) ∧ Below w.heap.size w w' := by
  by_cases hn : n ≤ 4000
  · obtain ⟨a0, a1⟩ := wf_u16_lt ha
    obtain ⟨a, rfl⟩ := Int.eq_ofNat_of_zero_le a0
    cases two
    · exact bits_one A n c a l w hr hb hc hn (by omega)
    · exact bits_two A n c a l w hr hb hc hn (by omega)
  · exact bits_great A n c _ _ w (by omega) (by unfold maxLen at hm; omega)
end Go.Proofs.Ytdbibnojeefbpaa
