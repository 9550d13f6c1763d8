/- CrcBytes, walked: with one byte changed, or two that stand together, what is sealed is none. -/
import Derived.Test.YtdbibnojeefbpaaCrcHead
import Derived.Test.YtdbibnojeefbpaaReads
set_option linter.unusedVariables false
set_option linter.unusedSimpArgs false
set_option maxRecDepth 100000
namespace Go.Proofs.Ytdbibnojeefbpaa
open Go Go.RowKit CrcMath

set_option maxHeartbeats 2000000 in
theorem bytes_great (A : Option Addr) (n c : Nat) (at1 one two : Int) (w : World) (hn : 4000 < n) (hn2 : n ≤ 9223372036854775807) :
    Calls Try.prog 7 #[.slice A n c, .int .u16 at1, .int .u8 one, .int .u8 two] w fun e w' => e = .returned (.bool true) ∧ Below w.heap.size w w' := by
  have h0 : (4000 : Int) < (n : Int) := by omega
  go_enter Try.func7, Try.ntmps7
  go_wp2_with (go_at_call 9; (with_reducible refine (head_any _).mono ?_); rintro e w1 ⟨rfl, hb1⟩)
  go_ret
  exact ⟨rfl, hb1⟩

theorem modify_two (sl : List Nat) (k x0 x1 one two : Nat) (h0 : sl[k]? = some x0) (h1 : sl[k + 1]? = some x1) :
    (sl.modify k (· ^^^ one)).modify (k + 1) (· ^^^ two) = (sl.set k (x0 ^^^ one)).set (k + 1) (x1 ^^^ two) := by
  have hl0 := (List.getElem?_eq_some_iff.1 h0).1
  have hl1 := (List.getElem?_eq_some_iff.1 h1).1
  apply List.ext_getElem?
  intro i
  rw [List.getElem?_modify, List.getElem?_modify, List.getElem?_set, List.getElem?_set]
  by_cases e1 : k + 1 = i
  · subst e1
    simp only [List.getElem?_eq_getElem hl1, Option.some.injEq] at h1
    simp [h1, hl1]
  · by_cases e0 : k = i
    · subst e0
      simp only [List.getElem?_eq_getElem hl0, Option.some.injEq] at h0
      simp [h0, hl0]
    · simp [e0, e1]

set_option maxHeartbeats 4000000 in
theorem bytes_small (A : Option Addr) (n c at1 one two : Nat) (l : List Nat) (w : World) (hr : Rd w w.heap.size 1 A n (l.map bv)) (hb : ∀ c ∈ l, c < 256) (hc : n ≤ c) (hn : n ≤ 4000)
    (ha : at1 < 65536) (h1 : one < 256) (h2 : two < 256) :
    Calls Try.prog 7 #[.slice A n c, .int .u16 at1, .int .u8 one, .int .u8 two] w fun e w' => e = .returned (.bool true) ∧ Below w.heap.size w w' := by
  have hl : l.length = n := by have := hr.1; simpa using this
  have h0 : ¬ (4000 : Int) < (n : Int) := by omega
  obtain ⟨i0, hi, hz0, hz1, hz2⟩ := info_parts info_u8
  obtain ⟨k, hk⟩ : ∃ k, k = at1 % (n + 1) := ⟨_, rfl⟩
  have hkl : k < n + 1 := by rw [hk]; exact Nat.mod_lt _ (by omega)
  have hk' : (at1 : Int) % ((n : Int) + 2 - 1) = (k : Int) := by rw [hk, show (n : Int) + 2 - 1 = ((n + 1 : Nat) : Int) by omega]; simp
  obtain ⟨sl, hsl⟩ : ∃ sl, sl = seal_ l := ⟨_, rfl⟩
  have hsll : sl.length = n + 2 := by rw [hsl]; simp [seal_, hl]
  have hslb : ∀ c ∈ sl, c < 256 := by rw [hsl]; exact mem_seal l hb
  obtain ⟨x0, hx0⟩ : ∃ x0, sl[k]? = some x0 := ⟨_, List.getElem?_eq_getElem (by omega)⟩
  obtain ⟨x1, hx1⟩ : ∃ x1, sl[k + 1]? = some x1 := ⟨_, List.getElem?_eq_getElem (by omega)⟩
  have Hsl := Lib.hid hsl
  have Hk := Lib.hid hk
  have Hx0 := Lib.hid hx0
  have Hx1 := Lib.hid hx1
  clear hsl hk hx0 hx1
  go_enter Try.func7, Try.ntmps7
  go_wp2_with (first
    | (go_at_call 9; (with_reducible refine (head_any _).mono ?_)
       rintro e w1 ⟨rfl, hb1⟩
       have hr1 := hr.below hb1
       have hsz1 := hb1.size)
    | (go_at_call 14; (with_reducible refine (seal_any A n c _ l _ hr1 hsz1 hb (by omega)).mono ?_)
       rintro e w2 ⟨A1, c1, rfl, hown2, hb2⟩
       rw [← Hsl.out] at hown2
       have hr2 : Rd w2 w2.heap.size 1 A1 (n + 2) (sl.map bv) := Rd.of_own hown2
       have hbw2 := hb1.trans (hb2.mono hsz1)
       have hsz2 := hbw2.size
       clear hown2 hb1 hb2 hr1 hsz1)
    | (at_builtin
       (with_reducible refine wpList_app _ rfl (.tmp 31) (.tmp 32) 22 rfl w.heap.size 5 i0 (.int .u8 0) 1 1 Try.underlying22 hi hz0 hz1 hz2 rfl ?g0 _ 0 [] rfl (World.ownsRow_made w2 #[] 0 hsz2 ?gm rfl) w2.heap.size A1 (n + 2) c1 (sl.map bv) rfl ?gr (bv_one sl) ?g2 ?g3 ?g4 ?_)))
  case g0 => omega
  case gm => unfold maxLen; omega
  case gr => exact hr2.alloc (Nat.le_refl _) _
  case g2 => unfold maxLen; omega
  case g3 => omega
  case g4 => simp; omega
  intro v4 w4 hown4 hg4 hat4
  have hbw4 : Below w.heap.size w w4 := (hbw2.alloc hsz2 _).grown hg4 (by simp; omega) (by intro q hq; simp [Value.ownBlock] at hq; omega)
  obtain ⟨A4, c4, rfl⟩ := own_shape hown4
  have hown4' : w4.ownsRow w.heap.size 5 1 (.slice A4 (n + 2) c4) (n + 2) (sl.map bv) := by simpa using hown4
  obtain ⟨hcap4, g, rfl, hgb, hgl, hcell, hfr⟩ := own_some hown4' (by omega)
  have hck : w4.cell? ⟨g, k, none⟩ = some (.int .u8 (x0 : Int)) := hcell k (bv x0) (by rw [List.getElem?_map, Hx0.out]; rfl)
  have hck1 : w4.cell? ⟨g, k + 1, none⟩ = some (.int .u8 (x1 : Int)) := hcell (k + 1) (bv x1) (by rw [List.getElem?_map, Hx1.out]; rfl)
  have hfk := hfr k
  have hfk1 := hfr (k + 1)
  have hx0b : x0 < 256 := hslb _ (List.mem_of_getElem? Hx0.out)
  have hx1b : x1 < 256 := hslb _ (List.mem_of_getElem? Hx1.out)
  obtain ⟨y0, hy0⟩ : ∃ y, y = x0 ^^^ one := ⟨_, rfl⟩
  obtain ⟨y1, hy1⟩ : ∃ y, y = x1 ^^^ two := ⟨_, rfl⟩
  have f0 : bits .xor .u8 (x0 : Int) (one : Int) = (y0 : Int) := by rw [hy0]; exact u8_xor_nat _ _ hx0b h1
  have f1 : bits .xor .u8 (x1 : Int) (two : Int) = (y1 : Int) := by rw [hy1]; exact u8_xor_nat _ _ hx1b h2
  obtain ⟨tl, htl⟩ : ∃ tl, tl = (sl.set k y0).set (k + 1) y1 := ⟨_, rfl⟩
  have hown6 : ((w4.setCell ⟨g, k, none⟩ (.int .u8 (y0 : Int))).setCell ⟨g, k + 1, none⟩ (.int .u8 (y1 : Int))).ownsRow w.heap.size 5 1 (.slice (some ⟨g, 0, none⟩) (n + 2) c4) (n + 2) (tl.map bv) := by
    have := ((hown4'.stored k (.int .u8 (y0 : Int))).1.stored (k + 1) (.int .u8 (y1 : Int))).1
    rw [htl, List.map_set, List.map_set]
    exact this
  have hr6 := Rd.of_own hown6
  have htlb : ∀ c ∈ tl, c < 256 := by
    intro c hc
    rw [htl] at hc
    rcases List.mem_or_eq_of_mem_set hc with hc | rfl
    · rcases List.mem_or_eq_of_mem_set hc with hc | rfl
      · exact hslb c hc
      · rw [hy0]; exact Nat.xor_lt_two_pow (n := 8) hx0b h1
    · rw [hy1]; exact Nat.xor_lt_two_pow (n := 8) hx1b h2
  have hopen : opens tl = (decide (one = 0) && decide (two = 0)) := by
    have hb2 := sum_burst sl k one two (by omega) hslb h1 h2 (by rw [Hsl.out]; exact sum_seal l hb)
    have hm : ((sl.modify k (· ^^^ one)).modify (k + 1) (· ^^^ two)) = tl := by
      rw [htl, hy0, hy1]
      exact modify_two sl k x0 x1 one two Hx0.out Hx1.out
    rw [hm] at hb2
    have h3 := opens_iff tl htlb (by rw [htl]; simp; omega)
    rw [Bool.eq_iff_iff, h3, hb2]
    simp
  have Hopen := Lib.hid hopen
  have hbw6 : Below w.heap.size w ((w4.setCell ⟨g, k, none⟩ (.int .u8 (y0 : Int))).setCell ⟨g, k + 1, none⟩ (.int .u8 (y1 : Int))) := (hbw4.setCell (p := ⟨g, k, none⟩) hgb _).setCell (p := ⟨g, k + 1, none⟩) hgb _
  clear hopen htl hy0 hy1 hcell hfr hown6 hown4 hown4' hg4 hat4 hr2 hbw2 hsz2
  go_wp2_with (first
    | (go_at_call 10; (with_reducible refine (open_any _ (n + 2) c4 _ tl _ hr6 (Nat.le_refl _) htlb (by omega) hcap4).mono ?_)
       rintro e w7 ⟨A7, n7, c7, rfl, hown7, hb7⟩))
  all_goals
    go_ret
    refine ⟨ret_bool ?_, hbw6.trans (hb7.mono hbw6.size)⟩
    rw [Hopen.out]
  · have h3 : one = 0 := by omega
    subst h3
    rw [Bool.beq_eq_decide_eq]
    simp
    rw [Bool.eq_iff_iff]
    simp
  · have h3 : one ≠ 0 := by
      intro h3
      subst h3
      simp at *
    simp [h3]

theorem bytes_walk (A : Option Addr) (n c : Nat) (l : List Nat) (at1 one two : Int) (w : World) (hr : Rd w w.heap.size 1 A n (l.map bv)) (hb : ∀ c ∈ l, c < 256) (hc : n ≤ c) (hm : c ≤ maxLen)
    (ha : (Lit.int .u16 at1).wf = true) (h1 : (Lit.int .u8 one).wf = true) (h2 : (Lit.int .u8 two).wf = true) :
    Calls Try.prog 7 #[.slice A n c, .int .u16 at1, .int .u8 one, .int .u8 two] w fun e w' => e = .returned (.bool true) ∧ Below w.heap.size w w' := by
  by_cases hn : n ≤ 4000
  · obtain ⟨a0, a1⟩ := wf_u16_lt ha
    obtain ⟨b0, b1⟩ := wf_u8_lt h1
    obtain ⟨c0, c1⟩ := wf_u8_lt h2
    obtain ⟨a, rfl⟩ := Int.eq_ofNat_of_zero_le a0
    obtain ⟨b, rfl⟩ := Int.eq_ofNat_of_zero_le b0
    obtain ⟨d, rfl⟩ := Int.eq_ofNat_of_zero_le c0
    exact bytes_small A n c a b d l w hr hb hc hn (by omega) (by omega) (by omega)
  · exact bytes_great A n c _ _ _ w (by omega) (by unfold maxLen at hm; omega)
end Go.Proofs.Ytdbibnojeefbpaa
