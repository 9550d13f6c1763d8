/- RtuTwo: the plain law, and the walk. -/
import Derived.Test.YtkajhobgelaigaaRtuBackW
set_option linter.unusedVariables false
set_option linter.unusedSimpArgs false
set_option maxRecDepth 100000
namespace Go.Proofs.Ytkajhobgelaigaa
open Go Go.RowKit CrcMath

theorem zip_zero : ∀ l : List Nat, List.zipWith (· ^^^ ·) l (List.replicate l.length 0) = l := by
  intro l
  induction l with
  | nil => rfl
  | cons a l ih => simp only [List.length_cons, List.replicate_succ, List.zipWith_cons_cons, Nat.xor_zero, ih]
theorem crc_start (g : List Nat) (hb : ∀ c ∈ g, c < 256) (hs : sum g = 0) : crc 0 g ≠ 0 := by
  have h := crc_xor g (List.replicate g.length 0) 65535 65535 (by simp)
  rw [zip_zero, Nat.xor_self] at h
  unfold sum at hs
  rw [hs, Nat.zero_xor] at h
  rw [h]
  intro he
  have := crc_zeros g.length 65535 (by omega) he
  omega
theorem two_opens (f g : List Nat) (hf : ∀ c ∈ f, c < 256) (hg : ∀ c ∈ g, c < 256) (h1 : sum f = 0) (h2 : sum g = 0) (h3 : 2 ≤ g.length) : opens (f ++ g) = false := by
  have hb : ∀ c ∈ f ++ g, c < 256 := fun c hc => by
    rcases List.mem_append.1 hc with hc | hc
    · exact hf c hc
    · exact hg c hc
  have := opens_iff (f ++ g) hb (by simp; omega)
  rcases ho : opens (f ++ g) with _ | _
  · rfl
  · exfalso
    have hs := this.1 ho
    unfold sum at hs h1
    rw [crc_append, h1] at hs
    exact crc_start g hg h2 hs
theorem two_sil (f g : List Nat) (hf : ∀ c ∈ f, c < 256) (hg : ∀ c ∈ g, c < 256) (h1 : sum f = 0) (h2 : sum g = 0) (h3 : 4 ≤ g.length) :
    silL (([] ++ f) ++ g) = (0, [], (if 256 < f.length + g.length then 22 else 23), true) := by
  rw [List.nil_append, silL, if_neg (by intro h; have := congrArg List.length h; simp at this; rw [this.2] at h3; simp at h3), getL]
  by_cases h : 256 < f.length + g.length
  · rw [if_pos (by simpa using h), if_pos h]
  · rw [if_neg (by simpa using h), if_neg (by simp; omega), two_opens f g hf hg h1 h2 (by omega), if_neg h]
    rfl
theorem HE.wide {w : World} {U : Nat → Prop} {p : Nat} {h : List Nat} (H : HE w U p h) : HE w (fun k => k < w.heap.size ∧ k ≠ p) p h :=
  ⟨fun hk => hk.2 rfl, fun k hk => hk.1, H.hb, H.hp⟩
theorem HE.pold {w : World} {U : Nat → Prop} {p : Nat} {h : List Nat} (H : HE w U p h) : p < w.heap.size := by
  obtain ⟨R, _, _, _, h4⟩ := H.hp
  exact (Array.getElem?_eq_some_iff.1 h4).1
theorem own_wide {w w' : World} {base p : Nat} {e : TypeId} {size n : Nat} {v : Value} {xs : List Value} (h : w.ownsRow base e size v n xs) (hk : Kept (fun k => k < w.heap.size ∧ k ≠ p) w w') (hp : p < base) : w'.ownsRow base e size v n xs := by
  refine h.kept (row := some p) ⟨hk.os, hk.tape, hk.output, hk.size, fun k hkl hne => hk.block k ⟨hkl, fun e => hne (by rw [e])⟩⟩ (.inr fun e => ?_)
  have := (h.lt _ e).1
  omega

set_option maxHeartbeats 4000000 in
theorem rtwo_fine (u : Nat) (A0 : Option Addr) (n0 c0 : Nat) (a : List Nat) (A1 : Option Addr) (n1 c1 : Nat) (b : List Nat) (w : World) (hu : u < 256) (hr0 : Rd w w.heap.size 1 A0 n0 (a.map bv)) (hq0 : ∀ c ∈ a, c < 256)
    (hr1 : Rd w w.heap.size 1 A1 n1 (b.map bv)) (hq1 : ∀ c ∈ b, c < 256) (h0 : 1 ≤ n0 ∧ n0 ≤ 253) (h1 : 1 ≤ n1 ∧ n1 ≤ 253) :
    Calls Try.prog 8 #[.int .u8 u, .slice A0 n0 c0, .slice A1 n1 c1] w fun e w' => e = .returned (.bool true) ∧ Below w.heap.size w w' := by
  have hu' : 0 ≤ (u : Int) ∧ (u : Int) < 256 := by omega
  have hl0 : a.length = n0 := by have := hr0.1; simpa using this
  have hl1 : b.length = n1 := by have := hr1.1; simpa using this
  obtain ⟨f1, f2, f3⟩ := get_put u a (by omega) (by omega) hu hq0
  obtain ⟨g1, g2, g3⟩ := get_put u b (by omega) (by omega) hu hq1
  have hub : ∀ (l : List Nat), (∀ c ∈ l, c < 256) → ∀ c ∈ u :: l, c < 256 := fun l hl c hc => by
    rcases List.mem_cons.1 hc with rfl | hc
    · exact hu
    · exact hl c hc
  have fb := mem_seal _ (hub a hq0)
  have gb := mem_seal _ (hub b hq1)
  have fs := sum_seal _ (hub a hq0)
  have gs := sum_seal _ (hub b hq1)
  obtain ⟨f, hf⟩ : ∃ f, f = seal_ (u :: a) := ⟨_, rfl⟩
  obtain ⟨g, hg⟩ : ∃ g, g = seal_ (u :: b) := ⟨_, rfl⟩
  rw [← hf] at f1 f3 fb fs
  rw [← hg] at g1 g3 gb gs
  rw [hl0] at f3
  rw [hl1] at g3
  have hsil := two_sil f g fb gb fs gs (by omega)
  have F1 := Lib.hid f1
  have F3 := Lib.hid f3
  have G1 := Lib.hid g1
  have G3 := Lib.hid g3
  have HU' := Lib.hid hu'
  have hn0 : (1 : Int) ≤ (n0 : Int) := by omega
  have hn0' : (n0 : Int) ≤ 253 := by omega
  have hn1 : (1 : Int) ≤ (n1 : Int) := by omega
  have hn1' : (n1 : Int) ≤ 253 := by omega
  have t1 : decide ((600 : Int) < (n0 : Int) + (n1 : Int)) = false := decide_eq_false (by omega)
  have t2 : ((n0 : Int) + 3 == 0) = false := by rw [beq_eq_false_iff_ne]; omega
  have t3 : ((n1 : Int) + 3 == 0) = false := by rw [beq_eq_false_iff_ne]; omega
  rw [f3, g3] at hsil
  have go : decide ((256 : Int) < (n0 : Int) + 3 + ((n1 : Int) + 3)) = true ∧ silL (([] ++ f) ++ g) = (0, [], 22, true) ∨ decide ((256 : Int) < (n0 : Int) + 3 + ((n1 : Int) + 3)) = false ∧ silL (([] ++ f) ++ g) = (0, [], 23, true) := by
    by_cases h : 256 < n0 + 3 + (n1 + 3)
    · exact .inl ⟨decide_eq_true (by omega), by rw [hsil, if_pos h]⟩
    · exact .inr ⟨decide_eq_false (by omega), by rw [hsil, if_neg h]⟩
  clear f1 f2 f3 g1 g2 g3 hf hg hu' hl0 hl1 hub fs gs hsil
  rcases go with ⟨t4, hs⟩ | ⟨t4, hs⟩
  all_goals
    have HS := Lib.hid hs
    clear hs
    go_enter Try.func8, Try.ntmps8
    go_wp2_with (first
      | (go_at_call 9; (with_reducible refine (head_any _).mono ?_); rintro e w1 ⟨rfl, hb1⟩)
      | (go_at_call 14; (with_reducible refine (enew_any (fun k => k < w1.heap.size) w1 (fun k hk => hk)).mono ?_)
         rintro e w2 ⟨rfl, hE2, hb2⟩
         have hb12 := hb1.trans (hb2.mono hb1.size)
         have hr02 := (hr0.below hb12).more hb12.size
         have hr12 := (hr1.below hb12).more hb12.size
         have hp2 := hE2.pold)
      | (go_at_call 12; (with_reducible refine (put_any u A0 n0 c0 _ a w2 hr02 (Nat.le_refl _) hq0 HU'.out (by omega)).mono ?_)
         rintro e w3 ⟨A3, n3, c3, rfl, hown3, hb3⟩
         rw [Int.toNat_natCast, F1.out] at hown3
         obtain rfl : n3 = n0 + 3 := by have := own_len hown3; rw [List.length_map, F3.out] at this; exact this
         have hE3 := hE2.below hb3
         have hr13 := (hr12.below hb3).more hb3.size
         have hb13 := hb12.trans (hb3.mono hb12.size))
      | (go_at_call 12; (with_reducible refine (put_any u A1 n1 c1 _ b w3 hr13 (Nat.le_refl _) hq1 HU'.out (by omega)).mono ?_)
         rintro e w4 ⟨A4, n4, c4, rfl, hown4, hb4⟩
         rw [Int.toNat_natCast, G1.out] at hown4
         obtain rfl : n4 = n1 + 3 := by have := own_len hown4; rw [List.length_map, G3.out] at this; exact this
         have hE4 := (hE3.below hb4).wide
         have hown34 := own_below hown3 hb4
         have hr34 := Rd.of_own hown34
         have hb14 := hb13.trans (hb4.mono hb13.size)
         have hp4 := Nat.lt_of_lt_of_le hp2 hb3.size)
      | (go_at_call 19; (with_reducible refine (hear_any _ _ _ w4 _ _ _ f hE4 hr34 fb (by omega)).mono ?_)
         rintro e w5 ⟨rfl, hE5, hK5⟩
         have hown5 := own_wide hown4 hK5 hp4
         have hr5 := Rd.of_own hown5)
      | (go_at_call 19; (with_reducible refine (hear_any _ _ _ w5 _ _ _ g hE5 hr5 gb (by omega)).mono ?_)
         rintro e w6 ⟨rfl, hE6, hK6⟩)
      | (go_at_call 17; (with_reducible refine (sil_any _ _ _ w6 hE6).mono ?_)
         rintro e w7 ⟨A7, n7, c7, he, hr7, hE7, hK7⟩
         rw [HS.out] at he hr7
         obtain rfl : n7 = 0 := by have := hr7.1; simpa using this.symm
         subst he
         have hK := (hK5.trans hK6).trans hK7))
    go_ret
    refine ⟨ret_bool (by simp), hb14.trans (hK.below fun k hk => ⟨by have := hb14.size; omega, by have := hb1.size; omega⟩)⟩
theorem put_len (u : Nat) (l : List Nat) : (putL u l).length = if 1 ≤ l.length ∧ l.length ≤ 253 then l.length + 3 else 0 := by
  unfold putL
  split
  · rw [seal_len]; simp
  · rfl
set_option maxHeartbeats 4000000 in
theorem rtwo_none (u : Nat) (A0 : Option Addr) (n0 c0 : Nat) (a : List Nat) (A1 : Option Addr) (n1 c1 : Nat) (b : List Nat) (w : World) (hu : u < 256) (hr0 : Rd w w.heap.size 1 A0 n0 (a.map bv)) (hq0 : ∀ c ∈ a, c < 256)
    (hr1 : Rd w w.heap.size 1 A1 n1 (b.map bv)) (hq1 : ∀ c ∈ b, c < 256) (hm0 : n0 ≤ 9223372036854775807) (hm1 : n1 ≤ 9223372036854775807) (h : ¬ ((1 ≤ n0 ∧ n0 ≤ 253) ∧ (1 ≤ n1 ∧ n1 ≤ 253))) :
    Calls Try.prog 8 #[.int .u8 u, .slice A0 n0 c0, .slice A1 n1 c1] w fun e w' => e = .returned (.bool true) ∧ Below w.heap.size w w' := by
  have hu' : 0 ≤ (u : Int) ∧ (u : Int) < 256 := by omega
  have hl0 : a.length = n0 := by have := hr0.1; simpa using this
  have hl1 : b.length = n1 := by have := hr1.1; simpa using this
  obtain ⟨k0, hk0⟩ : ∃ k0, (putL u a).length = k0 := ⟨_, rfl⟩
  obtain ⟨k1, hk1⟩ : ∃ k1, (putL u b).length = k1 := ⟨_, rfl⟩
  have go : k0 = 0 ∨ 1 ≤ k0 ∧ k1 = 0 := by
    rw [put_len, hl0] at hk0
    rw [put_len, hl1] at hk1
    by_cases h0 : 1 ≤ n0 ∧ n0 ≤ 253
    · rw [if_pos h0] at hk0
      rw [if_neg (fun h1 => h ⟨h0, h1⟩)] at hk1
      omega
    · rw [if_neg h0] at hk0; omega
  have K0 := Lib.hid hk0
  have K1 := Lib.hid hk1
  have HU' := Lib.hid hu'
  have hk0n : (0 : Int) ≤ (k0 : Int) := by omega
  obtain ⟨s, hs⟩ : ∃ s, IntKind.i64.wrap ((n0 : Int) + (n1 : Int)) = s := ⟨_, rfl⟩
  have M0 := Lib.hid hm0
  have M1 := Lib.hid hm1
  clear hk0 hk1 hu' hl0 hl1 h hm0 hm1
  have go2 : ((k0 : Int) == 0) = true ∨ ((k0 : Int) == 0) = false ∧ ((k1 : Int) == 0) = true := by simp; omega
  clear go
  rcases go2 with t1 | ⟨t1, t2⟩
  all_goals
    go_enter Try.func8, Try.ntmps8
    go_wp2_with (first
      | (go_at_call 9; (with_reducible refine (head_any _).mono ?_); rintro e w1 ⟨rfl, hb1⟩)
      | (go_at_call 14; (with_reducible refine (enew_any (fun k => k < w1.heap.size) w1 (fun k hk => hk)).mono ?_)
         rintro e w2 ⟨rfl, hE2, hb2⟩
         have hb12 := hb1.trans (hb2.mono hb1.size)
         have hr02 := (hr0.below hb12).more hb12.size
         have hr12 := (hr1.below hb12).more hb12.size)
      | (go_at_call 12; (with_reducible refine (put_any u A0 n0 c0 _ a w2 hr02 (Nat.le_refl _) hq0 HU'.out M0.out).mono ?_)
         rintro e w3 ⟨A3, n3, c3, rfl, hown3, hb3⟩
         obtain rfl : n3 = k0 := by have := own_len hown3; rw [List.length_map, Int.toNat_natCast, K0.out] at this; exact this
         have hr13 := (hr12.below hb3).more hb3.size
         have hb13 := hb12.trans (hb3.mono hb12.size))
      | (go_at_call 12; (with_reducible refine (put_any u A1 n1 c1 _ b w3 hr13 (Nat.le_refl _) hq1 HU'.out M1.out).mono ?_)
         rintro e w4 ⟨A4, n4, c4, rfl, hown4, hb4⟩
         obtain rfl : n4 = k1 := by have := own_len hown4; rw [List.length_map, Int.toNat_natCast, K1.out] at this; exact this
         have hb14 := hb13.trans (hb4.mono hb13.size)))
    all_goals
      go_ret
      exact ⟨ret_bool (by simp), hb14⟩
theorem rtwo_walk (u : Int) (A0 : Option Addr) (n0 c0 : Nat) (a : List Nat) (A1 : Option Addr) (n1 c1 : Nat) (b : List Nat) (w : World) (hu : (Lit.int .u8 u).wf = true) (hr0 : Rd w w.heap.size 1 A0 n0 (a.map bv)) (hq0 : ∀ c ∈ a, c < 256) (hc0 : n0 ≤ c0) (hm0 : c0 ≤ maxLen)
    (hr1 : Rd w w.heap.size 1 A1 n1 (b.map bv)) (hq1 : ∀ c ∈ b, c < 256) (hc1 : n1 ≤ c1) (hm1 : c1 ≤ maxLen) :
    Calls Try.prog 8 #[.int .u8 u, .slice A0 n0 c0, .slice A1 n1 c1] w fun e w' => e = .returned (.bool true) ∧ Below w.heap.size w w' := by
  obtain ⟨p1, p2⟩ := wf_u8_lt hu
  obtain ⟨k, rfl⟩ : ∃ k : Nat, u = (k : Int) := ⟨u.toNat, by omega⟩
  unfold maxLen at hm0 hm1
  by_cases h : (1 ≤ n0 ∧ n0 ≤ 253) ∧ (1 ≤ n1 ∧ n1 ≤ 253)
  · exact rtwo_fine k A0 n0 c0 a A1 n1 c1 b w (by omega) hr0 hq0 hr1 hq1 h.1 h.2
  · exact rtwo_none k A0 n0 c0 a A1 n1 c1 b w (by omega) hr0 hq0 hr1 hq1 (by omega) (by omega) h
end Go.Proofs.Ytkajhobgelaigaa
