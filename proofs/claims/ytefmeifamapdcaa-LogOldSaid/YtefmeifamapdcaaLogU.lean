/- Package log: Add and Compact by cases, for the walks of the statements. -/
import Derived.Test.YtefmeifamapdcaaLogHead
set_option linter.unusedVariables false
set_option linter.unusedSimpArgs false
set_option maxRecDepth 100000
namespace Go.Proofs.Ytefmeifamapdcaa
open Go Go.RowKit CrcMath

def AddFits (m taken n : Nat) : Prop := 1 ≤ n ∧ n ≤ 448 ∧ taken + (n + 55) / 56 ≤ m / 2
def CompFits (m n : Nat) : Prop := 1 ≤ n ∧ n ≤ 448 ∧ (n + 55) / 56 ≤ m / 2
section
variable {p q lb m k half turn taken n c B : Nat} {A : Option Addr} {b : List Nat} {l : List (List Nat)} {w : World}
theorem rd_away (hr : Rd w B 1 A n (b.map bv)) (hn : 1 ≤ n) (hp : B ≤ p) (hq : B ≤ q) : ∀ g o, A = some ⟨g, o, none⟩ → g ≠ p ∧ g ≠ q := by
  intro g o e
  obtain ⟨g', o', e', hg, _⟩ := hr.2 (by omega)
  rw [e] at e'
  injection e' with e'
  injection e' with e1 _
  omega
theorem lg_add_case (hd : DK w p q m k half turn taken l) (hl : LogAt w lb p half turn taken) (hr : Rd w B 1 A n (b.map bv)) (hB : B ≤ w.heap.size) (hp : B ≤ p) (hq : B ≤ q) (hb : ∀ x ∈ b, x < 256) (hnc : n ≤ c) (hc : c ≤ maxLen) (hk8 : k + 8 < 1000000) :
    AddFits m taken n ∧ Calls Try.prog 12 #[.pointer (some ⟨lb, 0, none⟩), .slice A n c] w (StepL p q lb m (k + 8) half turn (taken + (n + 55) / 56) (l ++ [b]) w 0) ∨
    ¬ AddFits m taken n ∧ ∃ en : Nat, (en = 1 ∧ ¬ (1 ≤ n ∧ n ≤ 448) ∨ en = 5 ∧ 1 ≤ n ∧ n ≤ 448) ∧ Calls Try.prog 12 #[.pointer (some ⟨lb, 0, none⟩), .slice A n c] w (StepL p q lb m k half turn taken l w en) := by
  by_cases h1 : 1 ≤ n ∧ n ≤ 448
  · by_cases h2 : taken + (n + 55) / 56 ≤ m / 2
    · exact .inl ⟨⟨h1.1, h1.2, h2⟩, lg_add_ok hd hl h1 hr hB (rd_away hr h1.1 hp hq) hb hnc hc hk8 h2⟩
    · exact .inr ⟨fun h => h2 h.2.2, 5, .inr ⟨rfl, h1⟩, lg_add_full hd hl h1 (by omega)⟩
  · exact .inr ⟨fun h => h1 ⟨h.1, h.2.1⟩, 1, .inl ⟨rfl, h1⟩, lg_add_arg hd hl h1 (by unfold maxLen at hc; omega)⟩
theorem lg_comp_case (hd : DK w p q m k half turn taken l) (hl : LogAt w lb p half turn taken) (hr : Rd w B 1 A n (b.map bv)) (hB : B ≤ w.heap.size) (hp : B ≤ p) (hq : B ≤ q) (hb : ∀ x ∈ b, x < 256) (hnc : n ≤ c) (hc : c ≤ maxLen) (hk8 : k + 8 < 1000000) (ht : turn < 65535) :
    CompFits m n ∧ Calls Try.prog 11 #[.pointer (some ⟨lb, 0, none⟩), .slice A n c] w (StepL p q lb m (k + 8) (1 - half) (turn + 1) ((n + 55) / 56) [b] w 0) ∨
    ¬ CompFits m n ∧ ∃ en : Nat, (en = 1 ∧ ¬ (1 ≤ n ∧ n ≤ 448) ∨ en = 5 ∧ 1 ≤ n ∧ n ≤ 448) ∧ Calls Try.prog 11 #[.pointer (some ⟨lb, 0, none⟩), .slice A n c] w (StepL p q lb m k half turn taken l w en) := by
  by_cases h1 : 1 ≤ n ∧ n ≤ 448
  · by_cases h2 : (n + 55) / 56 ≤ m / 2
    · exact .inl ⟨⟨h1.1, h1.2, h2⟩, lg_comp_ok hd hl h1 hr hB (rd_away hr h1.1 hp hq) hb hnc hc hk8 h2 ht⟩
    · exact .inr ⟨fun h => h2 h.2.2, 5, .inr ⟨rfl, h1⟩, lg_comp_full hd hl h1 (by omega)⟩
  · exact .inr ⟨fun h => h1 ⟨h.1, h.2.1⟩, 1, .inl ⟨rfl, h1⟩, lg_comp_arg hd hl h1 (by unfold maxLen at hc; omega)⟩
theorem en_ne {en : Nat} {P Q : Prop} (h : en = 1 ∧ P ∨ en = 5 ∧ Q) : ((en : Int) == 0) = false := by
  rw [beq_eq_false_iff_ne]
  rcases h with ⟨rfl, _⟩ | ⟨rfl, _⟩ <;> omega
theorem lg_room_of {half' turn' taken' : Nat} (r : Int) (hd : DK w p q m k half turn taken l) (hl : LogAt w lb p half' turn' taken') (ht : taken' ≤ m / 2) (hr : ((m / 2 : Nat) : Int) - (taken' : Int) = r) :
    Calls Try.prog 14 #[.pointer (some ⟨lb, 0, none⟩)] w fun e w' => e = .returned (.int .i64 r) ∧ Below w.heap.size w w' := by
  have hm1 := hd.m1
  obtain ⟨d, h1, h2, hm, hk⟩ := hd
  refine (room_any _ p q lb half' turn' taken' d w h1 hl (by omega)).mono ?_
  rintro e w' ⟨he, hb⟩
  refine ⟨?_, hb⟩
  rw [he, hm, hr]
end
/-- three blocks that are new -/
theorem three_new {p q lb B : Nat} (hp : B ≤ p) (hq : B ≤ q) (hl : B ≤ lb) : ∀ k, three p q lb k → B ≤ k := by
  rintro k (rfl | rfl | rfl) <;> assumption
/-- the state of a statement's loop over calls -/
structure LgS (w wr : World) (p q lb base m k half turn taken : Nat) (hv : Value) (L : List (List Nat)) : Prop where
  bel : Below w.heap.size w wr
  dk : DK wr p q m k half turn taken L
  at_ : LogAt wr lb p half turn taken
  hv : HvOk wr base w.heap.size hv L
  bp : w.heap.size ≤ p ∧ w.heap.size ≤ q ∧ w.heap.size ≤ lb
  sp : p < base ∧ q < base ∧ lb < base ∧ base ≤ wr.heap.size
theorem LgS.step {w wr w' : World} {p q lb base m k half turn taken k' half' turn' taken' : Nat} {hv : Value} {L : List (List Nat)} {L' : List (List Nat)} (h : LgS w wr p q lb base m k half turn taken hv L) (hd : DK w' p q m k' half' turn' taken' L') (hl : LogAt w' lb p half' turn' taken') (hc : Chg (three p q lb) wr w') :
    Below w.heap.size w w' ∧ HvOk w' base w.heap.size hv L ∧ base ≤ w'.heap.size :=
  ⟨h.bel.trans (hc.below h.bel.size (three_new h.bp.1 h.bp.2.1 h.bp.2.2)), h.hv.chg3 h.dk h.at_ hc h.bp.1 h.bp.2.1 h.bp.2.2, Nat.le_trans h.sp.2.2.2 hc.size⟩
theorem LgS.same {w wr w' : World} {p q lb base m k half turn taken k' : Nat} {hv : Value} {L : List (List Nat)} (h : LgS w wr p q lb base m k half turn taken hv L) (hd : DK w' p q m k' half turn taken L) (hl : LogAt w' lb p half turn taken) (hc : Chg (three p q lb) wr w') :
    LgS w w' p q lb base m k' half turn taken hv L := by
  obtain ⟨a, b, c⟩ := h.step hd hl hc
  exact ⟨a, hd, hl, b, h.bp, h.sp.1, h.sp.2.1, h.sp.2.2.1, c⟩
theorem LgS.app {w wr w' w'' : World} {p q lb base m k half turn taken k' half' turn' taken' : Nat} {hv hv' : Value} {L L' : List (List Nat)} (h : LgS w wr p q lb base m k half turn taken hv L) (hd : DK w' p q m k' half' turn' taken' L') (hl : LogAt w' lb p half' turn' taken') (hc : Chg (three p q lb) wr w')
    (hh : HvOk w'' base w.heap.size hv' L') (hb : Below base w' w'') : LgS w w'' p q lb base m k' half' turn' taken' hv' L' := by
  obtain ⟨a, b, c⟩ := h.step hd hl hc
  have s1 := h.sp.1
  have s2 := h.sp.2.1
  have s3 := h.sp.2.2.1
  have hp := h.bp.1
  exact ⟨a.trans (hb.mono (by omega)), hd.keep (hb.block _ s1) (hb.block _ s2), hl.keep (hb.block _ s3), hh, h.bp, s1, s2, s3, Nat.le_trans c hb.size⟩
theorem LgS.below {w wr w' : World} {p q lb base m k half turn taken : Nat} {hv : Value} {L : List (List Nat)} (h : LgS w wr p q lb base m k half turn taken hv L) (hb : Below wr.heap.size wr w') : LgS w w' p q lb base m k half turn taken hv L :=
  ⟨h.bel.trans (hb.mono h.bel.size), h.dk.below hb, h.at_.below hb, h.hv.below hb h.bel.size, h.bp, h.sp.1, h.sp.2.1, h.sp.2.2.1, Nat.le_trans h.sp.2.2.2 hb.size⟩
end Go.Proofs.Ytefmeifamapdcaa
