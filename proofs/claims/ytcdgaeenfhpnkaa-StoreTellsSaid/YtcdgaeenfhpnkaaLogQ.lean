/- Package log: a disk in memory that holds a log's records; Open, Add, Compact told by the records alone. -/
import Derived.Test.YtcdgaeenfhpnkaaLogP
set_option linter.unusedVariables false
set_option linter.unusedSimpArgs false
set_option maxRecDepth 100000
namespace Go.Proofs.Ytcdgaeenfhpnkaa
open Go Go.RowKit CrcMath
attribute [local go_sem] Oper.semAt_some

/-- all blocks but the disk's -/
def DKU (w : World) (p q k : Nat) : Prop := k < w.heap.size ∧ k ≠ p ∧ k ≠ q
/-- the disk at p, q: m sectors, no more than k writes, these records -/
def DK (w : World) (p q m k half turn taken : Nat) (l : List (List Nat)) : Prop := ∃ d : DD, HD w (DKU w p q) p q d ∧ LP d half turn taken l ∧ d.L.length = m ∧ d.writes ≤ k
section
variable {w w' : World} {U X Y : Nat → Prop} {p q m k half turn taken lb : Nat} {l : List (List Nat)} {d : DD}
theorem DK.of (h : HD w' U p q d) (hl : LP d half turn taken l) (hm : d.L.length = m) (hk : d.writes ≤ k) : DK w' p q m k half turn taken l := by
  obtain ⟨c, h⟩ := h
  exact ⟨d, ⟨c, ⟨h.ok, fun x hx => hx.1, h.pq, fun hx => hx.2.1 rfl, fun hx => hx.2.2 rfl, h.hp, h.hq, fun a b e => by rw [hl.cut] at e; cases e⟩⟩, hl, hm, hk⟩
theorem DK.keep (h : DK w p q m k half turn taken l) (hp : w'.heap[p]? = w.heap[p]?) (hq : w'.heap[q]? = w.heap[q]?) : DK w' p q m k half turn taken l := by
  obtain ⟨d, ⟨c, h⟩, hl, hm, hk⟩ := h
  exact ⟨d, ⟨c, ⟨h.ok, fun x hx => hx.1, h.pq, fun hx => hx.2.1 rfl, fun hx => hx.2.2 rfl, hp.trans h.hp, hq.trans h.hq, fun a b e => by rw [hl.cut] at e; cases e⟩⟩, hl, hm, hk⟩
theorem DK.pl (h : DK w p q m k half turn taken l) : p < w.heap.size := by
  obtain ⟨d, ⟨c, h⟩, _⟩ := h
  exact (Array.getElem?_eq_some_iff.1 h.hp).1
theorem DK.ql (h : DK w p q m k half turn taken l) : q < w.heap.size := by
  obtain ⟨d, ⟨c, h⟩, _⟩ := h
  exact (Array.getElem?_eq_some_iff.1 h.hq).1
theorem DK.below (h : DK w p q m k half turn taken l) (hb : Below w.heap.size w w') : DK w' p q m k half turn taken l := h.keep (hb.block p h.pl) (hb.block q h.ql)
theorem DK.more {k' : Nat} (h : DK w p q m k half turn taken l) (hk : k ≤ k') : DK w p q m k' half turn taken l := by
  obtain ⟨d, h1, h2, h3, h4⟩ := h
  exact ⟨d, h1, h2, h3, Nat.le_trans h4 hk⟩
theorem DK.half1 (h : DK w p q m k half turn taken l) : half ≤ 1 := by obtain ⟨d, _, h, _⟩ := h; exact h.h1
theorem DK.turn0 (h : DK w p q m k half turn taken l) : 0 < turn := by obtain ⟨d, _, h, _⟩ := h; exact h.t0
theorem DK.turn1 (h : DK w p q m k half turn taken l) : turn < 65536 := by obtain ⟨d, _, h, _⟩ := h; exact h.t1
theorem DK.m1 (h : DK w p q m k half turn taken l) : 1 ≤ m ∧ m ≤ 256 := by obtain ⟨d, ⟨c, h⟩, _, hm, _⟩ := h; have := h.ok.2.1; have := h.ok.2.2.1; omega
theorem DK.room (h : DK w p q m k half turn taken l) : taken ≤ m / 2 := by obtain ⟨d, _, h, hm, _⟩ := h; have := h.room; rwa [hm] at this
theorem DK.fine (h : DK w p q m k half turn taken l) : ∀ b ∈ l, fineB b := by obtain ⟨d, _, h, _⟩ := h; exact h.fine
theorem DK.lp_ne (h : DK w p q m k half turn taken l) (hl : LogAt w lb p half turn taken) : lb ≠ p := by
  rintro rfl
  obtain ⟨d, ⟨c, h⟩, _⟩ := h
  have h1 := h.hp
  rw [show w.heap[lb]? = _ from hl] at h1
  injection h1 with h1
  injection h1 with _ h2
  exact absurd h2 (by decide)
theorem DK.lq_ne (h : DK w p q m k half turn taken l) (hl : LogAt w lb p half turn taken) : lb ≠ q := by
  rintro rfl
  obtain ⟨d, ⟨c, h⟩, _⟩ := h
  have h1 := h.hq
  rw [show w.heap[lb]? = _ from hl] at h1
  injection h1 with h1
  injection h1 with _ h2
  exact absurd h2 (by decide)
theorem LogAt.lt (hl : LogAt w lb p half turn taken) : lb < w.heap.size := (Array.getElem?_eq_some_iff.1 hl).1
theorem LogAt.keep (hl : LogAt w lb p half turn taken) (h : w'.heap[lb]? = w.heap[lb]?) : LogAt w' lb p half turn taken := h.trans hl

/-- nothing has turned but blocks that X names, and what is new -/
def Chg (X : Nat → Prop) (w w' : World) : Prop := Kept (fun k => k < w.heap.size ∧ ¬ X k) w w'
theorem Chg.refl (X : Nat → Prop) (w : World) : Chg X w w := Kept.refl _ _
theorem Chg.trans {a b c : World} (h : Chg X a b) (h' : Chg X b c) : Chg X a c :=
  ⟨h'.os.trans h.os, h'.tape.trans h.tape, h'.output.trans h.output, Nat.le_trans h.size h'.size, fun i hi => (h'.block i ⟨Nat.lt_of_lt_of_le hi.1 h.size, hi.2⟩).trans (h.block i hi)⟩
theorem Chg.mono (h : Chg X w w') (hx : ∀ k, X k → Y k) : Chg Y w w' := ⟨h.os, h.tape, h.output, h.size, fun i hi => h.block i ⟨hi.1, fun hk => hi.2 (hx _ hk)⟩⟩
theorem Chg.of (h : Below w.heap.size w w') : Chg X w w' := ⟨h.os, h.tape, h.output, h.size, fun i hi => h.block i hi.1⟩
theorem Chg.below {B : Nat} (h : Chg X w w') (hB : B ≤ w.heap.size) (hX : ∀ k, X k → B ≤ k) : Below B w w' := ⟨h.os, h.tape, h.output, h.size, fun i hi => h.block i ⟨by omega, fun hk => by have := hX _ hk; omega⟩⟩
theorem Chg.grown {row : Option Nat} (hg : w.grownBy w' row) (hX : ∀ g, row = some g → X g) : Chg X w w' :=
  ⟨hg.os, hg.tape, hg.output, hg.size, fun i hi => hg.block i hi.1 (fun e => hi.2 (hX _ e.symm))⟩
theorem Chg.at_ (h : Chg X w w') {i : Nat} (hi : i < w.heap.size) (hx : ¬ X i) : w'.heap[i]? = w.heap[i]? := h.block i ⟨hi, hx⟩
def three (p q lb k : Nat) : Prop := k = p ∨ k = q ∨ k = lb
end

theorem lg_new (w : World) (m : Int) : Calls Try.prog 15 #[.int .i64 m] w fun e w' =>
    e = .returned (.pointer (some ⟨w.heap.size + 1, 0, none⟩)) ∧ DK w' (w.heap.size + 1) w.heap.size (min (max m 1) 256).toNat 0 0 1 0 [] ∧ Below w.heap.size w w' := by
  refine (new_any (fun k => k < w.heap.size) w m (fun k hk => hk)).mono ?_
  rintro e w' ⟨he, hd, hb⟩
  exact ⟨he, DK.of hd (LP.fresh m) (by simp [DD.fresh]) (Nat.le_refl _), hb⟩
/-- what Open answers -/
def OpenL (p q m k half turn taken : Nat) (l : List (List Nat)) (w : World) (e : Ending) (w' : World) : Prop :=
  ∃ v, e = .returned (.tuple #[.pointer (some ⟨w.heap.size, 0, none⟩), v, .int .i64 0]) ∧ OutOk w' (w.heap.size + 1) w'.heap.size v l ∧ LogAt w' w.heap.size p half turn taken ∧ DK w' p q m k half turn taken l ∧ Below w.heap.size w w'
theorem lg_open {p q m k half turn taken : Nat} {l : List (List Nat)} {w : World} (h : DK w p q m k half turn taken l) :
    Calls Try.prog 48 #[.pointer (some ⟨p, 0, none⟩)] w (OpenL p q m k half turn taken l w) := by
  have h0 := h
  obtain ⟨d, hd, hl, hm, hk⟩ := h
  refine (open_up _ p q d w hd hl.up).mono ?_
  rintro e w' ⟨v, he, ho, hlg, hb⟩
  rw [hl.opens] at ho hlg
  exact ⟨v, he, ho, hlg, h0.below hb, hb⟩
def StepL (p q lb m k half turn taken : Nat) (l : List (List Nat)) (w : World) (en : Nat) (e : Ending) (w' : World) : Prop :=
  e = .returned (.int .i64 en) ∧ DK w' p q m k half turn taken l ∧ LogAt w' lb p half turn taken ∧ Chg (three p q lb) w w'
section
variable {p q lb m k half turn taken n c B : Nat} {A : Option Addr} {b : List Nat} {l : List (List Nat)} {w : World}
theorem kept3 {w w' : World} (h : Kept (fun k => DKU w p q k ∧ k ≠ lb) w w') : Chg (three p q lb) w w' :=
  h.mono fun k hk => ⟨⟨hk.1, fun e => hk.2 (.inl e), fun e => hk.2 (.inr (.inl e))⟩, fun e => hk.2 (.inr (.inr e))⟩
theorem lg_add_arg (hd : DK w p q m k half turn taken l) (hl : LogAt w lb p half turn taken) (hn : ¬ (1 ≤ n ∧ n ≤ 448)) (hn2 : n ≤ 9223372036854775807) :
    Calls Try.prog 51 #[.pointer (some ⟨lb, 0, none⟩), .slice A n c] w (StepL p q lb m k half turn taken l w 1) := by
  obtain ⟨d, h1, h2, hm, hk⟩ := hd
  refine (add_arg _ p q lb half turn taken n c A d w h1 hl hn hn2).mono ?_
  rintro e w' ⟨he, hd', hl', hk'⟩
  exact ⟨he, DK.of hd' h2 hm hk, hl', kept3 hk'⟩
theorem lg_add_full (hd : DK w p q m k half turn taken l) (hl : LogAt w lb p half turn taken) (hn : 1 ≤ n ∧ n ≤ 448) (hf : m / 2 < taken + (n + 55) / 56) :
    Calls Try.prog 51 #[.pointer (some ⟨lb, 0, none⟩), .slice A n c] w (StepL p q lb m k half turn taken l w 5) := by
  have hr := hd.room
  have hm1 := hd.m1
  obtain ⟨d, h1, h2, hm, hk⟩ := hd
  refine (add_full _ p q lb half turn taken n c A d w h1 hl (by omega) hn (by rw [hm]; exact hf)).mono ?_
  rintro e w' ⟨he, hd', hl', hk'⟩
  exact ⟨he, DK.of hd' h2 hm hk, hl', kept3 hk'⟩
theorem lg_add_ok (hd : DK w p q m k half turn taken l) (hl : LogAt w lb p half turn taken) (hn : 1 ≤ n ∧ n ≤ 448) (hr : Rd w B 1 A n (b.map bv)) (hB : B ≤ w.heap.size) (hA : ∀ g o, A = some ⟨g, o, none⟩ → g ≠ p ∧ g ≠ q) (hb : ∀ x ∈ b, x < 256)
    (hnc : n ≤ c) (hc : c ≤ maxLen) (hk8 : k + 8 < 1000000) (hf : taken + (n + 55) / 56 ≤ m / 2) :
    Calls Try.prog 51 #[.pointer (some ⟨lb, 0, none⟩), .slice A n c] w (StepL p q lb m (k + 8) half turn (taken + (n + 55) / 56) (l ++ [b]) w 0) := by
  have hroom := hd.room
  have hm1 := hd.m1
  have hlp := hd.lp_ne hl
  have hlq := hd.lq_ne hl
  obtain ⟨d, h1, h2, hm, hk⟩ := hd
  have hbl : b.length = n := by have := hr.1; simpa using this
  have hnb : needsN b = (n + 55) / 56 := by rw [needsN, hbl]
  obtain ⟨g, o, rfl, hg, _⟩ := hr.2 (by omega)
  obtain ⟨hgp, hgq⟩ := hA g o rfl
  obtain ⟨d', hw, hlp', hwr, hlen⟩ := h2.add b ⟨by omega, by omega, hb⟩ (by rw [hm, hnb]; exact hf)
  have := add_go _ p q lb half turn taken g o n c b d w h1 hl ⟨hl.lt, hlp, hlq⟩ (by omega) h2.h1 h2.t1 hn (hr.more hB) ⟨by omega, hgp, hgq⟩ hb hnc hc (by omega) (by rw [hm]; omega) 0 d' hw
  rw [if_pos rfl] at this
  refine this.mono ?_
  rintro e w' ⟨he, hd', hl', hk'⟩
  simp only [hnb] at hd' hl' hlp'
  exact ⟨he, DK.of hd' hlp' (hlen.trans hm) (by omega), hl', kept3 hk'⟩
theorem lg_comp_arg (hd : DK w p q m k half turn taken l) (hl : LogAt w lb p half turn taken) (hn : ¬ (1 ≤ n ∧ n ≤ 448)) (hn2 : n ≤ 9223372036854775807) :
    Calls Try.prog 52 #[.pointer (some ⟨lb, 0, none⟩), .slice A n c] w (StepL p q lb m k half turn taken l w 1) := by
  obtain ⟨d, h1, h2, hm, hk⟩ := hd
  refine (comp_arg _ p q lb half turn taken n c A d w h1 hl hn hn2).mono ?_
  rintro e w' ⟨he, hd', hl', hk'⟩
  exact ⟨he, DK.of hd' h2 hm hk, hl', kept3 hk'⟩
theorem lg_comp_full (hd : DK w p q m k half turn taken l) (hl : LogAt w lb p half turn taken) (hn : 1 ≤ n ∧ n ≤ 448) (hf : m / 2 < (n + 55) / 56) :
    Calls Try.prog 52 #[.pointer (some ⟨lb, 0, none⟩), .slice A n c] w (StepL p q lb m k half turn taken l w 5) := by
  obtain ⟨d, h1, h2, hm, hk⟩ := hd
  refine (comp_full _ p q lb half turn taken n c A d w h1 hl hn (.inl (by rw [hm]; exact hf))).mono ?_
  rintro e w' ⟨he, hd', hl', hk'⟩
  exact ⟨he, DK.of hd' h2 hm hk, hl', kept3 hk'⟩
theorem lg_comp_ok (hd : DK w p q m k half turn taken l) (hl : LogAt w lb p half turn taken) (hn : 1 ≤ n ∧ n ≤ 448) (hr : Rd w B 1 A n (b.map bv)) (hB : B ≤ w.heap.size) (hA : ∀ g o, A = some ⟨g, o, none⟩ → g ≠ p ∧ g ≠ q) (hb : ∀ x ∈ b, x < 256)
    (hnc : n ≤ c) (hc : c ≤ maxLen) (hk8 : k + 8 < 1000000) (hf : (n + 55) / 56 ≤ m / 2) (ht : turn < 65535) :
    Calls Try.prog 52 #[.pointer (some ⟨lb, 0, none⟩), .slice A n c] w (StepL p q lb m (k + 8) (1 - half) (turn + 1) ((n + 55) / 56) [b] w 0) := by
  have hlp := hd.lp_ne hl
  have hlq := hd.lq_ne hl
  obtain ⟨d, h1, h2, hm, hk⟩ := hd
  have hbl : b.length = n := by have := hr.1; simpa using this
  have hnb : needsN b = (n + 55) / 56 := by rw [needsN, hbl]
  obtain ⟨g, o, rfl, hg, _⟩ := hr.2 (by omega)
  obtain ⟨hgp, hgq⟩ := hA g o rfl
  obtain ⟨d', hw, hlp', hwr, hlen⟩ := h2.comp b ⟨by omega, by omega, hb⟩ (by rw [hm, hnb]; exact hf) ht
  have := comp_go _ p q lb half turn taken g o n c b d w h1 hl ⟨hl.lt, hlp, hlq⟩ h2.h1 ht hn (hr.more hB) ⟨by omega, hgp, hgq⟩ hb hnc hc (by omega) (by rw [hm]; omega) 0 d' hw
  rw [if_pos rfl] at this
  refine this.mono ?_
  rintro e w' ⟨he, hd', hl', hk'⟩
  simp only [hnb] at hd' hl' hlp'
  exact ⟨he, DK.of hd' hlp' (hlen.trans hm) (by omega), hl', kept3 hk'⟩
theorem lg_room (hd : DK w p q m k half turn taken l) (hl : LogAt w lb p half turn taken) :
    Calls Try.prog 73 #[.pointer (some ⟨lb, 0, none⟩)] w fun e w' => e = .returned (.int .i64 ((m / 2 - taken : Nat) : Int)) ∧ Below w.heap.size w w' := by
  have hroom := hd.room
  have hm1 := hd.m1
  obtain ⟨d, h1, h2, hm, hk⟩ := hd
  refine (room_any _ p q lb half turn taken d w h1 hl (by omega)).mono ?_
  rintro e w' ⟨he, hb⟩
  refine ⟨?_, hb⟩
  rw [he, hm]
  exact ret_int (by omega)
end
end Go.Proofs.Ytcdgaeenfhpnkaa
