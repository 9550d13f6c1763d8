/- Package log: a disk in memory that holds a log's records; Open, Add, Compact told by the records alone. -/
import Derived.Test.YtcdgaeenfhpnkaaPk14
set_option linter.unusedVariables false
set_option linter.unusedSimpArgs false
set_option maxRecDepth 100000
namespace Go.Proofs.Ytcdgaeenfhpnkaa
open Go Go.RowKit CrcMath
attribute [local go_sem] Oper.semAt_some

/-- all blocks but the disk's -/
def DKU (w : World) (p q k : Nat) : Prop := k < w.heap.size ∧ k ≠ p ∧ k ≠ q
/-- the disk at p, q: m sectors, no more than k writes, these records -/
def DK (w : World) (p q m k half turn taken : Nat) (l : List (List Nat)) : Prop := ∃ d : DD, HD w (DKU w p q) p q d ∧ LP d half turn taken l ∧ d.L.length = m ∧ d.writes ≤ k
section
variable {w w' : World} {U X Y : Nat → Prop} {p q m k half turn taken lb : Nat} {l : List (List Nat)} {d : DD}
theorem DK.of (h : HD w' U p q d) (hl : LP d half turn taken l) (hm : d.L.length = m) (hk : d.writes ≤ k) : DK w' p q m k half turn taken l := by
  obtain ⟨c, h⟩ := h
  exact ⟨d, ⟨c, ⟨h.ok, fun x hx => hx.1, h.pq, fun hx => hx.2.1 rfl, fun hx => hx.2.2 rfl, h.hp, h.hq, fun a b e => by rw [hl.cut] at e; cases e⟩⟩, hl, hm, hk⟩
theorem DK.keep (h : DK w p q m k half turn taken l) (hp : w'.heap[p]? = w.heap[p]?) (hq : w'.heap[q]? = w.heap[q]?) : DK w' p q m k half turn taken l := by
  obtain ⟨d, ⟨c, h⟩, hl, hm, hk⟩ := h
  exact ⟨d, ⟨c, ⟨h.ok, fun x hx => hx.1, h.pq, fun hx => hx.2.1 rfl, fun hx => hx.2.2 rfl, hp.trans h.hp, hq.trans h.hq, fun a b e => by rw [hl.cut] at e; cases e⟩⟩, hl, hm, hk⟩
theorem DK.pl (h : DK w p q m k half turn taken l) : p < w.heap.size := by
  obtain ⟨d, ⟨c, h⟩, _⟩ := h
  exact (Array.getElem?_eq_some_iff.1 h.hp).1
theorem DK.ql (h : DK w p q m k half turn taken l) : q < w.heap.size := by
  obtain ⟨d, ⟨c, h⟩, _⟩ := h
  exact (Array.getElem?_eq_some_iff.1 h.hq).1
theorem DK.below (h : DK w p q m k half turn taken l) (hb : Below w.heap.size w w') : DK w' p q m k half turn taken l := h.keep (hb.block p h.pl) (hb.block q h.ql)
theorem DK.more {k' : Nat} (h : DK w p q m k half turn taken l) (hk : k ≤ k') : DK w p q m k' half turn taken l := by
  obtain ⟨d, h1, h2, h3, h4⟩ := h
  exact ⟨d, h1, h2, h3, Nat.le_trans h4 hk⟩
theorem DK.half1 (h : DK w p q m k half turn taken l) : half ≤ 1 := by obtain ⟨d, _, h, _⟩ := h; exact h.h1
theorem DK.turn0 (h : DK w p q m k half turn taken l) : 0 < turn := by obtain ⟨d, _, h, _⟩ := h; exact h.t0
theorem DK.turn1 (h : DK w p q m k half turn taken l) : turn < 65536 := by obtain ⟨d, _, h, _⟩ := h; exact h.t1
theorem DK.m1 (h : DK w p q m k half turn taken l) : 1 ≤ m ∧ m ≤ 256 := by obtain ⟨d, ⟨c, h⟩, _, hm, _⟩ := h; have := h.ok.2.1; have := h.ok.2.2.1; omega
theorem DK.room (h : DK w p q m k half turn taken l) : taken ≤ m / 2 := by obtain ⟨d, _, h, hm, _⟩ := h; have := h.room; rwa [hm] at this
theorem DK.fine (h : DK w p q m k half turn taken l) : ∀ b ∈ l, fineB b := by obtain ⟨d, _, h, _⟩ := h; exact h.fine
theorem DK.lp_ne (h : DK w p q m k half turn taken l) (hl : LogAt w lb p half turn taken) : lb ≠ p := by
  rintro rfl
  obtain ⟨d, ⟨c, h⟩, _⟩ := h
  have h1 := h.hp
  rw [show w.heap[lb]? = _ from hl] at h1
  injection h1 with h1
  injection h1 with _ h2
  exact absurd h2 (by decide)
theorem DK.lq_ne (h : DK w p q m k half turn taken l) (hl : LogAt w lb p half turn taken) : lb ≠ q := by
  rintro rfl
  obtain ⟨d, ⟨c, h⟩, _⟩ := h
  have h1 := h.hq
  rw [show w.heap[lb]? = _ from hl] at h1
  injection h1 with h1
  injection h1 with _ h2
  exact absurd h2 (by decide)
theorem LogAt.lt (hl : LogAt w lb p half turn taken) : lb < w.heap.size := (Array.getElem?_eq_some_iff.1 hl).1
theorem LogAt.keep (hl : LogAt w lb p half turn taken) (h : w'.heap[lb]? = w.heap[lb]?) : LogAt w' lb p half turn taken := h.trans hl

/-- nothing has turned but blocks that X names, and what is new -/
def Chg (X : Nat → Prop) (w w' : World) : Prop := Kept (fun k => k < w.heap.size ∧ ¬ X k) w w'
theorem Chg.refl (X : Nat → Prop) (w : World) : Chg X w w := Kept.refl _ _
theorem Chg.trans {a b c : World} (h : Chg X a b) (h' : Chg X b c) : Chg X a c :=
  ⟨h'.os.trans h.os, h'.tape.trans h.tape, h'.output.trans h.output, Nat.le_trans h.size h'.size, fun i hi => (h'.block i ⟨Nat.lt_of_lt_of_le hi.1 h.size, hi.2⟩).trans (h.block i hi)⟩
theorem Chg.mono (h : Chg X w w') (hx : ∀ k, X k → Y k) : Chg Y w w' := ⟨h.os, h.tape, h.output, h.size, fun i hi => h.block i ⟨hi.1, fun hk => hi.2 (hx _ hk)⟩⟩
theorem Chg.of (h : Below w.heap.size w w') : Chg X w w' := ⟨h.os, h.tape, h.output, h.size, fun i hi => h.block i hi.1⟩
theorem Chg.below {B : Nat} (h : Chg X w w') (hB : B ≤ w.heap.size) (hX : ∀ k, X k → B ≤ k) : Below B w w' := ⟨h.os, h.tape, h.output, h.size, fun i hi => h.block i ⟨by omega, fun hk => by have := hX _ hk; omega⟩⟩
theorem Chg.grown {row : Option Nat} (hg : w.grownBy w' row) (hX : ∀ g, row = some g → X g) : Chg X w w' :=
  ⟨hg.os, hg.tape, hg.output, hg.size, fun i hi => hg.block i hi.1 (fun e => hi.2 (hX _ e.symm))⟩
theorem Chg.at_ (h : Chg X w w') {i : Nat} (hi : i < w.heap.size) (hx : ¬ X i) : w'.heap[i]? = w.heap[i]? := h.block i ⟨hi, hx⟩
def three (p q lb k : Nat) : Prop := k = p ∨ k = q ∨ k = lb
end

theorem lg_new (w : World) (m : Int) : Calls Try.prog 15 #[.int .i64 m] w fun e w' =>
    e = .returned (.pointer (some ⟨w.heap.size + 1, 0, none⟩)) ∧ DK w' (w.heap.size + 1) w.heap.size (min (max m 1) 256).toNat 0 0 1 0 [] ∧ Below w.heap.size w w' := by
  refine (new_any (fun k => k < w.heap.size) w m (fun k hk => hk)).mono ?_
  rintro e w' ⟨he, hd, hb⟩
  exact ⟨he, DK.of hd (LP.fresh m) (by simp [DD.fresh]) (Nat.le_refl _), hb⟩
/-- what Open answers -/
def OpenL (p q m k half turn taken : Nat) (l : List (List Nat)) (w : World) (e : Ending) (w' : World) : Prop :=
  ∃ v, e = .returned (.tuple #[.pointer (some ⟨w.heap.size, 0, none⟩), v, .int .i64 0]) ∧ OutOk w' (w.heap.size + 1) w'.heap.size v l ∧ LogAt w' w.heap.size p half turn taken ∧ DK w' p q m k half turn taken l ∧ Below w.heap.size w w'
theorem lg_open {p q m k half turn taken : Nat} {l : List (List Nat)} {w : World} (h : DK w p q m k half turn taken l) :
    Calls Try.prog 48 #[.pointer (some ⟨p, 0, none⟩)] w (OpenL p q m k half turn taken l w) := by
  have h0 := h
  obtain ⟨d, hd, hl, hm, hk⟩ := h
  refine (open_up _ p q d w hd hl.up).mono ?_
  rintro e w' ⟨v, he, ho, hlg, hb⟩
  rw [hl.opens] at ho hlg
  exact ⟨v, he, ho, hlg, h0.below hb, hb⟩
def StepL (p q lb m k half turn taken : Nat) (l : List (List Nat)) (w : World) (en : Nat) (e : Ending) (w' : World) : Prop :=
  e = .returned (.int .i64 en) ∧ DK w' p q m k half turn taken l ∧ LogAt w' lb p half turn taken ∧ Chg (three p q lb) w w'
section
variable {p q lb m k half turn taken n c B : Nat} {A : Option Addr} {b : List Nat} {l : List (List Nat)} {w : World}
theorem kept3 {w w' : World} (h : Kept (fun k => DKU w p q k ∧ k ≠ lb) w w') : Chg (three p q lb) w w' :=
  h.mono fun k hk => ⟨⟨hk.1, fun e => hk.2 (.inl e), fun e => hk.2 (.inr (.inl e))⟩, fun e => hk.2 (.inr (.inr e))⟩
theorem lg_add_arg (hd : DK w p q m k half turn taken l) (hl : LogAt w lb p half turn taken) (hn : ¬ (1 ≤ n ∧ n ≤ 448)) (hn2 : n ≤ 9223372036854775807) :
    Calls Try.prog 51 #[.pointer (some ⟨lb, 0, none⟩), .slice A n c] w (StepL p q lb m k half turn taken l w 1) := by
  obtain ⟨d, h1, h2, hm, hk⟩ := hd
  refine (add_arg _ p q lb half turn taken n c A d w h1 hl hn hn2).mono ?_
  rintro e w' ⟨he, hd', hl', hk'⟩
  exact ⟨he, DK.of hd' h2 hm hk, hl', kept3 hk'⟩
theorem lg_add_full (hd : DK w p q m k half turn taken l) (hl : LogAt w lb p half turn taken) (hn : 1 ≤ n ∧ n ≤ 448) (hf : m / 2 < taken + (n + 55) / 56) :
    Calls Try.prog 51 #[.pointer (some ⟨lb, 0, none⟩), .slice A n c] w (StepL p q lb m k half turn taken l w 5) := by
  have hr := hd.room
  have hm1 := hd.m1
  obtain ⟨d, h1, h2, hm, hk⟩ := hd
  refine (add_full _ p q lb half turn taken n c A d w h1 hl (by omega) hn (by rw [hm]; exact hf)).mono ?_
  rintro e w' ⟨he, hd', hl', hk'⟩
  exact ⟨he, DK.of hd' h2 hm hk, hl', kept3 hk'⟩
theorem lg_add_ok (hd : DK w p q m k half turn taken l) (hl : LogAt w lb p half turn taken) (hn : 1 ≤ n ∧ n ≤ 448) (hr : Rd w B 1 A n (b.map bv)) (hB : B ≤ w.heap.size) (hA : ∀ g o, A = some ⟨g, o, none⟩ → g ≠ p ∧ g ≠ q) (hb : ∀ x ∈ b, x < 256)
    (hnc : n ≤ c) (hc : c ≤ maxLen) (hk8 : k + 8 < 1000000) (hf : taken + (n + 55) / 56 ≤ m / 2) :
    Calls Try.prog 51 #[.pointer (some ⟨lb, 0, none⟩), .slice A n c] w (StepL p q lb m (k + 8) half turn (taken + (n + 55) / 56) (l ++ [b]) w 0) := by
  have hroom := hd.room
  have hm1 := hd.m1
  have hlp := hd.lp_ne hl
  have hlq := hd.lq_ne hl
  obtain ⟨d, h1, h2, hm, hk⟩ := hd
  have hbl : b.length = n := by have := hr.1; simpa using this
  have hnb : needsN b = (n + 55) / 56 := by rw [needsN, hbl]
  obtain ⟨g, o, rfl, hg, _⟩ := hr.2 (by omega)
  obtain ⟨hgp, hgq⟩ := hA g o rfl
  obtain ⟨d', hw, hlp', hwr, hlen⟩ := h2.add b ⟨by omega, by omega, hb⟩ (by rw [hm, hnb]; exact hf)
  have := add_go _ p q lb half turn taken g o n c b d w h1 hl ⟨hl.lt, hlp, hlq⟩ (by omega) h2.h1 h2.t1 hn (hr.more hB) ⟨by omega, hgp, hgq⟩ hb hnc hc (by omega) (by rw [hm]; omega) 0 d' hw
  rw [if_pos rfl] at this
  refine this.mono ?_
  rintro e w' ⟨he, hd', hl', hk'⟩
  simp only [hnb] at hd' hl' hlp'
  exact ⟨he, DK.of hd' hlp' (hlen.trans hm) (by omega), hl', kept3 hk'⟩
theorem lg_comp_arg (hd : DK w p q m k half turn taken l) (hl : LogAt w lb p half turn taken) (hn : ¬ (1 ≤ n ∧ n ≤ 448)) (hn2 : n ≤ 9223372036854775807) :
    Calls Try.prog 52 #[.pointer (some ⟨lb, 0, none⟩), .slice A n c] w (StepL p q lb m k half turn taken l w 1) := by
  obtain ⟨d, h1, h2, hm, hk⟩ := hd
  refine (comp_arg _ p q lb half turn taken n c A d w h1 hl hn hn2).mono ?_
  rintro e w' ⟨he, hd', hl', hk'⟩
  exact ⟨he, DK.of hd' h2 hm hk, hl', kept3 hk'⟩
theorem lg_comp_full (hd : DK w p q m k half turn taken l) (hl : LogAt w lb p half turn taken) (hn : 1 ≤ n ∧ n ≤ 448) (hf : m / 2 < (n + 55) / 56) :
    Calls Try.prog 52 #[.pointer (some ⟨lb, 0, none⟩), .slice A n c] w (StepL p q lb m k half turn taken l w 5) := by
  obtain ⟨d, h1, h2, hm, hk⟩ := hd
  refine (comp_full _ p q lb half turn taken n c A d w h1 hl hn (.inl (by rw [hm]; exact hf))).mono ?_
  rintro e w' ⟨he, hd', hl', hk'⟩
  exact ⟨he, DK.of hd' h2 hm hk, hl', kept3 hk'⟩
theorem lg_comp_ok (hd : DK w p q m k half turn taken l) (hl : LogAt w lb p half turn taken) (hn : 1 ≤ n ∧ n ≤ 448) (hr : Rd w B 1 A n (b.map bv)) (hB : B ≤ w.heap.size) (hA : ∀ g o, A = some ⟨g, o, none⟩ → g ≠ p ∧ g ≠ q) (hb : ∀ x ∈ b, x < 256)
    (hnc : n ≤ c) (hc : c ≤ maxLen) (hk8 : k + 8 < 1000000) (hf : (n + 55) / 56 ≤ m / 2) (ht : turn < 65535) :
    Calls Try.prog 52 #[.pointer (some ⟨lb, 0, none⟩), .slice A n c] w (StepL p q lb m (k + 8) (1 - half) (turn + 1) ((n + 55) / 56) [b] w 0) := by
  have hlp := hd.lp_ne hl
  have hlq := hd.lq_ne hl
  obtain ⟨d, h1, h2, hm, hk⟩ := hd
  have hbl : b.length = n := by have := hr.1; simpa using this
  have hnb : needsN b = (n + 55) / 56 := by rw [needsN, hbl]
  obtain ⟨g, o, rfl, hg, _⟩ := hr.2 (by omega)
  obtain ⟨hgp, hgq⟩ := hA g o rfl
  obtain ⟨d', hw, hlp', hwr, hlen⟩ := h2.comp b ⟨by omega, by omega, hb⟩ (by rw [hm, hnb]; exact hf) ht
  have := comp_go _ p q lb half turn taken g o n c b d w h1 hl ⟨hl.lt, hlp, hlq⟩ h2.h1 ht hn (hr.more hB) ⟨by omega, hgp, hgq⟩ hb hnc hc (by omega) (by rw [hm]; omega) 0 d' hw
  rw [if_pos rfl] at this
  refine this.mono ?_
  rintro e w' ⟨he, hd', hl', hk'⟩
  simp only [hnb] at hd' hl' hlp'
  exact ⟨he, DK.of hd' hlp' (hlen.trans hm) (by omega), hl', kept3 hk'⟩
theorem lg_room (hd : DK w p q m k half turn taken l) (hl : LogAt w lb p half turn taken) :
    Calls Try.prog 73 #[.pointer (some ⟨lb, 0, none⟩)] w fun e w' => e = .returned (.int .i64 ((m / 2 - taken : Nat) : Int)) ∧ Below w.heap.size w w' := by
  have hroom := hd.room
  have hm1 := hd.m1
  obtain ⟨d, h1, h2, hm, hk⟩ := hd
  refine (room_any _ p q lb half turn taken d w h1 hl (by omega)).mono ?_
  rintro e w' ⟨he, hb⟩
  refine ⟨?_, hb⟩
  rw [he, hm]
  exact ret_int (by omega)
end
end Go.Proofs.Ytcdgaeenfhpnkaa
/- Package store: latches, notes and times that are right. -/
set_option linter.unusedVariables false
set_option linter.unusedSimpArgs false
set_option maxRecDepth 100000
namespace Go.Proofs.Ytcdgaeenfhpnkaa
open Go Go.RowKit
attribute [local go_sem] Oper.semAt_some

structure Lt where
  set : Bool
  at_ : Int
  first : Bool
deriving DecidableEq
structure Nt where
  kind : Int
  who : Int
  at_ : Int
deriving DecidableEq
structure St where
  causes : List Lt
  effects : List Lt
  ends : List Int
deriving DecidableEq
def okT (t : Int) : Prop := 0 ≤ t ∧ t ≤ 2199023255552
instance (t : Int) : Decidable (okT t) := by unfold okT; infer_instance
def okL (x : Lt) : Prop := if x.set then okT x.at_ else x = ⟨false, 0, false⟩
instance (x : Lt) : Decidable (okL x) := by unfold okL; infer_instance
def okN (x : Nt) : Prop := 1 ≤ x.kind ∧ x.kind ≤ 7 ∧ 0 ≤ x.who ∧ x.who ≤ 255 ∧ okT x.at_
instance (x : Nt) : Decidable (okN x) := by unfold okN; infer_instance
def okS (x : St) : Prop := x.causes.length ≤ 8 ∧ x.ends.length = x.causes.length ∧ x.effects.length ≤ 8 ∧ (∀ l ∈ x.causes, okL l) ∧ (∀ l ∈ x.effects, okL l) ∧ ∀ t ∈ x.ends, okT t
instance (x : St) : Decidable (okS x) := by unfold okS; infer_instance

theorem ret_bool2 {a b : Bool} (h : a = b) : Ending.returned (.bool a) = .returned (.bool b) := by rw [h]
theorem rightTime_any (t : Int) (w : World) : Calls Try.prog 63 #[.int .i64 t] w fun e w' => e = .returned (.bool (decide (okT t))) ∧ w' = w := by
  have go : okT t ∨ ¬ 0 ≤ t ∧ ¬ okT t ∨ 0 ≤ t ∧ ¬ t ≤ 2199023255552 ∧ ¬ okT t := by unfold okT; omega
  rcases go with h | ⟨h1, h⟩ | ⟨h1, h2, h⟩
  · rw [decide_eq_true h]
    obtain ⟨h1, h2⟩ := h
    go_enter Try.func63, Try.ntmps63
    go_wp2_with fail
    go_ret
    exact ⟨by simp [h1, h2], rfl⟩
  · rw [decide_eq_false h]
    clear h
    go_enter Try.func63, Try.ntmps63
    go_wp2_with fail
    go_ret
    exact ⟨by simp, rfl⟩
  · rw [decide_eq_false h]
    clear h
    go_enter Try.func63, Try.ntmps63
    go_wp2_with fail
    go_ret
    exact ⟨by simp [h1], rfl⟩
theorem rightLatch_any (x : Lt) (w : World) : Calls Try.prog 62 #[.agg #[.bool x.set, .int .i64 x.at_, .bool x.first]] w fun e w' => e = .returned (.bool (decide (okL x))) ∧ Below w.heap.size w w' := by
  obtain ⟨s, t, f⟩ := x
  have al : ∀ o : Obj, Below w.heap.size w (w.alloc o) := fun o => (Below.refl _ _).alloc (Nat.le_refl _) _
  have Al := Lib.hid al
  clear al
  cases s
  · go_enter Try.func62, Try.ntmps62
    go_wp2_with fail
    all_goals
      go_ret
      refine ⟨ret_bool2 ?_, Al.out _⟩
      simp [okL, *]
  · go_enter Try.func62, Try.ntmps62
    go_wp2_with (first
      | (go_at_call 63; (with_reducible refine (rightTime_any t _).mono ?_)
         rintro e w1 ⟨rfl, rfl⟩))
    go_ret
    refine ⟨ret_bool2 ?_, Al.out _⟩
    simp [okL]
theorem rightNote_any (x : Nt) (w : World) : Calls Try.prog 35 #[.agg #[.int .i64 x.kind, .int .i64 x.who, .int .i64 x.at_]] w fun e w' => e = .returned (.bool (decide (okN x))) ∧ Below w.heap.size w w' := by
  obtain ⟨k, o, t⟩ := x
  have al : ∀ o : Obj, Below w.heap.size w (w.alloc o) := fun o => (Below.refl _ _).alloc (Nat.le_refl _) _
  have Al := Lib.hid al
  have go : ¬ 1 ≤ k ∨ 1 ≤ k ∧ ¬ k ≤ 7 ∨ 1 ≤ k ∧ k ≤ 7 ∧ ¬ 0 ≤ o ∨ 1 ≤ k ∧ k ≤ 7 ∧ 0 ≤ o ∧ ¬ o ≤ 255 ∨ 1 ≤ k ∧ k ≤ 7 ∧ 0 ≤ o ∧ o ≤ 255 := by omega
  clear al
  rcases go with h1 | ⟨h1, h2⟩ | ⟨h1, h2, h3⟩ | ⟨h1, h2, h3, h4⟩ | ⟨h1, h2, h3, h4⟩
  all_goals
    go_enter Try.func35, Try.ntmps35
    go_wp2_with (first
      | (go_at_call 63; (with_reducible refine (rightTime_any t _).mono ?_)
         rintro e w1 ⟨rfl, rfl⟩))
    go_ret
    refine ⟨ret_bool2 ?_, Al.out _⟩
    first
      | (show false = _; symm; apply decide_eq_false; unfold okN; dsimp only; omega)
      | (simp [okN, *]; done)
/-! ### all -/
def Lt.cells (x : Lt) : List Value := [.bool x.set, .int .i64 x.at_, .bool x.first]
def Nt.cells (x : Nt) : List Value := [.int .i64 x.kind, .int .i64 x.who, .int .i64 x.at_]
set_option maxHeartbeats 1000000 in
theorem all_lt (A : Option Addr) (n c B : Nat) (l : List Lt) (w : World) (hr : RdS Lt.cells w B 3 A n l) (hB : B ≤ w.heap.size) (hn : n ≤ maxLen) :
    Calls Try.prog 64 #[.slice A n c, .func (.func 62) #[] #[]] w fun e w' => e = .returned (.bool (decide (∀ x ∈ l, okL x))) ∧ Below w.heap.size w w' := by
  have hl : l.length = n := hr.1
  have hmax : n ≤ 9223372036854775807 := by unfold maxLen at hn; omega
  have Hr := Lib.hid hr
  have Hl := Lib.hid hl
  clear hr hl
  go_enter Try.func64, Try.ntmps64
  go_wp2_with fail
  go_loopg [9] n (fun k i wr => ∃ (j : Nat), k + j = n ∧ i = .int .i64 j ∧ (∀ x ∈ l.take j, okL x) ∧ Below w.heap.size w wr)
  case atStart => exact ⟨0, by omega, rfl, by simp, Below.refl _ _⟩
  case round =>
    obtain ⟨j, hj, rfl, hall, hb⟩ := hrel
    have Hall := Lib.hid hall
    clear hall
    by_cases hlt : j < n
    · have hi0 : (0 : Int) ≤ (j : Int) := by omega
      have hi1 : (j : Int) < (n : Int) := by omega
      obtain ⟨bb, o, rfl, hbB, hc⟩ := (Hr.out.below (hb.mono hB)).2 (by omega)
      obtain ⟨x, hx⟩ : ∃ x, l[j]? = some x := ⟨_, List.getElem?_eq_getElem (by have := Hl.out; omega)⟩
      have c0 := hc j x hx 0 _ rfl
      have c1 := hc j x hx 1 _ rfl
      have c2 := hc j x hx 2 _ rfl
      rw [Nat.add_zero] at c0
      have HB := Lib.hid hb
      have Hx := Lib.hid hx
      clear hc hb hx
      by_cases hok : okL x
      · have hd : decide (okL x) = true := decide_eq_true hok
        have Hok := Lib.hid hok
        clear hok
        go_wp2_with (first
          | (go_at_call 62; (with_reducible refine (rightLatch_any x _).mono ?_)
             rintro e w1 ⟨he, hb1⟩
             rw [hd] at he
             subst he
             have HB1 : Hid (Below w.heap.size w w1) := HB.out.trans (((Below.refl _ _).alloc (Nat.le_refl _) _).trans (hb1.mono (by rw [World.size_alloc]; omega)) |>.mono HB.out.size)
             clear hb1))
        go_roundg (gk - 1)
        case measure => omega
        case rel =>
          refine ⟨j + 1, by omega, by go_num, fun y hy => ?_, HB1.out⟩
          rw [List.take_succ_eq_append_getElem (by have := Hl.out; omega), List.mem_append, List.mem_singleton] at hy
          rcases hy with hy | rfl
          · exact Hall.out y hy
          · have := Hx.out
            rw [List.getElem?_eq_getElem (by have := Hl.out; omega)] at this
            injection this with this
            rw [this]; exact Hok.out
      · have hd : decide (okL x) = false := decide_eq_false hok
        have hno : decide (∀ x ∈ l, okL x) = false := decide_eq_false (fun h => hok (h x (List.mem_of_getElem? Hx.out)))
        have Hno := Lib.hid hno
        clear hok hno
        go_wp2_with (first
          | (go_at_call 62; (with_reducible refine (rightLatch_any x _).mono ?_)
             rintro e w1 ⟨he, hb1⟩
             rw [hd] at he
             subst he
             have HB1 : Hid (Below w.heap.size w w1) := HB.out.trans (((Below.refl _ _).alloc (Nat.le_refl _) _).trans (hb1.mono (by rw [World.size_alloc]; omega)) |>.mono HB.out.size)
             clear hb1))
        go_ret
        exact ⟨ret_bool2 Hno.out.symm, HB1.out⟩
    · have hjn : l.take j = l := List.take_of_length_le (by have := Hl.out; omega)
      have hyes : decide (∀ x ∈ l, okL x) = true := decide_eq_true (by have := Hall.out; rwa [hjn] at this)
      have hi0 : ¬ (j : Int) < (n : Int) := by omega
      have Hyes := Lib.hid hyes
      clear hjn hyes
      go_wp2_with fail
      go_ret
      exact ⟨ret_bool2 Hyes.out.symm, hb⟩
set_option maxHeartbeats 1000000 in
theorem all_nt (A : Option Addr) (n c B : Nat) (l : List Nt) (w : World) (hr : RdS Nt.cells w B 3 A n l) (hB : B ≤ w.heap.size) (hn : n ≤ maxLen) :
    Calls Try.prog 39 #[.slice A n c, .func (.func 35) #[] #[]] w fun e w' => e = .returned (.bool (decide (∀ x ∈ l, okN x))) ∧ Below w.heap.size w w' := by
  have hl : l.length = n := hr.1
  have hmax : n ≤ 9223372036854775807 := by unfold maxLen at hn; omega
  have Hr := Lib.hid hr
  have Hl := Lib.hid hl
  clear hr hl
  go_enter Try.func39, Try.ntmps39
  go_wp2_with fail
  go_loopg [9] n (fun k i wr => ∃ (j : Nat), k + j = n ∧ i = .int .i64 j ∧ (∀ x ∈ l.take j, okN x) ∧ Below w.heap.size w wr)
  case atStart => exact ⟨0, by omega, rfl, by simp, Below.refl _ _⟩
  case round =>
    obtain ⟨j, hj, rfl, hall, hb⟩ := hrel
    have Hall := Lib.hid hall
    clear hall
    by_cases hlt : j < n
    · have hi0 : (0 : Int) ≤ (j : Int) := by omega
      have hi1 : (j : Int) < (n : Int) := by omega
      obtain ⟨bb, o, rfl, hbB, hc⟩ := (Hr.out.below (hb.mono hB)).2 (by omega)
      obtain ⟨x, hx⟩ : ∃ x, l[j]? = some x := ⟨_, List.getElem?_eq_getElem (by have := Hl.out; omega)⟩
      have c0 := hc j x hx 0 _ rfl
      have c1 := hc j x hx 1 _ rfl
      have c2 := hc j x hx 2 _ rfl
      rw [Nat.add_zero] at c0
      have HB := Lib.hid hb
      have Hx := Lib.hid hx
      clear hc hb hx
      by_cases hok : okN x
      · have hd : decide (okN x) = true := decide_eq_true hok
        have Hok := Lib.hid hok
        clear hok
        go_wp2_with (first
          | (go_at_call 35; (with_reducible refine (rightNote_any x _).mono ?_)
             rintro e w1 ⟨he, hb1⟩
             rw [hd] at he
             subst he
             have HB1 : Hid (Below w.heap.size w w1) := HB.out.trans (((Below.refl _ _).alloc (Nat.le_refl _) _).trans (hb1.mono (by rw [World.size_alloc]; omega)) |>.mono HB.out.size)
             clear hb1))
        go_roundg (gk - 1)
        case measure => omega
        case rel =>
          refine ⟨j + 1, by omega, by go_num, fun y hy => ?_, HB1.out⟩
          rw [List.take_succ_eq_append_getElem (by have := Hl.out; omega), List.mem_append, List.mem_singleton] at hy
          rcases hy with hy | rfl
          · exact Hall.out y hy
          · have := Hx.out
            rw [List.getElem?_eq_getElem (by have := Hl.out; omega)] at this
            injection this with this
            rw [this]; exact Hok.out
      · have hd : decide (okN x) = false := decide_eq_false hok
        have hno : decide (∀ x ∈ l, okN x) = false := decide_eq_false (fun h => hok (h x (List.mem_of_getElem? Hx.out)))
        have Hno := Lib.hid hno
        clear hok hno
        go_wp2_with (first
          | (go_at_call 35; (with_reducible refine (rightNote_any x _).mono ?_)
             rintro e w1 ⟨he, hb1⟩
             rw [hd] at he
             subst he
             have HB1 : Hid (Below w.heap.size w w1) := HB.out.trans (((Below.refl _ _).alloc (Nat.le_refl _) _).trans (hb1.mono (by rw [World.size_alloc]; omega)) |>.mono HB.out.size)
             clear hb1))
        go_ret
        exact ⟨ret_bool2 Hno.out.symm, HB1.out⟩
    · have hjn : l.take j = l := List.take_of_length_le (by have := Hl.out; omega)
      have hyes : decide (∀ x ∈ l, okN x) = true := decide_eq_true (by have := Hall.out; rwa [hjn] at this)
      have hi0 : ¬ (j : Int) < (n : Int) := by omega
      have Hyes := Lib.hid hyes
      clear hjn hyes
      go_wp2_with fail
      go_ret
      exact ⟨ret_bool2 Hyes.out.symm, hb⟩
set_option maxHeartbeats 1000000 in
theorem all_time (A : Option Addr) (n c B : Nat) (l : List Int) (w : World) (hr : RdS ivw w B 1 A n l) (hB : B ≤ w.heap.size) (hn : n ≤ maxLen) :
    Calls Try.prog 65 #[.slice A n c, .func (.func 63) #[] #[]] w fun e w' => e = .returned (.bool (decide (∀ x ∈ l, okT x))) ∧ Below w.heap.size w w' := by
  have hl : l.length = n := hr.1
  have hmax : n ≤ 9223372036854775807 := by unfold maxLen at hn; omega
  have Hr := Lib.hid hr
  have Hl := Lib.hid hl
  clear hr hl
  go_enter Try.func65, Try.ntmps65
  go_wp2_with fail
  go_loopg [9] n (fun k i wr => ∃ (j : Nat), k + j = n ∧ i = .int .i64 j ∧ (∀ x ∈ l.take j, okT x) ∧ Below w.heap.size w wr)
  case atStart => exact ⟨0, by omega, rfl, by simp, Below.refl _ _⟩
  case round =>
    obtain ⟨j, hj, rfl, hall, hb⟩ := hrel
    have Hall := Lib.hid hall
    clear hall
    by_cases hlt : j < n
    · have hi0 : (0 : Int) ≤ (j : Int) := by omega
      have hi1 : (j : Int) < (n : Int) := by omega
      obtain ⟨bb, o, rfl, hbB, hc⟩ := (Hr.out.below (hb.mono hB)).2 (by omega)
      obtain ⟨x, hx⟩ : ∃ x, l[j]? = some x := ⟨_, List.getElem?_eq_getElem (by have := Hl.out; omega)⟩
      have c0 := hc j x hx 0 _ rfl
      rw [Nat.add_zero, Nat.mul_one] at c0
      have HB := Lib.hid hb
      have Hx := Lib.hid hx
      clear hc hb hx
      by_cases hok : okT x
      · have hd : decide (okT x) = true := decide_eq_true hok
        have Hok := Lib.hid hok
        clear hok
        go_wp2_with (first
          | (go_at_call 63; (with_reducible refine (rightTime_any x _).mono ?_)
             rintro e w1 ⟨he, hb1⟩
             rw [hd] at he
             subst he
             have HB1 : Hid (Below w.heap.size w w1) := by rw [hb1]; exact HB.out
             clear hb1))
        go_roundg (gk - 1)
        case measure => omega
        case rel =>
          refine ⟨j + 1, by omega, by go_num, fun y hy => ?_, HB1.out⟩
          rw [List.take_succ_eq_append_getElem (by have := Hl.out; omega), List.mem_append, List.mem_singleton] at hy
          rcases hy with hy | rfl
          · exact Hall.out y hy
          · have := Hx.out
            rw [List.getElem?_eq_getElem (by have := Hl.out; omega)] at this
            injection this with this
            rw [this]; exact Hok.out
      · have hd : decide (okT x) = false := decide_eq_false hok
        have hno : decide (∀ x ∈ l, okT x) = false := decide_eq_false (fun h => hok (h x (List.mem_of_getElem? Hx.out)))
        have Hno := Lib.hid hno
        clear hok hno
        go_wp2_with (first
          | (go_at_call 63; (with_reducible refine (rightTime_any x _).mono ?_)
             rintro e w1 ⟨he, hb1⟩
             rw [hd] at he
             subst he
             have HB1 : Hid (Below w.heap.size w w1) := by rw [hb1]; exact HB.out
             clear hb1))
        go_ret
        exact ⟨ret_bool2 Hno.out.symm, HB1.out⟩
    · have hjn : l.take j = l := List.take_of_length_le (by have := Hl.out; omega)
      have hyes : decide (∀ x ∈ l, okT x) = true := decide_eq_true (by have := Hall.out; rwa [hjn] at this)
      have hi0 : ¬ (j : Int) < (n : Int) := by omega
      have Hyes := Lib.hid hyes
      clear hjn hyes
      go_wp2_with fail
      go_ret
      exact ⟨ret_bool2 Hyes.out.symm, hb⟩
end Go.Proofs.Ytcdgaeenfhpnkaa
