/- Package store: Put. -/
import Derived.Test.YtcdgaeenfhpnkaaPk25
set_option linter.unusedVariables false
set_option linter.unusedSimpArgs false
set_option maxRecDepth 100000
namespace Go.Proofs.Ytcdgaeenfhpnkaa
open Go Go.RowKit
attribute [local go_sem] Oper.semAt_some

def four (p q lb sb k : Nat) : Prop := k = p ∨ k = q ∨ k = lb ∨ k = sb
/-- a store, its log, its disk -/
structure Sto (w : World) (p q lb sb base m k half turn taken c e : Nat) (L : List (List Nat)) (N : List Nt) : Prop where
  dk : DK w p q m k half turn taken L
  at_ : LogAt w lb p half turn taken
  sto : StoAt w sb lb base c e N
  n32 : N.length ≤ 32
  okn : ∀ x ∈ N, okN x
  le : base ≤ w.heap.size
  ne : sb ≠ p ∧ sb ≠ q ∧ sb ≠ lb
theorem Sto.below {w w' : World} {p q lb sb base m k half turn taken c e : Nat} {L : List (List Nat)} {N : List Nt} (h : Sto w p q lb sb base m k half turn taken c e L N) (hb : Below w.heap.size w w') : Sto w' p q lb sb base m k half turn taken c e L N :=
  ⟨h.dk.below hb, h.at_.below hb, h.sto.below hb, h.n32, h.okn, Nat.le_trans h.le hb.size, h.ne⟩
section
variable {p q lb m k half turn taken : Nat} {l : List (List Nat)} {w w' : World}
/-- the blocks of a log are of types of their own -/
theorem three_not (hd : DK w p q m k half turn taken l) (hl : LogAt w lb p half turn taken) {e : TypeId} (h1 : 82 ≠ e) (h2 : 150 ≠ e) (h3 : 109 ≠ e) (g : Nat) (cur : Array Value) (fr : Nat × Nat) (hg : w.heap[g]? = some (.cells cur e fr)) : ¬ three p q lb g := by
  obtain ⟨d, ⟨c, h⟩, _⟩ := hd
  rintro (rfl | rfl | rfl)
  · have := h.hp
    rw [hg] at this
    injection this with this
    injection this with _ h9
    exact h1 h9.symm
  · have := h.hq
    rw [hg] at this
    injection this with this
    injection this with _ h9
    exact h2 h9.symm
  · rw [show w.heap[g]? = _ from hl] at hg
    injection hg with hg
    injection hg with _ h9
    exact h3 h9
end
/-- what Put does -/
def PutRel (m c e taken : Nat) (L : List (List Nat)) (N : List Nt) (x : St) (l : List Nt) (en : Nat) (L' : List (List Nat)) (N' : List Nt) : Prop :=
  en = 1 ∧ (¬ okR x l ∨ ¬ (x.causes.length = c ∧ x.effects.length = e)) ∧ L' = L ∧ N' = N ∨
  okR x l ∧ (x.causes.length = c ∧ x.effects.length = e) ∧ (en = 0 ∧ N' = lastN (N ++ l) ∧ (L' = L ++ [bytesF x l] ∨ L' = [bytesF x N']) ∨ en = 5 ∧ L' = L ∧ N' = N ∧ m / 2 < taken + ((bytesF x l).length + 55) / 56)
def PutPost (w : World) (p q lb sb base m k turn taken c e : Nat) (L : List (List Nat)) (N : List Nt) (x : St) (l : List Nt) (ed : Ending) (w' : World) : Prop :=
  ∃ (en half' turn' taken' : Nat) (L' : List (List Nat)) (N' : List Nt) (b' : Nat), ed = .returned (.int .i64 en) ∧ Sto w' p q lb sb b' m (k + 16) half' turn' taken' c e L' N' ∧ turn' ≤ turn + 1 ∧ Chg (four p q lb sb) w w' ∧ PutRel m c e taken L N x l en L' N' ∧ base ≤ b' ∧ (en = 0 → w.heap.size ≤ b')
theorem Sto.more {w : World} {p q lb sb base m k k' half turn taken c e : Nat} {L : List (List Nat)} {N : List Nt} (h : Sto w p q lb sb base m k half turn taken c e L N) (hk : k ≤ k') : Sto w p q lb sb base m k' half turn taken c e L N :=
  ⟨h.dk.more hk, h.at_, h.sto, h.n32, h.okn, h.le, h.ne⟩
theorem chg43 {p q lb sb : Nat} {w w' : World} (h : Chg (three p q lb) w w') : Chg (four p q lb sb) w w' := h.mono fun k hk => by
  rcases hk with h | h | h
  · exact .inl h
  · exact .inr (.inl h)
  · exact .inr (.inr (.inl h))
/-- the two rows that Put looks at -/
structure PR (W : World) (bx sb : Nat) (cs : Array Value) (lb c e : Nat) (s3 : Value) : Prop where
  box : W.heap[bx]? = some (.cells cs 25)
  sto : W.heap[sb]? = some (.cells #[.pointer (some ⟨lb, 0, none⟩), .int .i64 c, .int .i64 e, s3] 88)
theorem PR.below {W W' : World} {bx sb lb c e : Nat} {cs : Array Value} {s3 : Value} (h : PR W bx sb cs lb c e s3) (hb : Below W.heap.size W W') : PR W' bx sb cs lb c e s3 :=
  ⟨(hb.block bx (Array.getElem?_eq_some_iff.1 h.box).1).trans h.box, (hb.block sb (Array.getElem?_eq_some_iff.1 h.sto).1).trans h.sto⟩
theorem PR.chg {W W' : World} {X : Nat → Prop} {bx sb lb c e : Nat} {cs : Array Value} {s3 : Value} (h : PR W bx sb cs lb c e s3) (hc : Chg X W W') (h1 : ¬ X bx) (h2 : ¬ X sb) : PR W' bx sb cs lb c e s3 :=
  ⟨(hc.at_ (Array.getElem?_eq_some_iff.1 h.box).1 h1).trans h.box, (hc.at_ (Array.getElem?_eq_some_iff.1 h.sto).1 h2).trans h.sto⟩
theorem PR.cells {W : World} {bx sb lb c e : Nat} {a1 a2 a3 s3 : Value} (h : PR W bx sb #[a1, a2, a3] lb c e s3) :
    (W.cell? ⟨bx, 0, none⟩ = some a1 ∧ W.cell? ⟨bx, 1, none⟩ = some a2 ∧ W.cell? ⟨bx, 2, none⟩ = some a3) ∧ W.cell? ⟨sb, 0, none⟩ = some (.pointer (some ⟨lb, 0, none⟩)) ∧ W.cell? ⟨sb, 3, none⟩ = some s3 ∧ W.frozen? ⟨sb, 3, none⟩ = false := by
  have n0 := cell_of_row W bx 0 _ _ _ h.box
  have n1 := cell_of_row W bx 1 _ _ _ h.box
  have n2 := cell_of_row W bx 2 _ _ _ h.box
  have n3 := cell_of_row W sb 0 _ _ _ h.sto
  have n4 := cell_of_row W sb 3 _ _ _ h.sto
  simp at n0 n1 n2 n3 n4
  exact ⟨⟨n0, n1, n2⟩, n3, n4, frozen_of_row W sb 3 _ _ h.sto⟩
/-- the notes that are kept are set -/
theorem Sto.note {w : World} {p q lb sb base b2 b3 m k half turn taken c e n cap : Nat} {L : List (List Nat)} {N N' : List Nt} {A : Option Addr} (h : Sto w p q lb sb base m k half turn taken c e L N) (ho : w.ownsRow b2 54 3 (.slice A n cap) n (N'.flatMap Nt.cells)) (hn : N'.length = n) (h32 : N'.length ≤ 32) (hok : ∀ x ∈ N', okN x) (hb : b3 ≤ b2) (hs : sb < b2) (hle : b3 ≤ w.heap.size) :
    Sto (w.setCell ⟨sb, 3, none⟩ (.slice A n cap)) p q lb sb b3 m k half turn taken c e L N' := by
  obtain ⟨A0, n0, cap0, h1, h2, h3⟩ := h.sto
  refine ⟨h.dk.keep (heap_set_other _ rfl (Ne.symm h.ne.1)) (heap_set_other _ rfl (Ne.symm h.ne.2.1)), h.at_.keep (heap_set_other _ rfl (Ne.symm h.ne.2.2)), ⟨A, n, cap, heap_set_same (j := 3) _ h1, own_base (own_setj ho hs) hb, hn⟩, h32, hok, ?_, h.ne⟩
  simpa using hle
theorem not_three {p q lb a : Nat} (h1 : a ≠ p) (h2 : a ≠ q) (h3 : a ≠ lb) : ¬ three p q lb a := by
  rintro (h | h | h)
  · exact h1 h
  · exact h2 h
  · exact h3 h
theorem three_low {p q lb B : Nat} (hp : B ≤ p) (hq : B ≤ q) (hl : B ≤ lb) : ∀ k, three p q lb k → B ≤ k := by
  rintro k (rfl | rfl | rfl) <;> assumption
theorem chg_set {X : Nat → Prop} {w w' : World} {b j : Nat} {u : Value} (h : Chg X w w') (hb : X b) : Chg X w (w'.setCell ⟨b, j, none⟩ u) :=
  ⟨h.os, h.tape, h.output, by rw [World.size_setCell]; exact h.size, fun i hi => (Below.heap_setCell _ _ _ _ (by rintro rfl; exact hi.2 hb)).trans (h.block i hi)⟩
theorem own_away {w : World} {base e n c p q : Nat} {A : Option Addr} {xs : List Value} (h : w.ownsRow base e 1 (.slice A n c) n xs) (hp : p < base) (hq : q < base) : ∀ g o, A = some ⟨g, o, none⟩ → g ≠ p ∧ g ≠ q := by
  rintro g o rfl
  have := (own_at h g rfl).1
  omega
set_option maxHeartbeats 16000000 in
theorem put_gen (sb lb p q base m k half turn taken c e : Nat) (L : List (List Nat)) (N : List Nt) (v : StV) (x : St) (A : Option Addr) (n cn B : Nat) (l : List Nt) (w : World) (hS : Sto w p q lb sb base m k half turn taken c e L N) (hx : StR w B v x) (hl : RdS Nt.cells w B 3 A n l) (hB : B ≤ w.heap.size) (hkp : ∀ w1 w2, Below w.heap.size w w1 → Chg (three p q lb) w1 w2 → StR w2 w2.heap.size v x) (hn : n ≤ maxLen) (hk : k + 16 < 1000000) (ht : turn < 65535) :
    Calls Try.prog 17 #[.pointer (some ⟨sb, 0, none⟩), .agg #[.slice v.A1 v.n1 v.c1, .slice v.A2 v.n2 v.c2, .slice v.A3 v.n3 v.c3], .slice A n cn] w (PutPost w p q lb sb base m k turn taken c e L N x l) := by
  obtain ⟨P1, p1, q1, P2, p2, q2, P3, p3, q3⟩ := v
  obtain ⟨A0, n0, cap0, s1, s2, s3⟩ := hS.sto
  have hsl : sb < w.heap.size := hS.sto.lt
  have hpl := hS.dk.pl
  have hql := hS.dk.ql
  have hll := hS.at_.lt
  have hn0 : n0 ≤ 32 := by have := hS.n32; omega
  have hln : l.length = n := hl.1
  obtain ⟨wb, hwb⟩ : ∃ y, y = w.alloc (.cells #[.slice P1 p1 q1, .slice P2 p2 q2, .slice P3 p3 q3] 25) := ⟨_, rfl⟩
  have al : Below w.heap.size w wb := by rw [hwb]; exact (Below.refl _ _).alloc (Nat.le_refl _) _
  have hzb : wb.heap.size = w.heap.size + 1 := by rw [hwb]; simp only [World.size_alloc]
  have hR : PR wb w.heap.size sb #[.slice P1 p1 q1, .slice P2 p2 q2, .slice P3 p3 q3] lb c e (.slice A0 n0 cap0) := ⟨by rw [hwb]; exact heap_alloc_new _ _, (al.block sb hsl).trans s1⟩
  obtain ⟨⟨z0, z1, z2⟩, z3, z4, z5⟩ := hR.cells
  have hSb := hS.below al
  have hxb := hx.below (al.mono hB)
  have hlb := hl.below (al.mono hB)
  obtain ⟨b, hb⟩ : ∃ b, b = bytesF x l := ⟨_, rfl⟩
  obtain ⟨bl, hbl⟩ : ∃ bl, bl = b.length := ⟨_, rfl⟩
  have hx4 : ∀ y ∈ b, y < 256 := by rw [hb]; exact bytesF_lt _ _
  have HS := Lib.hid hSb
  have HX := Lib.hid hxb
  have HL := Lib.hid hlb
  have HR := Lib.hid hR
  have Al := Lib.hid al
  have Hwb := Lib.hid hwb
  have Hzb := Lib.hid hzb
  have Hb := Lib.hid hb
  have Hbl := Lib.hid hbl
  have Hln := Lib.hid hln
  have Hsl := Lib.hid hsl
  have HBB : Hid (B ≤ wb.heap.size) := by show _ ≤ _; omega
  have HK := Lib.hid hkp
  have Hx4 := Lib.hid hx4
  have Hpq : Hid (p < wb.heap.size ∧ q < wb.heap.size ∧ lb < wb.heap.size ∧ sb < wb.heap.size ∧ p ≠ w.heap.size ∧ q ≠ w.heap.size ∧ lb ≠ w.heap.size ∧ sb ≠ w.heap.size) := by refine ⟨?_, ?_, ?_, ?_, ?_, ?_, ?_, ?_⟩ <;> omega
  have Hne := Lib.hid hS.ne
  have Hokn := Lib.hid hS.okn
  have Hbase := Lib.hid hS.le
  have hm1 := hS.dk.m1
  have Hs23 := Lib.hid (And.intro (rds_of_own s2 s3) (own_max s2).1)
  clear hS hx hl al hwb hzb hR hSb hxb hlb hb hbl hln hsl hx4 hB hkp s1 s2 s3 hpl hql hll
  by_cases hok : okR x l
  rotate_left
  · have hbl0 : bl = 0 := by rw [Hbl.out, Hb.out, bytesF_no hok]; rfl
    have Hok := Lib.hid hok
    subst hbl0
    clear hok
    go_enter Try.func17, Try.ntmps17
    go_wp2_with (first
     | (rw [← Hwb.out]
        go_at_call 12; (with_reducible refine (bytes_any ⟨P1, p1, q1, P2, p2, q2, P3, p3, q3⟩ x A n cn B l wb HX.out HL.out hn HBB.out).mono ?_)
        rintro ed w1 ⟨bv1, rfl, hown1, hb1⟩
        rw [← Hb.out, ← Hbl.out] at hown1
        obtain ⟨A1, c1, rfl⟩ := own_shape hown1
        have hR1 := HR.out.below hb1
        clear z0 z1 z2 z3 z4 z5
        obtain ⟨⟨z0, z1, z2⟩, z3, z4, z5⟩ := hR1.cells
        have HR1 := Lib.hid hR1
        have HS1 := Lib.hid (HS.out.below hb1)
        have HB1 := Lib.hid hb1
        have HO1 := Lib.hid hown1
        clear hown1 hb1 hR1)
    )
    go_ret
    refine ⟨1, half, turn, taken, L, N, base, rfl, HS1.out.more (by omega), Nat.le_succ _, Chg.of (Al.out.trans (HB1.out.mono Al.out.size)), .inl ⟨rfl, .inl Hok.out, rfl, rfl⟩, Nat.le_refl _, fun h => by cases h⟩
  have hlen := bytesF_len hok
  rw [← Hb.out, ← Hbl.out] at hlen
  have hbI : ((bl : Int) == 0) = false := beq_eq_false_iff_ne.2 (by omega)
  have hn32 : n ≤ 32 := by have := hok.2.1; have := Hln.out; omega
  have Hok := Lib.hid hok
  clear hok
  by_cases hf : x.causes.length = c ∧ x.effects.length = e
  rotate_left
  · have HF : Hid (decide (x.causes.length = c ∧ x.effects.length = e) = false) := decide_eq_false hf
    have Hf := Lib.hid hf
    clear hf
    go_enter Try.func17, Try.ntmps17
    go_wp2_with (first
     | (rw [← Hwb.out]
        go_at_call 12; (with_reducible refine (bytes_any ⟨P1, p1, q1, P2, p2, q2, P3, p3, q3⟩ x A n cn B l wb HX.out HL.out hn HBB.out).mono ?_)
        rintro ed w1 ⟨bv1, rfl, hown1, hb1⟩
        rw [← Hb.out, ← Hbl.out] at hown1
        obtain ⟨A1, c1, rfl⟩ := own_shape hown1
        have hR1 := HR.out.below hb1
        clear z0 z1 z2 z3 z4 z5
        obtain ⟨⟨z0, z1, z2⟩, z3, z4, z5⟩ := hR1.cells
        have HR1 := Lib.hid hR1
        have HS1 := Lib.hid (HS.out.below hb1)
        have HB1 := Lib.hid hb1
        have HO1 := Lib.hid hown1
        clear hown1 hb1 hR1)
     | (go_at_call 49; (with_reducible refine (fits_any sb lb base c e N ⟨P1, p1, q1, P2, p2, q2, P3, p3, q3⟩ x B w1 HS1.out.sto (HX.out.below (HB1.out.mono HBB.out))).mono ?_)
        rintro ed w2 ⟨he, hb2⟩
        rw [HF.out] at he
        subst he
        have hR2 := HR1.out.below hb2
        clear z0 z1 z2 z3 z4 z5
        obtain ⟨⟨z0, z1, z2⟩, z3, z4, z5⟩ := hR2.cells
        have HR2 := Lib.hid hR2
        have HS2 := Lib.hid (HS1.out.below hb2)
        have HB2 := Lib.hid (HB1.out.trans (hb2.mono HB1.out.size))
        have HO2 := Lib.hid (own_below HO1.out hb2)
        clear hb2 hR2)
    )
    go_ret
    refine ⟨1, half, turn, taken, L, N, base, rfl, HS2.out.more (by omega), Nat.le_succ _, Chg.of (Al.out.trans (HB2.out.mono Al.out.size)), .inl ⟨rfl, .inr Hf.out, rfl, rfl⟩, Nat.le_refl _, fun h => by cases h⟩
  have HF : Hid (decide (x.causes.length = c ∧ x.effects.length = e) = true) := decide_eq_true hf
  have Hf := Lib.hid hf
  clear hf
  by_cases ha : taken + (bl + 55) / 56 ≤ m / 2
  · go_enter Try.func17, Try.ntmps17
    go_wp2_with (first
     | (rw [← Hwb.out]
        go_at_call 12; (with_reducible refine (bytes_any ⟨P1, p1, q1, P2, p2, q2, P3, p3, q3⟩ x A n cn B l wb HX.out HL.out hn HBB.out).mono ?_)
        rintro ed w1 ⟨bv1, rfl, hown1, hb1⟩
        rw [← Hb.out, ← Hbl.out] at hown1
        obtain ⟨A1, c1, rfl⟩ := own_shape hown1
        have hR1 := HR.out.below hb1
        clear z0 z1 z2 z3 z4 z5
        obtain ⟨⟨z0, z1, z2⟩, z3, z4, z5⟩ := hR1.cells
        have HR1 := Lib.hid hR1
        have HS1 := Lib.hid (HS.out.below hb1)
        have HB1 := Lib.hid hb1
        have HO1 := Lib.hid hown1
        clear hown1 hb1 hR1)
     | (go_at_call 49; (with_reducible refine (fits_any sb lb base c e N ⟨P1, p1, q1, P2, p2, q2, P3, p3, q3⟩ x B w1 HS1.out.sto (HX.out.below (HB1.out.mono HBB.out))).mono ?_)
        rintro ed w2 ⟨he, hb2⟩
        rw [HF.out] at he
        subst he
        have hR2 := HR1.out.below hb2
        clear z0 z1 z2 z3 z4 z5
        obtain ⟨⟨z0, z1, z2⟩, z3, z4, z5⟩ := hR2.cells
        have HR2 := Lib.hid hR2
        have HS2 := Lib.hid (HS1.out.below hb2)
        have HB2 := Lib.hid (HB1.out.trans (hb2.mono HB1.out.size))
        have HO2 := Lib.hid (own_below HO1.out hb2)
        clear hb2 hR2)
     | (go_at_call 50; (with_reducible refine (last_any A0 A n0 n cap0 cn N l w2 ((Hs23.out.1.below (Al.out.trans (HB2.out.mono Al.out.size))).more (Nat.le_trans Al.out.size HB2.out.size)) ((HL.out.below (HB2.out.mono HBB.out)).more (Nat.le_trans HBB.out HB2.out.size)) (by omega) (by omega)).mono ?_)
        rintro ed w3 ⟨A3, c3, he, hown3, hb3⟩
        obtain ⟨n3, hn3⟩ : ∃ y, y = (lastN (N ++ l)).length := ⟨_, rfl⟩
        rw [← hn3] at he hown3
        subst he
        have hR3 := HR2.out.below hb3
        clear z0 z1 z2 z3 z4 z5
        obtain ⟨⟨z0, z1, z2⟩, z3, z4, z5⟩ := hR3.cells
        have HR3 := Lib.hid hR3
        have HS3 := Lib.hid (HS2.out.below hb3)
        have HB3 := Lib.hid (HB2.out.trans (hb3.mono HB2.out.size))
        have HO3 := Lib.hid (own_below HO2.out hb3)
        have HN3 := Lib.hid hown3
        have Hn3 := Lib.hid hn3
        have HZ2 : Hid (wb.heap.size ≤ w2.heap.size ∧ w2.heap.size ≤ w3.heap.size) := ⟨HB2.out.size, hb3.size⟩
        clear hown3 hb3 hR3 hn3)
     | (go_at_call 51; (with_reducible refine (lg_add_ok HS3.out.dk HS3.out.at_ hlen (Rd.of_own HO3.out) (Nat.le_refl _) (own_away HO3.out Hpq.out.1 Hpq.out.2.1) Hx4.out (own_max HO3.out).1 (own_max HO3.out).2 (by omega) ha).mono ?_)
        rintro ed w4 ⟨rfl, hd4, hl4, hc4⟩
        have hno4 : ∀ g cur fr, w3.heap[g]? = some (.cells cur 54 fr) → ¬ three p q lb g := fun g cur fr hg => three_not HS3.out.dk HS3.out.at_ (by decide) (by decide) (by decide) g cur fr hg
        have hsb4 : ¬ three p q lb sb := not_three Hne.out.1 Hne.out.2.1 Hne.out.2.2
        have hbx4 : ¬ three p q lb w.heap.size := not_three (Ne.symm Hpq.out.2.2.2.2.1) (Ne.symm Hpq.out.2.2.2.2.2.1) (Ne.symm Hpq.out.2.2.2.2.2.2.1)
        have hR4 := HR3.out.chg hc4 hbx4 hsb4
        clear z0 z1 z2 z3 z4 z5
        obtain ⟨⟨z0, z1, z2⟩, z3, z4, z5⟩ := hR4.cells
        have HS4 : Hid (Sto w4 p q lb sb base m (k + 8) half turn (taken + (bl + 55) / 56) c e (L ++ [b]) N) := ⟨hd4, hl4, HS3.out.sto.chg hc4 hsb4 (fun g cur fr hg _ => hno4 g cur fr hg), HS3.out.n32, HS3.out.okn, Nat.le_trans HS3.out.le hc4.size, HS3.out.ne⟩
        have HR4 := Lib.hid hR4
        have HC4 : Hid (Chg (four p q lb sb) w w4) := (Chg.of (Al.out.trans (HB3.out.mono Al.out.size))).trans (chg43 hc4)
        have HN4 := Lib.hid (own_chg HN3.out hc4 (fun g cur fr hg _ => hno4 g cur fr hg))
        have HX4 := Lib.hid (HK.out w3 w4 (Al.out.trans (HB3.out.mono Al.out.size)) hc4)
        have HBs4 : Hid (B ≤ w4.heap.size ∧ w2.heap.size ≤ w4.heap.size) := ⟨Nat.le_trans (Nat.le_trans HBB.out HB3.out.size) hc4.size, Nat.le_trans HZ2.out.2 hc4.size⟩
        clear hd4 hl4 hc4 hno4 hsb4 hbx4 hR4)
    )
    go_ret
    have hs5 := HS4.out.note (b3 := w.heap.size) HN4.out Hn3.out.symm (lastN_len _) (okR_last Hok.out Hokn.out).2.2 (by have := Hzb.out; have := HZ2.out; omega) (by have := Hsl.out; have := Hzb.out; have := HZ2.out; omega) HC4.out.size
    refine ⟨0, half, turn, taken + (bl + 55) / 56, L ++ [b], lastN (N ++ l), w.heap.size, rfl, hs5.more (by omega), Nat.le_succ _, chg_set HC4.out (.inr (.inr (.inr rfl))), .inr ⟨Hok.out, Hf.out, .inl ⟨rfl, rfl, .inl (by rw [Hb.out])⟩⟩, Hbase.out, fun _ => Nat.le_refl _⟩
  have ha' : m / 2 < taken + (bl + 55) / 56 := by omega
  clear ha
  have ha := ha'
  clear ha'
  obtain ⟨b2, hb2⟩ : ∃ y, y = bytesF x (lastN (N ++ l)) := ⟨_, rfl⟩
  obtain ⟨bl2, hbl2⟩ : ∃ y, y = b2.length := ⟨_, rfl⟩
  have hlen2 := bytesF_len (okR_last Hok.out Hokn.out)
  rw [← hb2, ← hbl2] at hlen2
  have Hb2 := Lib.hid hb2
  have Hbl2 := Lib.hid hbl2
  have Hx5 : Hid (∀ y ∈ b2, y < 256) := by show ∀ y ∈ b2, y < 256; rw [hb2]; exact bytesF_lt _ _
  clear hb2 hbl2
  have hD : ∀ {W : World}, PR W w.heap.size sb #[.slice P1 p1 q1, .slice P2 p2 q2, .slice P3 p3 q3] lb c e (.slice A0 n0 cap0) → PR W.drew w.heap.size sb #[.slice P1 p1 q1, .slice P2 p2 q2, .slice P3 p3 q3] lb c e (.slice A0 n0 cap0) := fun h => ⟨h.box, h.sto⟩
  by_cases hc : (bl2 + 55) / 56 ≤ m / 2
  · go_enter Try.func17, Try.ntmps17
    go_wp2_with (first
     | (rw [← Hwb.out]
        go_at_call 12; (with_reducible refine (bytes_any ⟨P1, p1, q1, P2, p2, q2, P3, p3, q3⟩ x A n cn B l wb HX.out HL.out hn HBB.out).mono ?_)
        rintro ed w1 ⟨bv1, rfl, hown1, hb1⟩
        rw [← Hb.out, ← Hbl.out] at hown1
        obtain ⟨A1, c1, rfl⟩ := own_shape hown1
        have hR1 := HR.out.below hb1
        clear z0 z1 z2 z3 z4 z5
        obtain ⟨⟨z0, z1, z2⟩, z3, z4, z5⟩ := hR1.cells
        have HR1 := Lib.hid hR1
        have HS1 := Lib.hid (HS.out.below hb1)
        have HB1 := Lib.hid hb1
        have HO1 := Lib.hid hown1
        clear hown1 hb1 hR1)
     | (go_at_call 49; (with_reducible refine (fits_any sb lb base c e N ⟨P1, p1, q1, P2, p2, q2, P3, p3, q3⟩ x B w1 HS1.out.sto (HX.out.below (HB1.out.mono HBB.out))).mono ?_)
        rintro ed w2 ⟨he, hb2⟩
        rw [HF.out] at he
        subst he
        have hR2 := HR1.out.below hb2
        clear z0 z1 z2 z3 z4 z5
        obtain ⟨⟨z0, z1, z2⟩, z3, z4, z5⟩ := hR2.cells
        have HR2 := Lib.hid hR2
        have HS2 := Lib.hid (HS1.out.below hb2)
        have HB2 := Lib.hid (HB1.out.trans (hb2.mono HB1.out.size))
        have HO2 := Lib.hid (own_below HO1.out hb2)
        clear hb2 hR2)
     | (go_at_call 50; (with_reducible refine (last_any A0 A n0 n cap0 cn N l w2 ((Hs23.out.1.below (Al.out.trans (HB2.out.mono Al.out.size))).more (Nat.le_trans Al.out.size HB2.out.size)) ((HL.out.below (HB2.out.mono HBB.out)).more (Nat.le_trans HBB.out HB2.out.size)) (by omega) (by omega)).mono ?_)
        rintro ed w3 ⟨A3, c3, he, hown3, hb3⟩
        obtain ⟨n3, hn3⟩ : ∃ y, y = (lastN (N ++ l)).length := ⟨_, rfl⟩
        rw [← hn3] at he hown3
        subst he
        have hR3 := HR2.out.below hb3
        clear z0 z1 z2 z3 z4 z5
        obtain ⟨⟨z0, z1, z2⟩, z3, z4, z5⟩ := hR3.cells
        have HR3 := Lib.hid hR3
        have HS3 := Lib.hid (HS2.out.below hb3)
        have HB3 := Lib.hid (HB2.out.trans (hb3.mono HB2.out.size))
        have HO3 := Lib.hid (own_below HO2.out hb3)
        have HN3 := Lib.hid hown3
        have Hn3 := Lib.hid hn3
        have HZ2 : Hid (wb.heap.size ≤ w2.heap.size ∧ w2.heap.size ≤ w3.heap.size) := ⟨HB2.out.size, hb3.size⟩
        clear hown3 hb3 hR3 hn3)
     | (go_at_call 51; (with_reducible refine (lg_add_full HS3.out.dk HS3.out.at_ hlen ha).mono ?_)
        rintro ed w4 ⟨rfl, hd4, hl4, hc4⟩
        have hno4 : ∀ g cur fr, w3.heap[g]? = some (.cells cur 54 fr) → ¬ three p q lb g := fun g cur fr hg => three_not HS3.out.dk HS3.out.at_ (by decide) (by decide) (by decide) g cur fr hg
        have hsb4 : ¬ three p q lb sb := not_three Hne.out.1 Hne.out.2.1 Hne.out.2.2
        have hbx4 : ¬ three p q lb w.heap.size := not_three (Ne.symm Hpq.out.2.2.2.2.1) (Ne.symm Hpq.out.2.2.2.2.2.1) (Ne.symm Hpq.out.2.2.2.2.2.2.1)
        have hR4 := HR3.out.chg hc4 hbx4 hsb4
        clear z0 z1 z2 z3 z4 z5
        obtain ⟨⟨z0, z1, z2⟩, z3, z4, z5⟩ := hR4.cells
        have HS4 : Hid (Sto w4 p q lb sb base m k half turn taken c e L N) := ⟨hd4, hl4, HS3.out.sto.chg hc4 hsb4 (fun g cur fr hg _ => hno4 g cur fr hg), HS3.out.n32, HS3.out.okn, Nat.le_trans HS3.out.le hc4.size, HS3.out.ne⟩
        have HR4 := Lib.hid hR4
        have HC4 : Hid (Chg (four p q lb sb) w w4) := (Chg.of (Al.out.trans (HB3.out.mono Al.out.size))).trans (chg43 hc4)
        have HN4 := Lib.hid (own_chg HN3.out hc4 (fun g cur fr hg _ => hno4 g cur fr hg))
        have HX4 := Lib.hid (HK.out w3 w4 (Al.out.trans (HB3.out.mono Al.out.size)) hc4)
        have HBs4 : Hid (B ≤ w4.heap.size ∧ w2.heap.size ≤ w4.heap.size) := ⟨Nat.le_trans (Nat.le_trans HBB.out HB3.out.size) hc4.size, Nat.le_trans HZ2.out.2 hc4.size⟩
        clear hd4 hl4 hc4 hno4 hsb4 hbx4 hR4)
    )
    have hR4 := hD HR4.out
    have hcl := hR4.cells
    have HS4' : Hid (w4.drew.cell? ⟨sb, 0, none⟩ = some (.pointer (some ⟨lb, 0, none⟩)) ∧ w4.drew.cell? ⟨w.heap.size, 0, none⟩ = some (.slice P1 p1 q1) ∧ w4.drew.cell? ⟨w.heap.size, 1, none⟩ = some (.slice P2 p2 q2) ∧ w4.drew.cell? ⟨w.heap.size, 2, none⟩ = some (.slice P3 p3 q3)) := ⟨hcl.2.1, hcl.1⟩
    have HR4d := Lib.hid hR4
    have HS4d := Lib.hid (HS4.out.below (Below.refl _ w4).drew)
    have HX4d := Lib.hid (HX4.out.below (Below.refl _ w4).drew)
    have HL4d := Lib.hid ((rds_of_own HN4.out Hn3.out.symm).below (Below.refl _ w4).drew)
    have HN4d := Lib.hid (own_below HN4.out (Below.refl _ w4).drew)
    have HC4d := Lib.hid (HC4.out.trans (Chg.of (Below.refl _ w4).drew))
    have hn3' : n3 ≤ maxLen := by have := Hn3.out; have := lastN_len (N ++ l); unfold maxLen; omega
    clear z0 z1 z2 z3 z4 z5 hcl hR4
    refine sk (fun w' => w'.cell? ⟨sb, 0, none⟩ = some (.pointer (some ⟨lb, 0, none⟩)) ∧ w'.cell? ⟨w.heap.size, 0, none⟩ = some (.slice P1 p1 q1) ∧ w'.cell? ⟨w.heap.size, 1, none⟩ = some (.slice P2 p2 q2) ∧ w'.cell? ⟨w.heap.size, 2, none⟩ = some (.slice P3 p3 q3)) 9 ?_ (fun hHeld => ?_)
    · (first | exact HS4'.out | exact hS5 | exact hS6)
    refine tk 0 36 hHeld ?_
    refine tk 1 37 hHeld ?_
    refine tk 2 38 hHeld ?_
    refine tk 3 39 hHeld ?_
    refine tk 4 40 hHeld ?_
    refine tk 5 41 hHeld ?_
    refine bk 6 42 (fun K hK => ?_)
    go_simp
    (go_at_call 12; (with_reducible refine (bytes_any ⟨P1, p1, q1, P2, p2, q2, P3, p3, q3⟩ x A3 n3 c3 w4.heap.size (lastN (N ++ l)) w4.drew HX4d.out HL4d.out hn3' (Nat.le_refl _)).mono ?_))
    rintro ed w5 ⟨bv5, rfl, hown5, hb5⟩
    rw [← Hb2.out, ← Hbl2.out] at hown5
    obtain ⟨A5, c5, rfl⟩ := own_shape hown5
    have hR5 := HR4d.out.below hb5
    have hcl := hR5.cells
    have hS5 : w5.cell? ⟨sb, 0, none⟩ = some (.pointer (some ⟨lb, 0, none⟩)) ∧ w5.cell? ⟨w.heap.size, 0, none⟩ = some (.slice P1 p1 q1) ∧ w5.cell? ⟨w.heap.size, 1, none⟩ = some (.slice P2 p2 q2) ∧ w5.cell? ⟨w.heap.size, 2, none⟩ = some (.slice P3 p3 q3) := ⟨hcl.2.1, hcl.1⟩
    have HSs5 := Lib.hid (HS4d.out.below hb5)
    have HN5 := Lib.hid (own_below HN4d.out hb5)
    have HC5 := Lib.hid (HC4d.out.trans (Chg.of hb5))
    have HO5 := Lib.hid hown5
    have HR5 := Lib.hid hR5
    have HZ5 : Hid (p < w4.drew.heap.size ∧ q < w4.drew.heap.size) := ⟨HS4d.out.dk.pl, HS4d.out.dk.ql⟩
    clear hown5 hb5 hcl hR5
    refine hK.out _ _ ?_ (fun hHeld' => ?_)
    · (first | exact HS4'.out | exact hS5 | exact hS6)
    clear hK K hHeld
    have hHeld := hHeld'
    clear hHeld'
    simp only [List.set_cons_zero, List.set_cons_succ]
    refine bk 7 43 (fun K hK => ?_)
    go_simp
    (go_at_call 52; (with_reducible refine (lg_comp_ok HSs5.out.dk HSs5.out.at_ hlen2 (Rd.of_own HO5.out) (Nat.le_refl _) (own_away HO5.out HZ5.out.1 HZ5.out.2) Hx5.out (own_max HO5.out).1 (own_max HO5.out).2 (by omega) hc ht).mono ?_))
    rintro ed w6 ⟨rfl, hd6, hl6, hc6⟩
    have hno6 : ∀ g cur fr, w5.heap[g]? = some (.cells cur 54 fr) → ¬ three p q lb g := fun g cur fr hg => three_not HSs5.out.dk HSs5.out.at_ (by decide) (by decide) (by decide) g cur fr hg
    have hsb6 : ¬ three p q lb sb := not_three Hne.out.1 Hne.out.2.1 Hne.out.2.2
    have hbx6 : ¬ three p q lb w.heap.size := not_three (Ne.symm Hpq.out.2.2.2.2.1) (Ne.symm Hpq.out.2.2.2.2.2.1) (Ne.symm Hpq.out.2.2.2.2.2.2.1)
    have hR6 := HR5.out.chg hc6 hbx6 hsb6
    have hcl := hR6.cells
    have hS6 : w6.cell? ⟨sb, 0, none⟩ = some (.pointer (some ⟨lb, 0, none⟩)) ∧ w6.cell? ⟨w.heap.size, 0, none⟩ = some (.slice P1 p1 q1) ∧ w6.cell? ⟨w.heap.size, 1, none⟩ = some (.slice P2 p2 q2) ∧ w6.cell? ⟨w.heap.size, 2, none⟩ = some (.slice P3 p3 q3) := ⟨hcl.2.1, hcl.1⟩
    have hz6 := hcl.2.2
    have HSs6 : Hid (Sto w6 p q lb sb base m (k + 8) (1 - half) (turn + 1) ((bl2 + 55) / 56) c e [b2] N) := ⟨hd6, hl6, HSs5.out.sto.chg hc6 hsb6 (fun g cur fr hg _ => hno6 g cur fr hg), HSs5.out.n32, HSs5.out.okn, Nat.le_trans HSs5.out.le hc6.size, HSs5.out.ne⟩
    have HN6 := Lib.hid (own_chg HN5.out hc6 (fun g cur fr hg _ => hno6 g cur fr hg))
    have HC6 := Lib.hid (HC5.out.trans (chg43 hc6))
    clear hd6 hl6 hc6 hno6 hsb6 hbx6 hR6 hcl
    refine hK.out _ _ ?_ (fun hHeld' => ?_)
    · (first | exact HS4'.out | exact hS5 | exact hS6)
    clear hK K hHeld
    have hHeld := hHeld'
    clear hHeld'
    simp only [List.set_cons_zero, List.set_cons_succ]
    refine tk 8 9 hHeld ?_
    refine wpAnyH_done (by kernel_rfl) ?_ _
    refine NoPanic.normal ?_
    obtain ⟨z4, z5⟩ := hz6
    clear hHeld hS6
    go_wp2_with fail
    go_ret
    have hs7 := HSs6.out.note (b3 := w.heap.size) HN6.out Hn3.out.symm (lastN_len _) (okR_last Hok.out Hokn.out).2.2 (by have := Hzb.out; have := HZ2.out; omega) (by have := Hsl.out; have := Hzb.out; have := HZ2.out; omega) HC6.out.size
    refine ⟨0, 1 - half, turn + 1, (bl2 + 55) / 56, [b2], lastN (N ++ l), w.heap.size, rfl, hs7.more (by omega), Nat.le_refl _, chg_set HC6.out (.inr (.inr (.inr rfl))), .inr ⟨Hok.out, Hf.out, .inl ⟨rfl, rfl, .inr (by rw [Hb2.out])⟩⟩, Hbase.out, fun _ => Nat.le_refl _⟩

  · have hc' : m / 2 < (bl2 + 55) / 56 := by omega
    clear hc
    go_enter Try.func17, Try.ntmps17
    go_wp2_with (first
     | (rw [← Hwb.out]
        go_at_call 12; (with_reducible refine (bytes_any ⟨P1, p1, q1, P2, p2, q2, P3, p3, q3⟩ x A n cn B l wb HX.out HL.out hn HBB.out).mono ?_)
        rintro ed w1 ⟨bv1, rfl, hown1, hb1⟩
        rw [← Hb.out, ← Hbl.out] at hown1
        obtain ⟨A1, c1, rfl⟩ := own_shape hown1
        have hR1 := HR.out.below hb1
        clear z0 z1 z2 z3 z4 z5
        obtain ⟨⟨z0, z1, z2⟩, z3, z4, z5⟩ := hR1.cells
        have HR1 := Lib.hid hR1
        have HS1 := Lib.hid (HS.out.below hb1)
        have HB1 := Lib.hid hb1
        have HO1 := Lib.hid hown1
        clear hown1 hb1 hR1)
     | (go_at_call 49; (with_reducible refine (fits_any sb lb base c e N ⟨P1, p1, q1, P2, p2, q2, P3, p3, q3⟩ x B w1 HS1.out.sto (HX.out.below (HB1.out.mono HBB.out))).mono ?_)
        rintro ed w2 ⟨he, hb2⟩
        rw [HF.out] at he
        subst he
        have hR2 := HR1.out.below hb2
        clear z0 z1 z2 z3 z4 z5
        obtain ⟨⟨z0, z1, z2⟩, z3, z4, z5⟩ := hR2.cells
        have HR2 := Lib.hid hR2
        have HS2 := Lib.hid (HS1.out.below hb2)
        have HB2 := Lib.hid (HB1.out.trans (hb2.mono HB1.out.size))
        have HO2 := Lib.hid (own_below HO1.out hb2)
        clear hb2 hR2)
     | (go_at_call 50; (with_reducible refine (last_any A0 A n0 n cap0 cn N l w2 ((Hs23.out.1.below (Al.out.trans (HB2.out.mono Al.out.size))).more (Nat.le_trans Al.out.size HB2.out.size)) ((HL.out.below (HB2.out.mono HBB.out)).more (Nat.le_trans HBB.out HB2.out.size)) (by omega) (by omega)).mono ?_)
        rintro ed w3 ⟨A3, c3, he, hown3, hb3⟩
        obtain ⟨n3, hn3⟩ : ∃ y, y = (lastN (N ++ l)).length := ⟨_, rfl⟩
        rw [← hn3] at he hown3
        subst he
        have hR3 := HR2.out.below hb3
        clear z0 z1 z2 z3 z4 z5
        obtain ⟨⟨z0, z1, z2⟩, z3, z4, z5⟩ := hR3.cells
        have HR3 := Lib.hid hR3
        have HS3 := Lib.hid (HS2.out.below hb3)
        have HB3 := Lib.hid (HB2.out.trans (hb3.mono HB2.out.size))
        have HO3 := Lib.hid (own_below HO2.out hb3)
        have HN3 := Lib.hid hown3
        have Hn3 := Lib.hid hn3
        have HZ2 : Hid (wb.heap.size ≤ w2.heap.size ∧ w2.heap.size ≤ w3.heap.size) := ⟨HB2.out.size, hb3.size⟩
        clear hown3 hb3 hR3 hn3)
     | (go_at_call 51; (with_reducible refine (lg_add_full HS3.out.dk HS3.out.at_ hlen ha).mono ?_)
        rintro ed w4 ⟨rfl, hd4, hl4, hc4⟩
        have hno4 : ∀ g cur fr, w3.heap[g]? = some (.cells cur 54 fr) → ¬ three p q lb g := fun g cur fr hg => three_not HS3.out.dk HS3.out.at_ (by decide) (by decide) (by decide) g cur fr hg
        have hsb4 : ¬ three p q lb sb := not_three Hne.out.1 Hne.out.2.1 Hne.out.2.2
        have hbx4 : ¬ three p q lb w.heap.size := not_three (Ne.symm Hpq.out.2.2.2.2.1) (Ne.symm Hpq.out.2.2.2.2.2.1) (Ne.symm Hpq.out.2.2.2.2.2.2.1)
        have hR4 := HR3.out.chg hc4 hbx4 hsb4
        clear z0 z1 z2 z3 z4 z5
        obtain ⟨⟨z0, z1, z2⟩, z3, z4, z5⟩ := hR4.cells
        have HS4 : Hid (Sto w4 p q lb sb base m k half turn taken c e L N) := ⟨hd4, hl4, HS3.out.sto.chg hc4 hsb4 (fun g cur fr hg _ => hno4 g cur fr hg), HS3.out.n32, HS3.out.okn, Nat.le_trans HS3.out.le hc4.size, HS3.out.ne⟩
        have HR4 := Lib.hid hR4
        have HC4 : Hid (Chg (four p q lb sb) w w4) := (Chg.of (Al.out.trans (HB3.out.mono Al.out.size))).trans (chg43 hc4)
        have HN4 := Lib.hid (own_chg HN3.out hc4 (fun g cur fr hg _ => hno4 g cur fr hg))
        have HX4 := Lib.hid (HK.out w3 w4 (Al.out.trans (HB3.out.mono Al.out.size)) hc4)
        have HBs4 : Hid (B ≤ w4.heap.size ∧ w2.heap.size ≤ w4.heap.size) := ⟨Nat.le_trans (Nat.le_trans HBB.out HB3.out.size) hc4.size, Nat.le_trans HZ2.out.2 hc4.size⟩
        clear hd4 hl4 hc4 hno4 hsb4 hbx4 hR4)
    )
    have hR4 := hD HR4.out
    have hcl := hR4.cells
    have HS4' : Hid (w4.drew.cell? ⟨sb, 0, none⟩ = some (.pointer (some ⟨lb, 0, none⟩)) ∧ w4.drew.cell? ⟨w.heap.size, 0, none⟩ = some (.slice P1 p1 q1) ∧ w4.drew.cell? ⟨w.heap.size, 1, none⟩ = some (.slice P2 p2 q2) ∧ w4.drew.cell? ⟨w.heap.size, 2, none⟩ = some (.slice P3 p3 q3)) := ⟨hcl.2.1, hcl.1⟩
    have HR4d := Lib.hid hR4
    have HS4d := Lib.hid (HS4.out.below (Below.refl _ w4).drew)
    have HX4d := Lib.hid (HX4.out.below (Below.refl _ w4).drew)
    have HL4d := Lib.hid ((rds_of_own HN4.out Hn3.out.symm).below (Below.refl _ w4).drew)
    have HN4d := Lib.hid (own_below HN4.out (Below.refl _ w4).drew)
    have HC4d := Lib.hid (HC4.out.trans (Chg.of (Below.refl _ w4).drew))
    have hn3' : n3 ≤ maxLen := by have := Hn3.out; have := lastN_len (N ++ l); unfold maxLen; omega
    clear z0 z1 z2 z3 z4 z5 hcl hR4
    refine sk (fun w' => w'.cell? ⟨sb, 0, none⟩ = some (.pointer (some ⟨lb, 0, none⟩)) ∧ w'.cell? ⟨w.heap.size, 0, none⟩ = some (.slice P1 p1 q1) ∧ w'.cell? ⟨w.heap.size, 1, none⟩ = some (.slice P2 p2 q2) ∧ w'.cell? ⟨w.heap.size, 2, none⟩ = some (.slice P3 p3 q3)) 9 ?_ (fun hHeld => ?_)
    · (first | exact HS4'.out | exact hS5 | exact hS6)
    refine tk 0 36 hHeld ?_
    refine tk 1 37 hHeld ?_
    refine tk 2 38 hHeld ?_
    refine tk 3 39 hHeld ?_
    refine tk 4 40 hHeld ?_
    refine tk 5 41 hHeld ?_
    refine bk 6 42 (fun K hK => ?_)
    go_simp
    (go_at_call 12; (with_reducible refine (bytes_any ⟨P1, p1, q1, P2, p2, q2, P3, p3, q3⟩ x A3 n3 c3 w4.heap.size (lastN (N ++ l)) w4.drew HX4d.out HL4d.out hn3' (Nat.le_refl _)).mono ?_))
    rintro ed w5 ⟨bv5, rfl, hown5, hb5⟩
    rw [← Hb2.out, ← Hbl2.out] at hown5
    obtain ⟨A5, c5, rfl⟩ := own_shape hown5
    have hR5 := HR4d.out.below hb5
    have hcl := hR5.cells
    have hS5 : w5.cell? ⟨sb, 0, none⟩ = some (.pointer (some ⟨lb, 0, none⟩)) ∧ w5.cell? ⟨w.heap.size, 0, none⟩ = some (.slice P1 p1 q1) ∧ w5.cell? ⟨w.heap.size, 1, none⟩ = some (.slice P2 p2 q2) ∧ w5.cell? ⟨w.heap.size, 2, none⟩ = some (.slice P3 p3 q3) := ⟨hcl.2.1, hcl.1⟩
    have HSs5 := Lib.hid (HS4d.out.below hb5)
    have HN5 := Lib.hid (own_below HN4d.out hb5)
    have HC5 := Lib.hid (HC4d.out.trans (Chg.of hb5))
    have HO5 := Lib.hid hown5
    have HR5 := Lib.hid hR5
    have HZ5 : Hid (p < w4.drew.heap.size ∧ q < w4.drew.heap.size) := ⟨HS4d.out.dk.pl, HS4d.out.dk.ql⟩
    clear hown5 hb5 hcl hR5
    refine hK.out _ _ ?_ (fun hHeld' => ?_)
    · (first | exact HS4'.out | exact hS5 | exact hS6)
    clear hK K hHeld
    have hHeld := hHeld'
    clear hHeld'
    simp only [List.set_cons_zero, List.set_cons_succ]
    refine bk 7 43 (fun K hK => ?_)
    go_simp
    (go_at_call 52; (with_reducible refine (lg_comp_full HSs5.out.dk HSs5.out.at_ hlen2 hc').mono ?_))
    rintro ed w6 ⟨rfl, hd6, hl6, hc6⟩
    have hno6 : ∀ g cur fr, w5.heap[g]? = some (.cells cur 54 fr) → ¬ three p q lb g := fun g cur fr hg => three_not HSs5.out.dk HSs5.out.at_ (by decide) (by decide) (by decide) g cur fr hg
    have hsb6 : ¬ three p q lb sb := not_three Hne.out.1 Hne.out.2.1 Hne.out.2.2
    have hbx6 : ¬ three p q lb w.heap.size := not_three (Ne.symm Hpq.out.2.2.2.2.1) (Ne.symm Hpq.out.2.2.2.2.2.1) (Ne.symm Hpq.out.2.2.2.2.2.2.1)
    have hR6 := HR5.out.chg hc6 hbx6 hsb6
    have hcl := hR6.cells
    have hS6 : w6.cell? ⟨sb, 0, none⟩ = some (.pointer (some ⟨lb, 0, none⟩)) ∧ w6.cell? ⟨w.heap.size, 0, none⟩ = some (.slice P1 p1 q1) ∧ w6.cell? ⟨w.heap.size, 1, none⟩ = some (.slice P2 p2 q2) ∧ w6.cell? ⟨w.heap.size, 2, none⟩ = some (.slice P3 p3 q3) := ⟨hcl.2.1, hcl.1⟩
    have hz6 := hcl.2.2
    have HSs6 : Hid (Sto w6 p q lb sb base m k half turn taken c e L N) := ⟨hd6, hl6, HSs5.out.sto.chg hc6 hsb6 (fun g cur fr hg _ => hno6 g cur fr hg), HSs5.out.n32, HSs5.out.okn, Nat.le_trans HSs5.out.le hc6.size, HSs5.out.ne⟩
    have HN6 := Lib.hid (own_chg HN5.out hc6 (fun g cur fr hg _ => hno6 g cur fr hg))
    have HC6 := Lib.hid (HC5.out.trans (chg43 hc6))
    clear hd6 hl6 hc6 hno6 hsb6 hbx6 hR6 hcl
    refine hK.out _ _ ?_ (fun hHeld' => ?_)
    · (first | exact HS4'.out | exact hS5 | exact hS6)
    clear hK K hHeld
    have hHeld := hHeld'
    clear hHeld'
    simp only [List.set_cons_zero, List.set_cons_succ]
    refine tk 8 9 hHeld ?_
    refine wpAnyH_done (by kernel_rfl) ?_ _
    refine NoPanic.normal ?_
    obtain ⟨z4, z5⟩ := hz6
    clear hHeld hS6
    go_wp2_with fail
    go_ret
    refine ⟨5, half, turn, taken, L, N, base, rfl, HSs6.out.more (by omega), Nat.le_succ _, HC6.out, .inr ⟨Hok.out, Hf.out, .inr ⟨rfl, rfl, rfl, by rw [← Hb.out, ← Hbl.out]; exact ha⟩⟩, Nat.le_refl _, fun h => by cases h⟩
theorem put_any (sb lb p q base m k half turn taken c e : Nat) (L : List (List Nat)) (N : List Nt) (v : StV) (x : St) (A : Option Addr) (n cn B : Nat) (l : List Nt) (w : World) (hS : Sto w p q lb sb base m k half turn taken c e L N) (hx : StR w B v x) (hl : RdS Nt.cells w B 3 A n l) (hB : B ≤ w.heap.size ∧ B ≤ p ∧ B ≤ q ∧ B ≤ lb) (hn : n ≤ maxLen) (hk : k + 16 < 1000000) (ht : turn < 65535) :
    Calls Try.prog 17 #[.pointer (some ⟨sb, 0, none⟩), .agg #[.slice v.A1 v.n1 v.c1, .slice v.A2 v.n2 v.c2, .slice v.A3 v.n3 v.c3], .slice A n cn] w (PutPost w p q lb sb base m k turn taken c e L N x l) :=
  put_gen sb lb p q base m k half turn taken c e L N v x A n cn B l w hS hx hl hB.1 (fun w1 w2 h1 h2 => ((hx.below (h1.mono hB.1)).below (h2.below (Nat.le_trans hB.1 h1.size) (three_low hB.2.1 hB.2.2.1 hB.2.2.2))).more (Nat.le_trans hB.1 (Nat.le_trans h1.size h2.size))) hn hk ht
end Go.Proofs.Ytcdgaeenfhpnkaa
