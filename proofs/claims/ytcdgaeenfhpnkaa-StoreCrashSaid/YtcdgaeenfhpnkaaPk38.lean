/- A store on a disk whose power may fail: Put. -/
import Derived.Test.YtcdgaeenfhpnkaaPk34
set_option linter.unusedVariables false
set_option linter.unusedSimpArgs false
set_option maxRecDepth 100000
namespace Go.Proofs.Ytcdgaeenfhpnkaa.Cr
open Go Go.RowKit CrcMath
attribute [local go_sem] Oper.semAt_some

structure StM (B0 : Nat) (w : World) (p q lb sb base k c e : Nat) (s : PS) : Prop where
  hd : HD w (Lo B0) p q s.d
  wk : s.d.writes ≤ k
  at_ : LogAt w lb p s.half s.turn s.taken
  sto : StoAt w sb lb base c e s.N
  n32 : s.N.length ≤ 32
  okn : ∀ x ∈ s.N, okN x
  le : base ≤ w.heap.size
  h1 : s.half ≤ 1
  tk : s.taken ≤ s.d.L.length / 2
section
variable {B0 : Nat} {w w' : World} {p q lb sb base k c e half turn taken : Nat} {s : PS} {d : DD}
theorem StM.below (h : StM B0 w p q lb sb base k c e s) (hb : Below w.heap.size w w') : StM B0 w' p q lb sb base k c e s :=
  ⟨h.hd.below hb, h.wk, h.at_.below hb, h.sto.below hb, h.n32, h.okn, Nat.le_trans h.le hb.size, h.h1, h.tk⟩
theorem StM.sb_un (h : StM B0 w p q lb sb base k c e s) : ¬ XT B0 w p q lb sb := by
  obtain ⟨A, n, cap, h1, _⟩ := h.sto
  exact x_not h.hd h.at_ h1 (by decide)
theorem StM.step {k' : Nat} (h : StM B0 w p q lb sb base k c e s) (hd : HD w' (Lo B0) p q d) (hl : LogAt w' lb p half turn taken) (hc : Chg (XT B0 w p q lb) w w') (hk : d.writes ≤ k') (h1 : half ≤ 1) (ht : taken ≤ d.L.length / 2) : StM B0 w' p q lb sb base k' c e ⟨d, half, turn, taken, s.N⟩ :=
  ⟨hd, hk, hl, h.sto.chg hc h.sb_un (fun g cur fr hg _ => x_not h.hd h.at_ hg (by decide)), h.n32, h.okn, Nat.le_trans h.le hc.size, h1, ht⟩
theorem StM.more {k' : Nat} (h : StM B0 w p q lb sb base k c e s) (hk : k ≤ k') : StM B0 w p q lb sb base k' c e s :=
  ⟨h.hd, Nat.le_trans h.wk hk, h.at_, h.sto, h.n32, h.okn, h.le, h.h1, h.tk⟩
theorem StM.note {b2 b3 n cap : Nat} {N' : List Nt} {A : Option Addr} (h : StM B0 w p q lb sb base k c e s) (ho : w.ownsRow b2 54 3 (.slice A n cap) n (N'.flatMap Nt.cells)) (hn : N'.length = n) (h32 : N'.length ≤ 32) (hok : ∀ x ∈ N', okN x) (hb : b3 ≤ b2) (hle : b3 ≤ w.heap.size) :
    StM B0 (w.setCell ⟨sb, 3, none⟩ (.slice A n cap)) p q lb sb b3 k c e ⟨s.d, s.half, s.turn, s.taken, N'⟩ := by
  obtain ⟨A0, n0, cap0, h1, h2, h3⟩ := h.sto
  refine ⟨HD.ty h.hd h1 (by decide) (by decide), h.wk, h.at_.keep (heap_set_other _ rfl (ty_ne (show w.heap[lb]? = _ from h.at_) h1 (by decide))), ⟨A, n, cap, heap_set_same (j := 3) _ h1, own_base (own_ty ho h1 (by decide)) hb, hn⟩, h32, hok, by simpa using hle, h.h1, h.tk⟩
end
/-- what Put turns -/
def YT (B0 : Nat) (w : World) (p q lb sb : Nat) (j : Nat) : Prop := XT B0 w p q lb j ∨ j = sb
def PutX (B0 : Nat) (w : World) (p q lb sb base k c e : Nat) (s : PS) (x : St) (l : List Nt) (ed : Ending) (w' : World) : Prop :=
  ∃ b', ed = .returned (.int .i64 (s.put c e x l).1) ∧ StM B0 w' p q lb sb b' (k + 16) c e (s.put c e x l).2 ∧ Chg (YT B0 w p q lb sb) w w' ∧ base ≤ b' ∧ ((s.put c e x l).1 = 0 → w.heap.size ≤ b')
theorem wrF_writes (fr turn : Nat) (b : List Nat) : ∀ (r : List Nat) (d : DD), (wrF fr turn b d r).2.writes ≤ d.writes + r.length
  | [], d => Nat.le_refl _
  | i :: r, d => by
    have h := write_writes d ((fr : Int) + (i : Int)) (secP turn i (needsN b) (chunkN b i))
    unfold wrF
    rw [List.length_cons]
    split
    · have := wrF_writes fr turn b r (d.write ((fr : Int) + (i : Int)) (secP turn i (needsN b) (chunkN b i))).2
      omega
    · omega
theorem write_len (d : DD) (i : Int) (b : List Nat) : (d.write i b).2.L.length = d.L.length := by
  unfold DD.write
  split
  · rfl
  · split
    · split <;> simp
    · rfl
theorem wrF_len (fr turn : Nat) (b : List Nat) : ∀ (r : List Nat) (d : DD), (wrF fr turn b d r).2.L.length = d.L.length
  | [], d => rfl
  | i :: r, d => by
    have h := write_len d ((fr : Int) + (i : Int)) (secP turn i (needsN b) (chunkN b i))
    unfold wrF
    split
    · rw [wrF_len fr turn b r, h]
    · exact h
section
variable {w : World} {p q lb half turn taken n c B base : Nat} {d d7 : DD} {A : Option Addr} {bs : List Nat}
theorem add_0 (hd : HD w (Lo B) p q d) (hl : LogAt w lb p half turn taken) (ht : taken ≤ 1000) (hh : half ≤ 1) (htu : turn < 65536) (hn : 1 ≤ n ∧ n ≤ 448) (ho : w.ownsRow base 5 1 (.slice A n c) n (bs.map bv)) (hb : ∀ x ∈ bs, x < 256)
    (hw8 : d.writes + 8 < 1000000) (hf : ¬ d.L.length / 2 < taken + (n + 55) / 56) (hwr : wrF (half * (d.L.length / 2) + taken) turn bs d (List.range (needsN bs)) = (0, d7)) (hnb : needsN bs = (n + 55) / 56) :
    Calls Try.prog 51 #[.pointer (some ⟨lb, 0, none⟩), .slice A n c] w (StepX B p q lb d7 half turn (taken + (n + 55) / 56) w 0) := by
  have h := x_add hd hl ht hh htu hn ho hb hw8 hf 0 hwr
  rw [if_pos rfl, hnb] at h
  exact h
theorem add_1 {en : Nat} (hd : HD w (Lo B) p q d) (hl : LogAt w lb p half turn taken) (ht : taken ≤ 1000) (hh : half ≤ 1) (htu : turn < 65536) (hn : 1 ≤ n ∧ n ≤ 448) (ho : w.ownsRow base 5 1 (.slice A n c) n (bs.map bv)) (hb : ∀ x ∈ bs, x < 256)
    (hw8 : d.writes + 8 < 1000000) (hf : ¬ d.L.length / 2 < taken + (n + 55) / 56) (hwr : wrF (half * (d.L.length / 2) + taken) turn bs d (List.range (needsN bs)) = (en, d7)) (he : en ≠ 0) :
    Calls Try.prog 51 #[.pointer (some ⟨lb, 0, none⟩), .slice A n c] w (StepX B p q lb d7 half turn taken w en) := by
  have h := x_add hd hl ht hh htu hn ho hb hw8 hf en hwr
  rw [if_neg he] at h
  exact h
theorem comp_0 (hd : HD w (Lo B) p q d) (hl : LogAt w lb p half turn taken) (hh : half ≤ 1) (htu : turn < 65535) (hn : 1 ≤ n ∧ n ≤ 448) (ho : w.ownsRow base 5 1 (.slice A n c) n (bs.map bv)) (hb : ∀ x ∈ bs, x < 256)
    (hw8 : d.writes + 8 < 1000000) (hf : ¬ d.L.length / 2 < (n + 55) / 56) (hwr : wrF ((1 - half) * (d.L.length / 2)) (turn + 1) bs d (List.range (needsN bs)) = (0, d7)) (hnb : needsN bs = (n + 55) / 56) :
    Calls Try.prog 52 #[.pointer (some ⟨lb, 0, none⟩), .slice A n c] w (StepX B p q lb d7 (1 - half) (turn + 1) ((n + 55) / 56) w 0) := by
  have h := x_comp hd hl hh htu hn ho hb hw8 hf 0 hwr
  rw [if_pos rfl, if_pos rfl, if_pos rfl, hnb] at h
  exact h
theorem comp_1 {en : Nat} (hd : HD w (Lo B) p q d) (hl : LogAt w lb p half turn taken) (hh : half ≤ 1) (htu : turn < 65535) (hn : 1 ≤ n ∧ n ≤ 448) (ho : w.ownsRow base 5 1 (.slice A n c) n (bs.map bv)) (hb : ∀ x ∈ bs, x < 256)
    (hw8 : d.writes + 8 < 1000000) (hf : ¬ d.L.length / 2 < (n + 55) / 56) (hwr : wrF ((1 - half) * (d.L.length / 2)) (turn + 1) bs d (List.range (needsN bs)) = (en, d7)) (he : en ≠ 0) :
    Calls Try.prog 52 #[.pointer (some ⟨lb, 0, none⟩), .slice A n c] w (StepX B p q lb d7 half turn taken w en) := by
  have h := x_comp hd hl hh htu hn ho hb hw8 hf en hwr
  rw [if_neg he, if_neg he, if_neg he] at h
  exact h
end
set_option maxHeartbeats 16000000 in
theorem put_x (B0 sb lb p q base k c e : Nat) (s : PS) (v : StV) (x : St) (A : Option Addr) (n cn B : Nat) (l : List Nt) (w : World) (hS : StM B0 w p q lb sb base k c e s) (hx : StR w B v x) (hl : RdS Nt.cells w B 3 A n l) (hB : B ≤ w.heap.size) (hBB0 : B ≤ B0 ∧ B ≤ lb) (hn : n ≤ maxLen) (hk : k + 16 < 1000000) (ht : s.turn < 65535) :
    Calls Try.prog 17 #[.pointer (some ⟨sb, 0, none⟩), .agg #[.slice v.A1 v.n1 v.c1, .slice v.A2 v.n2 v.c2, .slice v.A3 v.n3 v.c3], .slice A n cn] w (PutX B0 w p q lb sb base k c e s x l) := by
  obtain ⟨P1, p1, q1, P2, p2, q2, P3, p3, q3⟩ := v
  obtain ⟨d, half, turn, taken, N⟩ := s
  obtain ⟨A0, n0, cap0, s1, s2, s3⟩ := hS.sto
  dsimp only at s1 s2 s3 ht
  have hsl : sb < w.heap.size := hS.sto.lt
  obtain ⟨hlop, hloq, hlos⟩ := HD.lo hS.hd
  have hkp : ∀ w1 w2, Below w.heap.size w w1 → Chg (XT B0 w1 p q lb) w1 w2 → StR w2 w2.heap.size ⟨P1, p1, q1, P2, p2, q2, P3, p3, q3⟩ x := fun w1 w2 h1 h2 =>
    ((hx.below (h1.mono hB)).below (h2.below (Nat.le_trans hB h1.size) (fun j hj => by rcases hj with rfl | rfl | rfl | hj; omega; omega; omega; have := hj.1; omega))).more (Nat.le_trans hB (Nat.le_trans h1.size h2.size))
  have hn0 : n0 ≤ 32 := by have := hS.n32; dsimp only at this; omega
  have hln : l.length = n := hl.1
  have hlen256 : d.L.length ≤ 256 := by obtain ⟨c', h⟩ := hS.hd; exact h.ok.2.1
  have htk : taken ≤ 1000 := by have := hS.tk; dsimp only at this; omega
  have hwr8 : d.writes ≤ k := hS.wk
  have hh1 : half ≤ 1 := hS.h1
  obtain ⟨wb, hwb⟩ : ∃ y, y = w.alloc (.cells #[.slice P1 p1 q1, .slice P2 p2 q2, .slice P3 p3 q3] 25) := ⟨_, rfl⟩
  have al : Below w.heap.size w wb := by rw [hwb]; exact (Below.refl _ _).alloc (Nat.le_refl _) _
  have hzb : wb.heap.size = w.heap.size + 1 := by rw [hwb]; simp only [World.size_alloc]
  have hR : PR wb w.heap.size sb #[.slice P1 p1 q1, .slice P2 p2 q2, .slice P3 p3 q3] lb c e (.slice A0 n0 cap0) := ⟨by rw [hwb]; exact heap_alloc_new _ _, (al.block sb hsl).trans s1⟩
  obtain ⟨⟨z0, z1, z2⟩, z3, z4, z5⟩ := hR.cells
  have hSb := hS.below al
  have hxb := hx.below (al.mono hB)
  have hlb := hl.below (al.mono hB)
  obtain ⟨b, hb⟩ : ∃ b, b = bytesF x l := ⟨_, rfl⟩
  obtain ⟨bl, hbl⟩ : ∃ bl, bl = b.length := ⟨_, rfl⟩
  have hx4 : ∀ y ∈ b, y < 256 := by rw [hb]; exact bytesF_lt _ _
  have HS := Lib.hid hSb
  have HX := Lib.hid hxb
  have HL := Lib.hid hlb
  have HR := Lib.hid hR
  have Al := Lib.hid al
  have Hwb := Lib.hid hwb
  have Hzb := Lib.hid hzb
  have Hb := Lib.hid hb
  have Hbl := Lib.hid hbl
  have Hln := Lib.hid hln
  have Hsl := Lib.hid hsl
  have HBB : Hid (B ≤ wb.heap.size) := by show _ ≤ _; omega
  have HK := Lib.hid hkp
  have Hx4 := Lib.hid hx4
  have Hokn : Hid (∀ x ∈ N, okN x) := hS.okn
  have Hbase := Lib.hid hS.le
  have Hs23 := Lib.hid (And.intro (rds_of_own s2 s3) (own_max s2).1)
  clear hS hx hl al hwb hzb hR hSb hxb hlb hb hbl hln hsl hx4 hB hkp s1 s2 s3 hlop hloq hlos hBB0
  by_cases hok : okR x l
  rotate_left
  · have hbl0 : bl = 0 := by rw [Hbl.out, Hb.out, bytesF_no hok]; rfl
    have Hput : Hid (PS.put ⟨d, half, turn, taken, N⟩ c e x l = (1, ⟨d, half, turn, taken, N⟩)) := if_pos (fun h => hok h.1)
    subst hbl0
    clear hok
    go_enter Try.func17, Try.ntmps17
    go_wp2_with (first
      | (rw [← Hwb.out]
         go_at_call 12; (with_reducible refine (bytes_any ⟨P1, p1, q1, P2, p2, q2, P3, p3, q3⟩ x A n cn B l wb HX.out HL.out hn HBB.out).mono ?_)
         rintro ed w1 ⟨bv1, rfl, hown1, hb1⟩
         rw [← Hb.out, ← Hbl.out] at hown1
         obtain ⟨A1, c1, rfl⟩ := own_shape hown1
         have hR1 := HR.out.below hb1
         clear z0 z1 z2 z3 z4 z5
         obtain ⟨⟨z0, z1, z2⟩, z3, z4, z5⟩ := hR1.cells
         have HR1 := Lib.hid hR1
         have HS1 := Lib.hid (HS.out.below hb1)
         have HB1 := Lib.hid hb1
         have HO1 := Lib.hid hown1
         clear hown1 hb1 hR1))
    go_ret
    unfold PutX
    rw [Hput.out]
    exact ⟨base, rfl, HS1.out.more (by omega), Chg.of (Al.out.trans (HB1.out.mono Al.out.size)), Nat.le_refl _, fun h => by cases h⟩
  have hlen := bytesF_len hok
  rw [← Hb.out, ← Hbl.out] at hlen
  have hbI : ((bl : Int) == 0) = false := beq_eq_false_iff_ne.2 (by omega)
  have hn32 : n ≤ 32 := by have := hok.2.1; have := Hln.out; omega
  have Hok := Lib.hid hok
  have hnb : needsN b = (bl + 55) / 56 := by unfold needsN; rw [← Hbl.out]
  clear hok
  by_cases hf : x.causes.length = c ∧ x.effects.length = e
  rotate_left
  · have HF : Hid (decide (x.causes.length = c ∧ x.effects.length = e) = false) := decide_eq_false hf
    have Hput : Hid (PS.put ⟨d, half, turn, taken, N⟩ c e x l = (1, ⟨d, half, turn, taken, N⟩)) := if_pos (fun h => hf ⟨h.2.1, h.2.2⟩)
    clear hf hnb
    go_enter Try.func17, Try.ntmps17
    go_wp2_with (first
      | (rw [← Hwb.out]
         go_at_call 12; (with_reducible refine (bytes_any ⟨P1, p1, q1, P2, p2, q2, P3, p3, q3⟩ x A n cn B l wb HX.out HL.out hn HBB.out).mono ?_)
         rintro ed w1 ⟨bv1, rfl, hown1, hb1⟩
         rw [← Hb.out, ← Hbl.out] at hown1
         obtain ⟨A1, c1, rfl⟩ := own_shape hown1
         have hR1 := HR.out.below hb1
         clear z0 z1 z2 z3 z4 z5
         obtain ⟨⟨z0, z1, z2⟩, z3, z4, z5⟩ := hR1.cells
         have HR1 := Lib.hid hR1
         have HS1 := Lib.hid (HS.out.below hb1)
         have HB1 := Lib.hid hb1
         have HO1 := Lib.hid hown1
         clear hown1 hb1 hR1)
      | (go_at_call 49; (with_reducible refine (fits_any sb lb base c e N ⟨P1, p1, q1, P2, p2, q2, P3, p3, q3⟩ x B w1 HS1.out.sto (HX.out.below (HB1.out.mono HBB.out))).mono ?_)
         rintro ed w2 ⟨he, hb2⟩
         rw [HF.out] at he
         subst he
         have hR2 := HR1.out.below hb2
         clear z0 z1 z2 z3 z4 z5
         obtain ⟨⟨z0, z1, z2⟩, z3, z4, z5⟩ := hR2.cells
         have HR2 := Lib.hid hR2
         have HS2 := Lib.hid (HS1.out.below hb2)
         have HB2 := Lib.hid (HB1.out.trans (hb2.mono HB1.out.size))
         have HO2 := Lib.hid (own_below HO1.out hb2)
         clear hb2 hR2))
    go_ret
    unfold PutX
    rw [Hput.out]
    exact ⟨base, rfl, HS2.out.more (by omega), Chg.of (Al.out.trans (HB2.out.mono Al.out.size)), Nat.le_refl _, fun h => by cases h⟩
  have HF : Hid (decide (x.causes.length = c ∧ x.effects.length = e) = true) := decide_eq_true hf
  have hno : ¬ ¬ (okR x l ∧ x.causes.length = c ∧ x.effects.length = e) := fun h => h ⟨Hok.out, hf.1, hf.2⟩
  clear hf
  have hnr : (List.range (needsN b)).length ≤ 8 := by rw [List.length_range, hnb]; omega
  by_cases ha : taken + (bl + 55) / 56 ≤ d.L.length / 2
  · obtain ⟨en, d7, hwr⟩ : ∃ en d7, wrF (half * (d.L.length / 2) + taken) turn b d (List.range (needsN b)) = (en, d7) := ⟨_, _, rfl⟩
    have Hwr := Lib.hid hwr
    have hl7 : d7.L.length = d.L.length := by have := wrF_len (half * (d.L.length / 2) + taken) turn b (List.range (needsN b)) d; rw [hwr] at this; exact this
    have hw7 : d7.writes ≤ k + 8 := by have := wrF_writes (half * (d.L.length / 2) + taken) turn b (List.range (needsN b)) d; rw [hwr] at this; dsimp only at this; omega
    have hcode := wrF_code (half * (d.L.length / 2) + taken) turn b (List.range (needsN b)) d
    rw [hwr] at hcode
    dsimp only at hcode
    have Hwk : Hid (d7.writes ≤ k + 8) := hw7
    have Htk : Hid (taken + (bl + 55) / 56 ≤ d7.L.length / 2) := by show _ ≤ _; rw [hl7]; exact ha
    have haf : ¬ d.L.length / 2 < taken + (bl + 55) / 56 := by omega
    have hput : PS.put ⟨d, half, turn, taken, N⟩ c e x l = PS.add ⟨d, half, turn, taken, N⟩ b (lastN (N ++ l)) := by
      unfold PS.put
      rw [if_neg hno, ← Hb.out, if_pos (by show _ ≤ d.L.length / 2; rw [hnb]; exact ha)]
    rcases hcode with rfl | hcode
    · have Hput : Hid (PS.put ⟨d, half, turn, taken, N⟩ c e x l = (0, ⟨d7, half, turn, taken + (bl + 55) / 56, lastN (N ++ l)⟩)) := by
        show _ = _
        rw [hput]
        unfold PS.add
        dsimp only
        rw [hwr, ← hnb]
        rfl
      clear hput hwr hl7 hw7 hno
      go_enter Try.func17, Try.ntmps17
      go_wp2_with (first
        | (rw [← Hwb.out]
           go_at_call 12; (with_reducible refine (bytes_any ⟨P1, p1, q1, P2, p2, q2, P3, p3, q3⟩ x A n cn B l wb HX.out HL.out hn HBB.out).mono ?_)
           rintro ed w1 ⟨bv1, rfl, hown1, hb1⟩
           rw [← Hb.out, ← Hbl.out] at hown1
           obtain ⟨A1, c1, rfl⟩ := own_shape hown1
           have hR1 := HR.out.below hb1
           clear z0 z1 z2 z3 z4 z5
           obtain ⟨⟨z0, z1, z2⟩, z3, z4, z5⟩ := hR1.cells
           have HR1 := Lib.hid hR1
           have HS1 := Lib.hid (HS.out.below hb1)
           have HB1 := Lib.hid hb1
           have HO1 := Lib.hid hown1
           clear hown1 hb1 hR1)
        | (go_at_call 49; (with_reducible refine (fits_any sb lb base c e N ⟨P1, p1, q1, P2, p2, q2, P3, p3, q3⟩ x B w1 HS1.out.sto (HX.out.below (HB1.out.mono HBB.out))).mono ?_)
           rintro ed w2 ⟨he, hb2⟩
           rw [HF.out] at he
           subst he
           have hR2 := HR1.out.below hb2
           clear z0 z1 z2 z3 z4 z5
           obtain ⟨⟨z0, z1, z2⟩, z3, z4, z5⟩ := hR2.cells
           have HR2 := Lib.hid hR2
           have HS2 := Lib.hid (HS1.out.below hb2)
           have HB2 := Lib.hid (HB1.out.trans (hb2.mono HB1.out.size))
           have HO2 := Lib.hid (own_below HO1.out hb2)
           clear hb2 hR2)
        | (go_at_call 50; (with_reducible refine (last_any A0 A n0 n cap0 cn N l w2 ((Hs23.out.1.below (Al.out.trans (HB2.out.mono Al.out.size))).more (Nat.le_trans Al.out.size HB2.out.size)) ((HL.out.below (HB2.out.mono HBB.out)).more (Nat.le_trans HBB.out HB2.out.size)) (by omega) (by omega)).mono ?_)
           rintro ed w3 ⟨A3, c3, he, hown3, hb3⟩
           obtain ⟨n3, hn3⟩ : ∃ y, y = (lastN (N ++ l)).length := ⟨_, rfl⟩
           rw [← hn3] at he hown3
           subst he
           have hR3 := HR2.out.below hb3
           clear z0 z1 z2 z3 z4 z5
           obtain ⟨⟨z0, z1, z2⟩, z3, z4, z5⟩ := hR3.cells
           have HR3 := Lib.hid hR3
           have HS3 := Lib.hid (HS2.out.below hb3)
           have HB3 := Lib.hid (HB2.out.trans (hb3.mono HB2.out.size))
           have HO3 := Lib.hid (own_below HO2.out hb3)
           have HN3 := Lib.hid hown3
           have Hn3 := Lib.hid hn3
           have HZ2 : Hid (wb.heap.size ≤ w2.heap.size ∧ w2.heap.size ≤ w3.heap.size) := ⟨HB2.out.size, hb3.size⟩
           clear hown3 hb3 hR3 hn3)
        | (go_at_call 51; (with_reducible refine (add_0 (d := d) (half := half) (turn := turn) (taken := taken) HS3.out.hd HS3.out.at_ htk hh1 (by omega) hlen HO3.out Hx4.out (by omega) haf Hwr.out hnb).mono ?_)
           rintro ed w4 ⟨rfl, hd4, hl4, hc4⟩
           have hR4 := HR3.out.chg hc4 (x_not HS3.out.hd HS3.out.at_ HR3.out.box (by decide)) (x_not HS3.out.hd HS3.out.at_ HR3.out.sto (by decide))
           clear z0 z1 z2 z3 z4 z5
           obtain ⟨⟨z0, z1, z2⟩, z3, z4, z5⟩ := hR4.cells
           have HS4 : Hid (StM B0 w4 p q lb sb base (k + 8) c e ⟨d7, half, turn, taken + (bl + 55) / 56, N⟩) := HS3.out.step hd4 hl4 hc4 (by have := Hwk.out; omega) hh1 (by have := Htk.out; omega)
           have HR4 := Lib.hid hR4
           have HC4 : Hid (Chg (XT B0 w p q lb) w w4) := Chg.xt (Al.out.trans (HB3.out.mono Al.out.size)) hc4
           have HN4 := Lib.hid (own_chg HN3.out hc4 (fun g cur fr hg _ => x_not HS3.out.hd HS3.out.at_ hg (by decide)))
           have HX4 := Lib.hid (HK.out w3 w4 (Al.out.trans (HB3.out.mono Al.out.size)) hc4)
           clear hd4 hl4 hc4 hR4))
      go_ret
      have hs5 := HS4.out.note (b3 := w.heap.size) HN4.out Hn3.out.symm (lastN_len _) (okR_last Hok.out Hokn.out).2.2 (by have := Hzb.out; have := HZ2.out; omega) HC4.out.size
      unfold PutX
      rw [Hput.out]
      exact ⟨w.heap.size, rfl, hs5.more (by omega), chg_set (HC4.out.mono fun j hj => .inl hj) (.inr rfl), Hbase.out, fun _ => Nat.le_refl _⟩
    · have hen0 : ((en : Int) == 0) = false := by rcases hcode with rfl | rfl <;> rfl
      have hen5 : ((en : Int) == 5) = false := by rcases hcode with rfl | rfl <;> rfl
      have hne : en ≠ 0 := by omega
      have Hput : Hid (PS.put ⟨d, half, turn, taken, N⟩ c e x l = (en, ⟨d7, half, turn, taken, N⟩)) := by
        show _ = _
        rw [hput]
        unfold PS.add
        dsimp only
        rw [hwr, if_neg hne]
      have Hne := Lib.hid hne
      clear hput hwr hl7 hw7 hno hne hcode
      go_enter Try.func17, Try.ntmps17
      go_wp2_with (first
        | (rw [← Hwb.out]
           go_at_call 12; (with_reducible refine (bytes_any ⟨P1, p1, q1, P2, p2, q2, P3, p3, q3⟩ x A n cn B l wb HX.out HL.out hn HBB.out).mono ?_)
           rintro ed w1 ⟨bv1, rfl, hown1, hb1⟩
           rw [← Hb.out, ← Hbl.out] at hown1
           obtain ⟨A1, c1, rfl⟩ := own_shape hown1
           have hR1 := HR.out.below hb1
           clear z0 z1 z2 z3 z4 z5
           obtain ⟨⟨z0, z1, z2⟩, z3, z4, z5⟩ := hR1.cells
           have HR1 := Lib.hid hR1
           have HS1 := Lib.hid (HS.out.below hb1)
           have HB1 := Lib.hid hb1
           have HO1 := Lib.hid hown1
           clear hown1 hb1 hR1)
        | (go_at_call 49; (with_reducible refine (fits_any sb lb base c e N ⟨P1, p1, q1, P2, p2, q2, P3, p3, q3⟩ x B w1 HS1.out.sto (HX.out.below (HB1.out.mono HBB.out))).mono ?_)
           rintro ed w2 ⟨he, hb2⟩
           rw [HF.out] at he
           subst he
           have hR2 := HR1.out.below hb2
           clear z0 z1 z2 z3 z4 z5
           obtain ⟨⟨z0, z1, z2⟩, z3, z4, z5⟩ := hR2.cells
           have HR2 := Lib.hid hR2
           have HS2 := Lib.hid (HS1.out.below hb2)
           have HB2 := Lib.hid (HB1.out.trans (hb2.mono HB1.out.size))
           have HO2 := Lib.hid (own_below HO1.out hb2)
           clear hb2 hR2)
        | (go_at_call 50; (with_reducible refine (last_any A0 A n0 n cap0 cn N l w2 ((Hs23.out.1.below (Al.out.trans (HB2.out.mono Al.out.size))).more (Nat.le_trans Al.out.size HB2.out.size)) ((HL.out.below (HB2.out.mono HBB.out)).more (Nat.le_trans HBB.out HB2.out.size)) (by omega) (by omega)).mono ?_)
           rintro ed w3 ⟨A3, c3, he, hown3, hb3⟩
           obtain ⟨n3, hn3⟩ : ∃ y, y = (lastN (N ++ l)).length := ⟨_, rfl⟩
           rw [← hn3] at he hown3
           subst he
           have hR3 := HR2.out.below hb3
           clear z0 z1 z2 z3 z4 z5
           obtain ⟨⟨z0, z1, z2⟩, z3, z4, z5⟩ := hR3.cells
           have HR3 := Lib.hid hR3
           have HS3 := Lib.hid (HS2.out.below hb3)
           have HB3 := Lib.hid (HB2.out.trans (hb3.mono HB2.out.size))
           have HO3 := Lib.hid (own_below HO2.out hb3)
           have HN3 := Lib.hid hown3
           have Hn3 := Lib.hid hn3
           have HZ2 : Hid (wb.heap.size ≤ w2.heap.size ∧ w2.heap.size ≤ w3.heap.size) := ⟨HB2.out.size, hb3.size⟩
           clear hown3 hb3 hR3 hn3)
        | (go_at_call 51; (with_reducible refine (add_1 (d := d) (half := half) (turn := turn) (taken := taken) HS3.out.hd HS3.out.at_ htk hh1 (by omega) hlen HO3.out Hx4.out (by omega) haf Hwr.out Hne.out).mono ?_)
           rintro ed w4 ⟨rfl, hd4, hl4, hc4⟩
           have hR4 := HR3.out.chg hc4 (x_not HS3.out.hd HS3.out.at_ HR3.out.box (by decide)) (x_not HS3.out.hd HS3.out.at_ HR3.out.sto (by decide))
           clear z0 z1 z2 z3 z4 z5
           obtain ⟨⟨z0, z1, z2⟩, z3, z4, z5⟩ := hR4.cells
           have HS4 : Hid (StM B0 w4 p q lb sb base (k + 8) c e ⟨d7, half, turn, taken, N⟩) := HS3.out.step hd4 hl4 hc4 (by have := Hwk.out; omega) hh1 (by have := Htk.out; omega)
           have HR4 := Lib.hid hR4
           have HC4 : Hid (Chg (XT B0 w p q lb) w w4) := Chg.xt (Al.out.trans (HB3.out.mono Al.out.size)) hc4
           have HN4 := Lib.hid (own_chg HN3.out hc4 (fun g cur fr hg _ => x_not HS3.out.hd HS3.out.at_ hg (by decide)))
           have HX4 := Lib.hid (HK.out w3 w4 (Al.out.trans (HB3.out.mono Al.out.size)) hc4)
           clear hd4 hl4 hc4 hR4))
      go_ret
      unfold PutX
      rw [Hput.out]
      exact ⟨base, rfl, HS4.out.more (by omega), HC4.out.mono fun j hj => .inl hj, Nat.le_refl _, fun h => absurd h Hne.out⟩
  have haf : d.L.length / 2 < taken + (bl + 55) / 56 := by omega
  clear ha
  obtain ⟨b2, hb2⟩ : ∃ y, y = bytesF x (lastN (N ++ l)) := ⟨_, rfl⟩
  obtain ⟨bl2, hbl2⟩ : ∃ y, y = b2.length := ⟨_, rfl⟩
  have hlen2 := bytesF_len (okR_last Hok.out Hokn.out)
  rw [← hb2, ← hbl2] at hlen2
  have hnb2 : needsN b2 = (bl2 + 55) / 56 := by unfold needsN; rw [← hbl2]
  have Hb2 := Lib.hid hb2
  have Hbl2 := Lib.hid hbl2
  have Hx5 : Hid (∀ y ∈ b2, y < 256) := by show ∀ y ∈ b2, y < 256; rw [hb2]; exact bytesF_lt _ _
  have Hwk : Hid (d.writes ≤ k) := hwr8
  have Htk : Hid (taken ≤ d.L.length / 2) := HS.out.tk
  have hD : ∀ {W : World}, PR W w.heap.size sb #[.slice P1 p1 q1, .slice P2 p2 q2, .slice P3 p3 q3] lb c e (.slice A0 n0 cap0) → PR W.drew w.heap.size sb #[.slice P1 p1 q1, .slice P2 p2 q2, .slice P3 p3 q3] lb c e (.slice A0 n0 cap0) := fun h => ⟨h.box, h.sto⟩
  have hput1 : PS.put ⟨d, half, turn, taken, N⟩ c e x l = if d.L.length / 2 < needsN b2 then (5, ⟨d, half, turn, taken, N⟩) else PS.comp ⟨d, half, turn, taken, N⟩ b2 (lastN (N ++ l)) := by
    unfold PS.put
    rw [if_neg hno, ← Hb.out, if_neg (by show ¬ taken + needsN b ≤ d.L.length / 2; rw [hnb]; omega), ← hb2]
  clear hno hnr hnb hb2 hbl2
  by_cases hc : d.L.length / 2 < (bl2 + 55) / 56
  · have Hput : Hid (PS.put ⟨d, half, turn, taken, N⟩ c e x l = (5, ⟨d, half, turn, taken, N⟩)) := by
      show _ = _
      rw [hput1, if_pos (by rw [hnb2]; exact hc)]
    have Hwk2 := Hwk
    have Htk2 := Htk
    have Hne : Hid ((5 : Nat) ≠ 0) := by show _ ≠ _; omega
    clear hput1
    go_enter Try.func17, Try.ntmps17
    go_wp2_with (first
      | (rw [← Hwb.out]
         go_at_call 12; (with_reducible refine (bytes_any ⟨P1, p1, q1, P2, p2, q2, P3, p3, q3⟩ x A n cn B l wb HX.out HL.out hn HBB.out).mono ?_)
         rintro ed w1 ⟨bv1, rfl, hown1, hb1⟩
         rw [← Hb.out, ← Hbl.out] at hown1
         obtain ⟨A1, c1, rfl⟩ := own_shape hown1
         have hR1 := HR.out.below hb1
         clear z0 z1 z2 z3 z4 z5
         obtain ⟨⟨z0, z1, z2⟩, z3, z4, z5⟩ := hR1.cells
         have HR1 := Lib.hid hR1
         have HS1 := Lib.hid (HS.out.below hb1)
         have HB1 := Lib.hid hb1
         have HO1 := Lib.hid hown1
         clear hown1 hb1 hR1)
      | (go_at_call 49; (with_reducible refine (fits_any sb lb base c e N ⟨P1, p1, q1, P2, p2, q2, P3, p3, q3⟩ x B w1 HS1.out.sto (HX.out.below (HB1.out.mono HBB.out))).mono ?_)
         rintro ed w2 ⟨he, hb2⟩
         rw [HF.out] at he
         subst he
         have hR2 := HR1.out.below hb2
         clear z0 z1 z2 z3 z4 z5
         obtain ⟨⟨z0, z1, z2⟩, z3, z4, z5⟩ := hR2.cells
         have HR2 := Lib.hid hR2
         have HS2 := Lib.hid (HS1.out.below hb2)
         have HB2 := Lib.hid (HB1.out.trans (hb2.mono HB1.out.size))
         have HO2 := Lib.hid (own_below HO1.out hb2)
         clear hb2 hR2)
      | (go_at_call 50; (with_reducible refine (last_any A0 A n0 n cap0 cn N l w2 ((Hs23.out.1.below (Al.out.trans (HB2.out.mono Al.out.size))).more (Nat.le_trans Al.out.size HB2.out.size)) ((HL.out.below (HB2.out.mono HBB.out)).more (Nat.le_trans HBB.out HB2.out.size)) (by omega) (by omega)).mono ?_)
         rintro ed w3 ⟨A3, c3, he, hown3, hb3⟩
         obtain ⟨n3, hn3⟩ : ∃ y, y = (lastN (N ++ l)).length := ⟨_, rfl⟩
         rw [← hn3] at he hown3
         subst he
         have hR3 := HR2.out.below hb3
         clear z0 z1 z2 z3 z4 z5
         obtain ⟨⟨z0, z1, z2⟩, z3, z4, z5⟩ := hR3.cells
         have HR3 := Lib.hid hR3
         have HS3 := Lib.hid (HS2.out.below hb3)
         have HB3 := Lib.hid (HB2.out.trans (hb3.mono HB2.out.size))
         have HO3 := Lib.hid (own_below HO2.out hb3)
         have HN3 := Lib.hid hown3
         have Hn3 := Lib.hid hn3
         have HZ2 : Hid (wb.heap.size ≤ w2.heap.size ∧ w2.heap.size ≤ w3.heap.size) := ⟨HB2.out.size, hb3.size⟩
         clear hown3 hb3 hR3 hn3)
      | (go_at_call 51; (with_reducible refine (x_add_full (d := d) (half := half) (turn := turn) (taken := taken) HS3.out.hd HS3.out.at_ htk hlen haf).mono ?_)
         rintro ed w4 ⟨rfl, hd4, hl4, hc4⟩
         have hR4 := HR3.out.chg hc4 (x_not HS3.out.hd HS3.out.at_ HR3.out.box (by decide)) (x_not HS3.out.hd HS3.out.at_ HR3.out.sto (by decide))
         clear z0 z1 z2 z3 z4 z5
         obtain ⟨⟨z0, z1, z2⟩, z3, z4, z5⟩ := hR4.cells
         have HS4 : Hid (StM B0 w4 p q lb sb base k c e ⟨d, half, turn, taken, N⟩) := HS3.out.step hd4 hl4 hc4 (by have := Hwk.out; omega) hh1 (by have := Htk.out; omega)
         have HR4 := Lib.hid hR4
         have HC4 : Hid (Chg (XT B0 w p q lb) w w4) := Chg.xt (Al.out.trans (HB3.out.mono Al.out.size)) hc4
         have HN4 := Lib.hid (own_chg HN3.out hc4 (fun g cur fr hg _ => x_not HS3.out.hd HS3.out.at_ hg (by decide)))
         have HX4 := Lib.hid (HK.out w3 w4 (Al.out.trans (HB3.out.mono Al.out.size)) hc4)
         clear hd4 hl4 hc4 hR4))
    have hR4 := hD HR4.out
    have hcl := hR4.cells
    have HS4' : Hid (w4.drew.cell? ⟨sb, 0, none⟩ = some (.pointer (some ⟨lb, 0, none⟩)) ∧ w4.drew.cell? ⟨w.heap.size, 0, none⟩ = some (.slice P1 p1 q1) ∧ w4.drew.cell? ⟨w.heap.size, 1, none⟩ = some (.slice P2 p2 q2) ∧ w4.drew.cell? ⟨w.heap.size, 2, none⟩ = some (.slice P3 p3 q3)) := ⟨hcl.2.1, hcl.1⟩
    have HR4d := Lib.hid hR4
    have HS4d := Lib.hid (HS4.out.below (Below.refl _ w4).drew)
    have HX4d := Lib.hid (HX4.out.below (Below.refl _ w4).drew)
    have HL4d := Lib.hid ((rds_of_own HN4.out Hn3.out.symm).below (Below.refl _ w4).drew)
    have HN4d := Lib.hid (own_below HN4.out (Below.refl _ w4).drew)
    have HC4d : Hid (Chg (XT B0 w p q lb) w w4.drew) := HC4.out.trans (Chg.of (Below.refl _ w4).drew)
    have hn3' : n3 ≤ maxLen := by have := Hn3.out; have := lastN_len (N ++ l); unfold maxLen; omega
    clear z0 z1 z2 z3 z4 z5 hcl hR4
    refine sk (fun w' => w'.cell? ⟨sb, 0, none⟩ = some (.pointer (some ⟨lb, 0, none⟩)) ∧ w'.cell? ⟨w.heap.size, 0, none⟩ = some (.slice P1 p1 q1) ∧ w'.cell? ⟨w.heap.size, 1, none⟩ = some (.slice P2 p2 q2) ∧ w'.cell? ⟨w.heap.size, 2, none⟩ = some (.slice P3 p3 q3)) 9 ?_ (fun hHeld => ?_)
    · (first | exact HS4'.out | exact hS5 | exact hS6)
    refine tk 0 36 hHeld ?_
    refine tk 1 37 hHeld ?_
    refine tk 2 38 hHeld ?_
    refine tk 3 39 hHeld ?_
    refine tk 4 40 hHeld ?_
    refine tk 5 41 hHeld ?_
    refine bk 6 42 (fun K hK => ?_)
    go_simp
    (go_at_call 12; (with_reducible refine (bytes_any ⟨P1, p1, q1, P2, p2, q2, P3, p3, q3⟩ x A3 n3 c3 w4.heap.size (lastN (N ++ l)) w4.drew HX4d.out HL4d.out hn3' (Nat.le_refl _)).mono ?_))
    rintro ed w5 ⟨bv5, rfl, hown5, hb5⟩
    rw [← Hb2.out, ← Hbl2.out] at hown5
    obtain ⟨A5, c5, rfl⟩ := own_shape hown5
    have hR5 := HR4d.out.below hb5
    have hcl := hR5.cells
    have hS5 : w5.cell? ⟨sb, 0, none⟩ = some (.pointer (some ⟨lb, 0, none⟩)) ∧ w5.cell? ⟨w.heap.size, 0, none⟩ = some (.slice P1 p1 q1) ∧ w5.cell? ⟨w.heap.size, 1, none⟩ = some (.slice P2 p2 q2) ∧ w5.cell? ⟨w.heap.size, 2, none⟩ = some (.slice P3 p3 q3) := ⟨hcl.2.1, hcl.1⟩
    have HSs5 := Lib.hid (HS4d.out.below hb5)
    have HN5 := Lib.hid (own_below HN4d.out hb5)
    have HC5 : Hid (Chg (XT B0 w p q lb) w w5) := HC4d.out.trans (Chg.of hb5)
    have HO5 := Lib.hid hown5
    have HR5 := Lib.hid hR5
    clear hown5 hb5 hcl hR5
    refine hK.out _ _ ?_ (fun hHeld' => ?_)
    · (first | exact HS4'.out | exact hS5 | exact hS6)
    clear hK K hHeld
    have hHeld := hHeld'
    clear hHeld'
    simp only [List.set_cons_zero, List.set_cons_succ]
    refine bk 7 43 (fun K hK => ?_)
    go_simp
    (go_at_call 52; (with_reducible refine (x_comp_full (d := d) (half := half) (turn := turn) (taken := taken) HSs5.out.hd HSs5.out.at_ hlen2 hc).mono ?_))
    rintro ed w6 ⟨rfl, hd6, hl6, hc6⟩
    have hR6 := HR5.out.chg hc6 (x_not HSs5.out.hd HSs5.out.at_ HR5.out.box (by decide)) (x_not HSs5.out.hd HSs5.out.at_ HR5.out.sto (by decide))
    have hcl := hR6.cells
    have hS6 : w6.cell? ⟨sb, 0, none⟩ = some (.pointer (some ⟨lb, 0, none⟩)) ∧ w6.cell? ⟨w.heap.size, 0, none⟩ = some (.slice P1 p1 q1) ∧ w6.cell? ⟨w.heap.size, 1, none⟩ = some (.slice P2 p2 q2) ∧ w6.cell? ⟨w.heap.size, 2, none⟩ = some (.slice P3 p3 q3) := ⟨hcl.2.1, hcl.1⟩
    have hz6 := hcl.2.2
    have HSs6 : Hid (StM B0 w6 p q lb sb base k c e ⟨d, half, turn, taken, N⟩) := HSs5.out.step hd6 hl6 hc6 (by have := Hwk2.out; omega) (by omega) (by have := Htk2.out; omega)
    have HN6 := Lib.hid (own_chg HN5.out hc6 (fun g cur fr hg _ => x_not HSs5.out.hd HSs5.out.at_ hg (by decide)))
    have HC6 := Lib.hid (Chg.xt2 HC5.out hc6)
    clear hd6 hl6 hc6 hR6 hcl
    refine hK.out _ _ ?_ (fun hHeld' => ?_)
    · (first | exact HS4'.out | exact hS5 | exact hS6)
    clear hK K hHeld
    have hHeld := hHeld'
    clear hHeld'
    simp only [List.set_cons_zero, List.set_cons_succ]
    refine tk 8 9 hHeld ?_
    refine wpAnyH_done (by kernel_rfl) ?_ _
    refine NoPanic.normal ?_
    obtain ⟨z4, z5⟩ := hz6
    clear hHeld hS6
    go_wp2_with fail
    go_ret
    unfold PutX
    rw [Hput.out]
    exact ⟨base, rfl, HSs6.out.more (by omega), HC6.out.mono fun j hj => .inl hj, Nat.le_refl _, fun h => absurd h Hne.out⟩

  have hnr2 : (List.range (needsN b2)).length ≤ 8 := by rw [List.length_range, hnb2]; omega
  obtain ⟨en, d7, hwr⟩ : ∃ en d7, wrF ((1 - half) * (d.L.length / 2)) (turn + 1) b2 d (List.range (needsN b2)) = (en, d7) := ⟨_, _, rfl⟩
  have Hwr := Lib.hid hwr
  have hl7 : d7.L.length = d.L.length := by have := wrF_len ((1 - half) * (d.L.length / 2)) (turn + 1) b2 (List.range (needsN b2)) d; rw [hwr] at this; exact this
  have hw7 : d7.writes ≤ k + 8 := by have := wrF_writes ((1 - half) * (d.L.length / 2)) (turn + 1) b2 (List.range (needsN b2)) d; rw [hwr] at this; dsimp only at this; omega
  have hcode := wrF_code ((1 - half) * (d.L.length / 2)) (turn + 1) b2 (List.range (needsN b2)) d
  rw [hwr] at hcode
  dsimp only at hcode
  have Hwk2 : Hid (d7.writes ≤ k + 8) := hw7
  have Htk2 : Hid (taken ≤ d7.L.length / 2 ∧ (bl2 + 55) / 56 ≤ d7.L.length / 2) := by show _ ∧ _; rw [hl7]; exact ⟨Htk.out, by omega⟩
  rw [if_neg (by rw [hnb2]; exact hc)] at hput1
  rcases hcode with rfl | hcode
  · have Hput : Hid (PS.put ⟨d, half, turn, taken, N⟩ c e x l = (0, ⟨d7, 1 - half, turn + 1, (bl2 + 55) / 56, lastN (N ++ l)⟩)) := by
      show _ = _
      rw [hput1]
      unfold PS.comp
      dsimp only
      rw [hwr, ← hnb2]
      rfl
    clear hput1 hwr hl7 hw7
    go_enter Try.func17, Try.ntmps17
    go_wp2_with (first
      | (rw [← Hwb.out]
         go_at_call 12; (with_reducible refine (bytes_any ⟨P1, p1, q1, P2, p2, q2, P3, p3, q3⟩ x A n cn B l wb HX.out HL.out hn HBB.out).mono ?_)
         rintro ed w1 ⟨bv1, rfl, hown1, hb1⟩
         rw [← Hb.out, ← Hbl.out] at hown1
         obtain ⟨A1, c1, rfl⟩ := own_shape hown1
         have hR1 := HR.out.below hb1
         clear z0 z1 z2 z3 z4 z5
         obtain ⟨⟨z0, z1, z2⟩, z3, z4, z5⟩ := hR1.cells
         have HR1 := Lib.hid hR1
         have HS1 := Lib.hid (HS.out.below hb1)
         have HB1 := Lib.hid hb1
         have HO1 := Lib.hid hown1
         clear hown1 hb1 hR1)
      | (go_at_call 49; (with_reducible refine (fits_any sb lb base c e N ⟨P1, p1, q1, P2, p2, q2, P3, p3, q3⟩ x B w1 HS1.out.sto (HX.out.below (HB1.out.mono HBB.out))).mono ?_)
         rintro ed w2 ⟨he, hb2⟩
         rw [HF.out] at he
         subst he
         have hR2 := HR1.out.below hb2
         clear z0 z1 z2 z3 z4 z5
         obtain ⟨⟨z0, z1, z2⟩, z3, z4, z5⟩ := hR2.cells
         have HR2 := Lib.hid hR2
         have HS2 := Lib.hid (HS1.out.below hb2)
         have HB2 := Lib.hid (HB1.out.trans (hb2.mono HB1.out.size))
         have HO2 := Lib.hid (own_below HO1.out hb2)
         clear hb2 hR2)
      | (go_at_call 50; (with_reducible refine (last_any A0 A n0 n cap0 cn N l w2 ((Hs23.out.1.below (Al.out.trans (HB2.out.mono Al.out.size))).more (Nat.le_trans Al.out.size HB2.out.size)) ((HL.out.below (HB2.out.mono HBB.out)).more (Nat.le_trans HBB.out HB2.out.size)) (by omega) (by omega)).mono ?_)
         rintro ed w3 ⟨A3, c3, he, hown3, hb3⟩
         obtain ⟨n3, hn3⟩ : ∃ y, y = (lastN (N ++ l)).length := ⟨_, rfl⟩
         rw [← hn3] at he hown3
         subst he
         have hR3 := HR2.out.below hb3
         clear z0 z1 z2 z3 z4 z5
         obtain ⟨⟨z0, z1, z2⟩, z3, z4, z5⟩ := hR3.cells
         have HR3 := Lib.hid hR3
         have HS3 := Lib.hid (HS2.out.below hb3)
         have HB3 := Lib.hid (HB2.out.trans (hb3.mono HB2.out.size))
         have HO3 := Lib.hid (own_below HO2.out hb3)
         have HN3 := Lib.hid hown3
         have Hn3 := Lib.hid hn3
         have HZ2 : Hid (wb.heap.size ≤ w2.heap.size ∧ w2.heap.size ≤ w3.heap.size) := ⟨HB2.out.size, hb3.size⟩
         clear hown3 hb3 hR3 hn3)
      | (go_at_call 51; (with_reducible refine (x_add_full (d := d) (half := half) (turn := turn) (taken := taken) HS3.out.hd HS3.out.at_ htk hlen haf).mono ?_)
         rintro ed w4 ⟨rfl, hd4, hl4, hc4⟩
         have hR4 := HR3.out.chg hc4 (x_not HS3.out.hd HS3.out.at_ HR3.out.box (by decide)) (x_not HS3.out.hd HS3.out.at_ HR3.out.sto (by decide))
         clear z0 z1 z2 z3 z4 z5
         obtain ⟨⟨z0, z1, z2⟩, z3, z4, z5⟩ := hR4.cells
         have HS4 : Hid (StM B0 w4 p q lb sb base k c e ⟨d, half, turn, taken, N⟩) := HS3.out.step hd4 hl4 hc4 (by have := Hwk.out; omega) hh1 (by have := Htk.out; omega)
         have HR4 := Lib.hid hR4
         have HC4 : Hid (Chg (XT B0 w p q lb) w w4) := Chg.xt (Al.out.trans (HB3.out.mono Al.out.size)) hc4
         have HN4 := Lib.hid (own_chg HN3.out hc4 (fun g cur fr hg _ => x_not HS3.out.hd HS3.out.at_ hg (by decide)))
         have HX4 := Lib.hid (HK.out w3 w4 (Al.out.trans (HB3.out.mono Al.out.size)) hc4)
         clear hd4 hl4 hc4 hR4))
    have hR4 := hD HR4.out
    have hcl := hR4.cells
    have HS4' : Hid (w4.drew.cell? ⟨sb, 0, none⟩ = some (.pointer (some ⟨lb, 0, none⟩)) ∧ w4.drew.cell? ⟨w.heap.size, 0, none⟩ = some (.slice P1 p1 q1) ∧ w4.drew.cell? ⟨w.heap.size, 1, none⟩ = some (.slice P2 p2 q2) ∧ w4.drew.cell? ⟨w.heap.size, 2, none⟩ = some (.slice P3 p3 q3)) := ⟨hcl.2.1, hcl.1⟩
    have HR4d := Lib.hid hR4
    have HS4d := Lib.hid (HS4.out.below (Below.refl _ w4).drew)
    have HX4d := Lib.hid (HX4.out.below (Below.refl _ w4).drew)
    have HL4d := Lib.hid ((rds_of_own HN4.out Hn3.out.symm).below (Below.refl _ w4).drew)
    have HN4d := Lib.hid (own_below HN4.out (Below.refl _ w4).drew)
    have HC4d : Hid (Chg (XT B0 w p q lb) w w4.drew) := HC4.out.trans (Chg.of (Below.refl _ w4).drew)
    have hn3' : n3 ≤ maxLen := by have := Hn3.out; have := lastN_len (N ++ l); unfold maxLen; omega
    clear z0 z1 z2 z3 z4 z5 hcl hR4
    refine sk (fun w' => w'.cell? ⟨sb, 0, none⟩ = some (.pointer (some ⟨lb, 0, none⟩)) ∧ w'.cell? ⟨w.heap.size, 0, none⟩ = some (.slice P1 p1 q1) ∧ w'.cell? ⟨w.heap.size, 1, none⟩ = some (.slice P2 p2 q2) ∧ w'.cell? ⟨w.heap.size, 2, none⟩ = some (.slice P3 p3 q3)) 9 ?_ (fun hHeld => ?_)
    · (first | exact HS4'.out | exact hS5 | exact hS6)
    refine tk 0 36 hHeld ?_
    refine tk 1 37 hHeld ?_
    refine tk 2 38 hHeld ?_
    refine tk 3 39 hHeld ?_
    refine tk 4 40 hHeld ?_
    refine tk 5 41 hHeld ?_
    refine bk 6 42 (fun K hK => ?_)
    go_simp
    (go_at_call 12; (with_reducible refine (bytes_any ⟨P1, p1, q1, P2, p2, q2, P3, p3, q3⟩ x A3 n3 c3 w4.heap.size (lastN (N ++ l)) w4.drew HX4d.out HL4d.out hn3' (Nat.le_refl _)).mono ?_))
    rintro ed w5 ⟨bv5, rfl, hown5, hb5⟩
    rw [← Hb2.out, ← Hbl2.out] at hown5
    obtain ⟨A5, c5, rfl⟩ := own_shape hown5
    have hR5 := HR4d.out.below hb5
    have hcl := hR5.cells
    have hS5 : w5.cell? ⟨sb, 0, none⟩ = some (.pointer (some ⟨lb, 0, none⟩)) ∧ w5.cell? ⟨w.heap.size, 0, none⟩ = some (.slice P1 p1 q1) ∧ w5.cell? ⟨w.heap.size, 1, none⟩ = some (.slice P2 p2 q2) ∧ w5.cell? ⟨w.heap.size, 2, none⟩ = some (.slice P3 p3 q3) := ⟨hcl.2.1, hcl.1⟩
    have HSs5 := Lib.hid (HS4d.out.below hb5)
    have HN5 := Lib.hid (own_below HN4d.out hb5)
    have HC5 : Hid (Chg (XT B0 w p q lb) w w5) := HC4d.out.trans (Chg.of hb5)
    have HO5 := Lib.hid hown5
    have HR5 := Lib.hid hR5
    clear hown5 hb5 hcl hR5
    refine hK.out _ _ ?_ (fun hHeld' => ?_)
    · (first | exact HS4'.out | exact hS5 | exact hS6)
    clear hK K hHeld
    have hHeld := hHeld'
    clear hHeld'
    simp only [List.set_cons_zero, List.set_cons_succ]
    refine bk 7 43 (fun K hK => ?_)
    go_simp
    (go_at_call 52; (with_reducible refine (comp_0 (d := d) (half := half) (turn := turn) (taken := taken) HSs5.out.hd HSs5.out.at_ hh1 (by omega) hlen2 HO5.out Hx5.out (by omega) hc Hwr.out hnb2).mono ?_))
    rintro ed w6 ⟨rfl, hd6, hl6, hc6⟩
    have hR6 := HR5.out.chg hc6 (x_not HSs5.out.hd HSs5.out.at_ HR5.out.box (by decide)) (x_not HSs5.out.hd HSs5.out.at_ HR5.out.sto (by decide))
    have hcl := hR6.cells
    have hS6 : w6.cell? ⟨sb, 0, none⟩ = some (.pointer (some ⟨lb, 0, none⟩)) ∧ w6.cell? ⟨w.heap.size, 0, none⟩ = some (.slice P1 p1 q1) ∧ w6.cell? ⟨w.heap.size, 1, none⟩ = some (.slice P2 p2 q2) ∧ w6.cell? ⟨w.heap.size, 2, none⟩ = some (.slice P3 p3 q3) := ⟨hcl.2.1, hcl.1⟩
    have hz6 := hcl.2.2
    have HSs6 : Hid (StM B0 w6 p q lb sb base (k + 8) c e ⟨d7, 1 - half, turn + 1, (bl2 + 55) / 56, N⟩) := HSs5.out.step hd6 hl6 hc6 (by have := Hwk2.out; omega) (by omega) (by have := Htk2.out; omega)
    have HN6 := Lib.hid (own_chg HN5.out hc6 (fun g cur fr hg _ => x_not HSs5.out.hd HSs5.out.at_ hg (by decide)))
    have HC6 := Lib.hid (Chg.xt2 HC5.out hc6)
    clear hd6 hl6 hc6 hR6 hcl
    refine hK.out _ _ ?_ (fun hHeld' => ?_)
    · (first | exact HS4'.out | exact hS5 | exact hS6)
    clear hK K hHeld
    have hHeld := hHeld'
    clear hHeld'
    simp only [List.set_cons_zero, List.set_cons_succ]
    refine tk 8 9 hHeld ?_
    refine wpAnyH_done (by kernel_rfl) ?_ _
    refine NoPanic.normal ?_
    obtain ⟨z4, z5⟩ := hz6
    clear hHeld hS6
    go_wp2_with fail
    go_ret
    have hs7 := HSs6.out.note (b3 := w.heap.size) HN6.out Hn3.out.symm (lastN_len _) (okR_last Hok.out Hokn.out).2.2 (by have := Hzb.out; have := HZ2.out; omega) HC6.out.size
    unfold PutX
    rw [Hput.out]
    exact ⟨w.heap.size, rfl, hs7.more (by omega), chg_set (HC6.out.mono fun j hj => .inl hj) (.inr rfl), Hbase.out, fun _ => Nat.le_refl _⟩

  · have hen0 : ((en : Int) == 0) = false := by rcases hcode with rfl | rfl <;> rfl
    have hne : en ≠ 0 := by omega
    have Hput : Hid (PS.put ⟨d, half, turn, taken, N⟩ c e x l = (en, ⟨d7, half, turn, taken, N⟩)) := by
      show _ = _
      rw [hput1]
      unfold PS.comp
      dsimp only
      rw [hwr, if_neg hne]
    have Hne := Lib.hid hne
    clear hput1 hwr hl7 hw7 hne hcode
    go_enter Try.func17, Try.ntmps17
    go_wp2_with (first
      | (rw [← Hwb.out]
         go_at_call 12; (with_reducible refine (bytes_any ⟨P1, p1, q1, P2, p2, q2, P3, p3, q3⟩ x A n cn B l wb HX.out HL.out hn HBB.out).mono ?_)
         rintro ed w1 ⟨bv1, rfl, hown1, hb1⟩
         rw [← Hb.out, ← Hbl.out] at hown1
         obtain ⟨A1, c1, rfl⟩ := own_shape hown1
         have hR1 := HR.out.below hb1
         clear z0 z1 z2 z3 z4 z5
         obtain ⟨⟨z0, z1, z2⟩, z3, z4, z5⟩ := hR1.cells
         have HR1 := Lib.hid hR1
         have HS1 := Lib.hid (HS.out.below hb1)
         have HB1 := Lib.hid hb1
         have HO1 := Lib.hid hown1
         clear hown1 hb1 hR1)
      | (go_at_call 49; (with_reducible refine (fits_any sb lb base c e N ⟨P1, p1, q1, P2, p2, q2, P3, p3, q3⟩ x B w1 HS1.out.sto (HX.out.below (HB1.out.mono HBB.out))).mono ?_)
         rintro ed w2 ⟨he, hb2⟩
         rw [HF.out] at he
         subst he
         have hR2 := HR1.out.below hb2
         clear z0 z1 z2 z3 z4 z5
         obtain ⟨⟨z0, z1, z2⟩, z3, z4, z5⟩ := hR2.cells
         have HR2 := Lib.hid hR2
         have HS2 := Lib.hid (HS1.out.below hb2)
         have HB2 := Lib.hid (HB1.out.trans (hb2.mono HB1.out.size))
         have HO2 := Lib.hid (own_below HO1.out hb2)
         clear hb2 hR2)
      | (go_at_call 50; (with_reducible refine (last_any A0 A n0 n cap0 cn N l w2 ((Hs23.out.1.below (Al.out.trans (HB2.out.mono Al.out.size))).more (Nat.le_trans Al.out.size HB2.out.size)) ((HL.out.below (HB2.out.mono HBB.out)).more (Nat.le_trans HBB.out HB2.out.size)) (by omega) (by omega)).mono ?_)
         rintro ed w3 ⟨A3, c3, he, hown3, hb3⟩
         obtain ⟨n3, hn3⟩ : ∃ y, y = (lastN (N ++ l)).length := ⟨_, rfl⟩
         rw [← hn3] at he hown3
         subst he
         have hR3 := HR2.out.below hb3
         clear z0 z1 z2 z3 z4 z5
         obtain ⟨⟨z0, z1, z2⟩, z3, z4, z5⟩ := hR3.cells
         have HR3 := Lib.hid hR3
         have HS3 := Lib.hid (HS2.out.below hb3)
         have HB3 := Lib.hid (HB2.out.trans (hb3.mono HB2.out.size))
         have HO3 := Lib.hid (own_below HO2.out hb3)
         have HN3 := Lib.hid hown3
         have Hn3 := Lib.hid hn3
         have HZ2 : Hid (wb.heap.size ≤ w2.heap.size ∧ w2.heap.size ≤ w3.heap.size) := ⟨HB2.out.size, hb3.size⟩
         clear hown3 hb3 hR3 hn3)
      | (go_at_call 51; (with_reducible refine (x_add_full (d := d) (half := half) (turn := turn) (taken := taken) HS3.out.hd HS3.out.at_ htk hlen haf).mono ?_)
         rintro ed w4 ⟨rfl, hd4, hl4, hc4⟩
         have hR4 := HR3.out.chg hc4 (x_not HS3.out.hd HS3.out.at_ HR3.out.box (by decide)) (x_not HS3.out.hd HS3.out.at_ HR3.out.sto (by decide))
         clear z0 z1 z2 z3 z4 z5
         obtain ⟨⟨z0, z1, z2⟩, z3, z4, z5⟩ := hR4.cells
         have HS4 : Hid (StM B0 w4 p q lb sb base k c e ⟨d, half, turn, taken, N⟩) := HS3.out.step hd4 hl4 hc4 (by have := Hwk.out; omega) hh1 (by have := Htk.out; omega)
         have HR4 := Lib.hid hR4
         have HC4 : Hid (Chg (XT B0 w p q lb) w w4) := Chg.xt (Al.out.trans (HB3.out.mono Al.out.size)) hc4
         have HN4 := Lib.hid (own_chg HN3.out hc4 (fun g cur fr hg _ => x_not HS3.out.hd HS3.out.at_ hg (by decide)))
         have HX4 := Lib.hid (HK.out w3 w4 (Al.out.trans (HB3.out.mono Al.out.size)) hc4)
         clear hd4 hl4 hc4 hR4))
    have hR4 := hD HR4.out
    have hcl := hR4.cells
    have HS4' : Hid (w4.drew.cell? ⟨sb, 0, none⟩ = some (.pointer (some ⟨lb, 0, none⟩)) ∧ w4.drew.cell? ⟨w.heap.size, 0, none⟩ = some (.slice P1 p1 q1) ∧ w4.drew.cell? ⟨w.heap.size, 1, none⟩ = some (.slice P2 p2 q2) ∧ w4.drew.cell? ⟨w.heap.size, 2, none⟩ = some (.slice P3 p3 q3)) := ⟨hcl.2.1, hcl.1⟩
    have HR4d := Lib.hid hR4
    have HS4d := Lib.hid (HS4.out.below (Below.refl _ w4).drew)
    have HX4d := Lib.hid (HX4.out.below (Below.refl _ w4).drew)
    have HL4d := Lib.hid ((rds_of_own HN4.out Hn3.out.symm).below (Below.refl _ w4).drew)
    have HN4d := Lib.hid (own_below HN4.out (Below.refl _ w4).drew)
    have HC4d : Hid (Chg (XT B0 w p q lb) w w4.drew) := HC4.out.trans (Chg.of (Below.refl _ w4).drew)
    have hn3' : n3 ≤ maxLen := by have := Hn3.out; have := lastN_len (N ++ l); unfold maxLen; omega
    clear z0 z1 z2 z3 z4 z5 hcl hR4
    refine sk (fun w' => w'.cell? ⟨sb, 0, none⟩ = some (.pointer (some ⟨lb, 0, none⟩)) ∧ w'.cell? ⟨w.heap.size, 0, none⟩ = some (.slice P1 p1 q1) ∧ w'.cell? ⟨w.heap.size, 1, none⟩ = some (.slice P2 p2 q2) ∧ w'.cell? ⟨w.heap.size, 2, none⟩ = some (.slice P3 p3 q3)) 9 ?_ (fun hHeld => ?_)
    · (first | exact HS4'.out | exact hS5 | exact hS6)
    refine tk 0 36 hHeld ?_
    refine tk 1 37 hHeld ?_
    refine tk 2 38 hHeld ?_
    refine tk 3 39 hHeld ?_
    refine tk 4 40 hHeld ?_
    refine tk 5 41 hHeld ?_
    refine bk 6 42 (fun K hK => ?_)
    go_simp
    (go_at_call 12; (with_reducible refine (bytes_any ⟨P1, p1, q1, P2, p2, q2, P3, p3, q3⟩ x A3 n3 c3 w4.heap.size (lastN (N ++ l)) w4.drew HX4d.out HL4d.out hn3' (Nat.le_refl _)).mono ?_))
    rintro ed w5 ⟨bv5, rfl, hown5, hb5⟩
    rw [← Hb2.out, ← Hbl2.out] at hown5
    obtain ⟨A5, c5, rfl⟩ := own_shape hown5
    have hR5 := HR4d.out.below hb5
    have hcl := hR5.cells
    have hS5 : w5.cell? ⟨sb, 0, none⟩ = some (.pointer (some ⟨lb, 0, none⟩)) ∧ w5.cell? ⟨w.heap.size, 0, none⟩ = some (.slice P1 p1 q1) ∧ w5.cell? ⟨w.heap.size, 1, none⟩ = some (.slice P2 p2 q2) ∧ w5.cell? ⟨w.heap.size, 2, none⟩ = some (.slice P3 p3 q3) := ⟨hcl.2.1, hcl.1⟩
    have HSs5 := Lib.hid (HS4d.out.below hb5)
    have HN5 := Lib.hid (own_below HN4d.out hb5)
    have HC5 : Hid (Chg (XT B0 w p q lb) w w5) := HC4d.out.trans (Chg.of hb5)
    have HO5 := Lib.hid hown5
    have HR5 := Lib.hid hR5
    clear hown5 hb5 hcl hR5
    refine hK.out _ _ ?_ (fun hHeld' => ?_)
    · (first | exact HS4'.out | exact hS5 | exact hS6)
    clear hK K hHeld
    have hHeld := hHeld'
    clear hHeld'
    simp only [List.set_cons_zero, List.set_cons_succ]
    refine bk 7 43 (fun K hK => ?_)
    go_simp
    (go_at_call 52; (with_reducible refine (comp_1 (d := d) (half := half) (turn := turn) (taken := taken) HSs5.out.hd HSs5.out.at_ hh1 (by omega) hlen2 HO5.out Hx5.out (by omega) hc Hwr.out Hne.out).mono ?_))
    rintro ed w6 ⟨rfl, hd6, hl6, hc6⟩
    have hR6 := HR5.out.chg hc6 (x_not HSs5.out.hd HSs5.out.at_ HR5.out.box (by decide)) (x_not HSs5.out.hd HSs5.out.at_ HR5.out.sto (by decide))
    have hcl := hR6.cells
    have hS6 : w6.cell? ⟨sb, 0, none⟩ = some (.pointer (some ⟨lb, 0, none⟩)) ∧ w6.cell? ⟨w.heap.size, 0, none⟩ = some (.slice P1 p1 q1) ∧ w6.cell? ⟨w.heap.size, 1, none⟩ = some (.slice P2 p2 q2) ∧ w6.cell? ⟨w.heap.size, 2, none⟩ = some (.slice P3 p3 q3) := ⟨hcl.2.1, hcl.1⟩
    have hz6 := hcl.2.2
    have HSs6 : Hid (StM B0 w6 p q lb sb base (k + 8) c e ⟨d7, half, turn, taken, N⟩) := HSs5.out.step hd6 hl6 hc6 (by have := Hwk2.out; omega) (by omega) (by have := Htk2.out; omega)
    have HN6 := Lib.hid (own_chg HN5.out hc6 (fun g cur fr hg _ => x_not HSs5.out.hd HSs5.out.at_ hg (by decide)))
    have HC6 := Lib.hid (Chg.xt2 HC5.out hc6)
    clear hd6 hl6 hc6 hR6 hcl
    refine hK.out _ _ ?_ (fun hHeld' => ?_)
    · (first | exact HS4'.out | exact hS5 | exact hS6)
    clear hK K hHeld
    have hHeld := hHeld'
    clear hHeld'
    simp only [List.set_cons_zero, List.set_cons_succ]
    refine tk 8 9 hHeld ?_
    refine wpAnyH_done (by kernel_rfl) ?_ _
    refine NoPanic.normal ?_
    obtain ⟨z4, z5⟩ := hz6
    clear hHeld hS6
    go_wp2_with fail
    go_ret
    unfold PutX
    rw [Hput.out]
    exact ⟨base, rfl, HSs6.out.more (by omega), HC6.out.mono fun j hj => .inl hj, Nat.le_refl _, fun h => absurd h Hne.out⟩

end Go.Proofs.Ytcdgaeenfhpnkaa.Cr
