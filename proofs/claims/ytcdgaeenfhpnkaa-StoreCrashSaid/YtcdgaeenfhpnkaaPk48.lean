/- The document's store: Put. (Printed by a program.) -/
import Derived.Test.YtcdgaeenfhpnkaaPk47
set_option linter.unusedVariables false
set_option linter.unusedSimpArgs false
set_option maxRecDepth 100000
namespace Go.Proofs.Ytcdgaeenfhpnkaa.Cr
open Go Go.RowKit CrcMath
attribute [local go_sem] Oper.semAt_some

/-- what Put finds: the disk, the log, the store, the state in its box, the notes -/
structure PQ (w W : World) (p g lb sb c e : Nat) (s : CS) (v : StV) (x : St) (A : Option Addr) (n : Nat) (l : List Nt) (A0 : Option Addr) (n0 cap0 : Nat) : Prop where
  bel : Below w.heap.size w W
  ht : HT W (Off2 W p g) p g s.r
  at_ : RLogAt W lb p s.half s.turn s.taken
  box : W.heap[w.heap.size]? = some (.cells #[.slice v.A1 v.n1 v.c1, .slice v.A2 v.n2 v.c2, .slice v.A3 v.n3 v.c3] 25)
  sto : W.heap[sb]? = some (.cells #[.pointer (some ⟨lb, 0, none⟩), .int .i64 c, .int .i64 e, .slice A0 n0 cap0] 125)
  own0 : W.ownsRow 0 54 3 (.slice A0 n0 cap0) n0 (s.N.flatMap Nt.cells)
  xr : StR W W.heap.size v x
  lr : RdS Nt.cells W W.heap.size 3 A n l
section
variable {w W W' : World} {p g lb sb c e n n0 cap0 : Nat} {s : CS} {v : StV} {x : St} {A A0 : Option Addr} {l : List Nt}
theorem PQ.below (h : PQ w W p g lb sb c e s v x A n l A0 n0 cap0) (hb : Below W.heap.size W W') : PQ w W' p g lb sb c e s v x A n l A0 n0 cap0 :=
  ⟨h.bel.trans (hb.mono h.bel.size), (h.ht.below hb).off, h.at_.below hb, (hb.block _ (Array.getElem?_eq_some_iff.1 h.box).1).trans h.box, (hb.block _ (Array.getElem?_eq_some_iff.1 h.sto).1).trans h.sto, own_below h.own0 hb, (h.xr.below hb).more hb.size, (h.lr.below hb).more hb.size⟩
theorem PQ.cells (h : PQ w W p g lb sb c e s v x A n l A0 n0 cap0) :
    (W.cell? ⟨w.heap.size, 0, none⟩ = some (.slice v.A1 v.n1 v.c1) ∧ W.cell? ⟨w.heap.size, 1, none⟩ = some (.slice v.A2 v.n2 v.c2) ∧ W.cell? ⟨w.heap.size, 2, none⟩ = some (.slice v.A3 v.n3 v.c3)) ∧
    W.cell? ⟨sb, 0, none⟩ = some (.pointer (some ⟨lb, 0, none⟩)) ∧ W.cell? ⟨sb, 1, none⟩ = some (.int .i64 c) ∧ W.cell? ⟨sb, 2, none⟩ = some (.int .i64 e) ∧ W.cell? ⟨sb, 3, none⟩ = some (.slice A0 n0 cap0) := by
  have n0 := cell_of_row W w.heap.size 0 _ _ _ h.box
  have n1 := cell_of_row W w.heap.size 1 _ _ _ h.box
  have n2 := cell_of_row W w.heap.size 2 _ _ _ h.box
  have n3 := cell_of_row W sb 0 _ _ _ h.sto
  have n4 := cell_of_row W sb 1 _ _ _ h.sto
  have n5 := cell_of_row W sb 2 _ _ _ h.sto
  have n6 := cell_of_row W sb 3 _ _ _ h.sto
  simp at n0 n1 n2 n3 n4 n5 n6
  exact ⟨⟨n0, n1, n2⟩, n3, n4, n5, n6⟩
theorem PQ.rsto (h : PQ w W p g lb sb c e s v x A n l A0 n0 cap0) (hn : s.N.length = n0) : RStoAt W sb lb c e s.N := ⟨A0, n0, cap0, h.sto, h.own0, hn⟩
end
/-- the document's store in memory -/
structure RM (w : World) (p g lb sb c e k : Nat) (s : CS) : Prop where
  ht : HT w (Off2 w p g) p g s.r
  wk : s.r.d.writes ≤ k
  at_ : RLogAt w lb p s.half s.turn s.taken
  sto : RStoAt w sb lb c e s.N
def X4 (p g lb sb : Nat) (j : Nat) : Prop := X3 p g lb j ∨ j = sb
def RPutP (w : World) (p g lb sb c e k : Nat) (s : CS) (x : St) (l : List Nt) (ed : Ending) (w' : World) : Prop :=
  ed = .returned (.int .i64 (s.put c e x l).1) ∧ RM w' p g lb sb c e (k + 16) (s.put c e x l).2 ∧ Chg (X4 p g lb sb) w w'
theorem RM.below {w w' : World} {p g lb sb c e k : Nat} {s : CS} (h : RM w p g lb sb c e k s) (hb : Below w.heap.size w w') : RM w' p g lb sb c e k s := ⟨(h.ht.below hb).off, h.wk, h.at_.below hb, h.sto.below hb⟩
theorem RM.more {w : World} {p g lb sb c e k k' : Nat} {s : CS} (h : RM w p g lb sb c e k s) (hk : k ≤ k') : RM w p g lb sb c e k' s := ⟨h.ht, Nat.le_trans h.wk hk, h.at_, h.sto⟩
theorem RStoAt.note {w : World} {sb lb c e n cap : Nat} {N N' : List Nt} {A : Option Addr} (h : RStoAt w sb lb c e N) (ho : w.ownsRow 0 54 3 (.slice A n cap) n (N'.flatMap Nt.cells)) (hn : N'.length = n) : RStoAt (w.setCell ⟨sb, 3, none⟩ (.slice A n cap)) sb lb c e N' := by
  obtain ⟨A0, n0, cap0, h1, h2, h3⟩ := h
  exact ⟨A, n, cap, heap_set_same (j := 3) _ h1, own_ty ho h1 (by decide), hn⟩
/-- Put turned nothing -/
theorem PQ.still {w W : World} {p g lb sb c e n n0 cap0 k en : Nat} {s : CS} {v : StV} {x : St} {A A0 : Option Addr} {l : List Nt} (h : PQ w W p g lb sb c e s v x A n l A0 n0 cap0) (hn : s.N.length = n0) (hk : s.r.d.writes ≤ k) (hp : s.put c e x l = (en, s)) :
    RPutP w p g lb sb c e k s x l (.returned (.int .i64 en)) W := by
  unfold RPutP
  rw [hp]
  exact ⟨rfl, ⟨h.ht, by show s.r.d.writes ≤ _; omega, h.at_, h.rsto hn⟩, Chg.of h.bel⟩
theorem wrR_keep (fr turn : Nat) (b : List Nat) (r : RD) : (wrR fr turn b r (List.range (needsN b))).2.d.L.length = r.d.L.length ∧ (wrR fr turn b r (List.range (needsN b))).2.d.writes ≤ r.d.writes + needsN b := by
  rw [(wrR_d fr turn b (List.range (needsN b)) r).2]
  refine ⟨wrF_len fr turn b _ _, ?_⟩
  have := wrF_writes fr turn b (List.range (needsN b)) r.d
  rw [List.length_range] at this
  exact this
theorem RLogAt.keep3 {w : World} {lb p half turn taken sb c e : Nat} {N : List Nt} {u : Value} (h : RLogAt w lb p half turn taken) (hs : RStoAt w sb lb c e N) : RLogAt (w.setCell ⟨sb, 3, none⟩ u) lb p half turn taken := by
  obtain ⟨A0, n0, cap0, h1, _⟩ := hs
  exact heap_set_other _ h (ty_ne (show w.heap[lb]? = _ from h) h1 (by decide))
set_option maxHeartbeats 16000000 in
theorem rput22 (sb lb p g k c e : Nat) (s : CS) (v : StV) (x : St) (A : Option Addr) (n cn : Nat) (l : List Nt) (w : World) (hM : RM w p g lb sb c e k s) (hx : StR w w.heap.size v x) (hl : RdS Nt.cells w w.heap.size 3 A n l) (hn : n ≤ 100000) (hk : k + 16 < 1000000)
    (hh : s.half ≤ 1) (htk : s.taken ≤ s.r.d.L.length / 2) (ht : s.turn < 65535) (h32 : s.N.length ≤ 32) (hokn : ∀ x ∈ s.N, okN x) :
    Calls Try.prog 59 #[.pointer (some ⟨sb, 0, none⟩), .agg #[.slice v.A1 v.n1 v.c1, .slice v.A2 v.n2 v.c2, .slice v.A3 v.n3 v.c3], .slice A n cn] w (RPutP w p g lb sb c e k s x l) := by
  obtain ⟨P1, p1, q1, P2, p2, q2, P3, p3, q3⟩ := v
  obtain ⟨i0, hi, hz0, hz1, hz2⟩ := info_parts info_nt
  obtain ⟨A0, n0, cap0, s1, s2, s3⟩ := hM.sto
  have hln : l.length = n := hl.1
  have hn0 : n0 ≤ 32 := by omega
  have hl256 := hM.ht.ok.2.1
  have htk1 : s.taken ≤ 1000 := by omega
  have hwk := hM.wk
  obtain ⟨wb, hwb⟩ : ∃ y, y = w.alloc (.cells #[.slice P1 p1 q1, .slice P2 p2 q2, .slice P3 p3 q3] 25) := ⟨_, rfl⟩
  have al : Below w.heap.size w wb := by rw [hwb]; exact (Below.refl _ _).alloc (Nat.le_refl _) _
  have hP : PQ w wb p g lb sb c e s ⟨P1, p1, q1, P2, p2, q2, P3, p3, q3⟩ x A n l A0 n0 cap0 :=
    ⟨al, (hM.ht.below al).off, hM.at_.below al, by rw [hwb]; exact heap_alloc_new _ _, (al.block sb (Array.getElem?_eq_some_iff.1 s1).1).trans s1, own_below s2 al, (hx.below al).more al.size, (hl.below al).more al.size⟩
  obtain ⟨⟨z0, z1, z2⟩, z3, z4, z5, z6⟩ := hP.cells
  dsimp only at z0 z1 z2
  obtain ⟨b, hb⟩ : ∃ b, b = bytesF x l := ⟨_, rfl⟩
  obtain ⟨bl, hbl⟩ : ∃ bl, bl = b.length := ⟨_, rfl⟩
  have hp1 : x.causes.length = p1 := hx.r1.1
  have hp2 : x.effects.length = p2 := hx.r2.1
  have HP := Lib.hid hP
  have Hwb := Lib.hid hwb
  have Hb := Lib.hid hb
  have Hbl := Lib.hid hbl
  have Hln := Lib.hid hln
  have Hs3 := Lib.hid s3
  have Hwk := Lib.hid hwk
  have Hokn := Lib.hid hokn
  have Hp12 := Lib.hid (And.intro hp1 hp2)
  have Hht := Lib.hid (And.intro hh (And.intro htk ht))
  have Hk := Lib.hid hk
  have hnm : n ≤ maxLen := by unfold maxLen; omega
  clear hM hx hl s1 s2 s3 al hwb hP hb hbl hln hokn hp1 hp2 hwk
  by_cases hok : okR x l
  rotate_left
  · have hbl0 : bl = 0 := by rw [Hbl.out, Hb.out, bytesF_no hok]; rfl
    have Hput : Hid (s.put c e x l = (1, s)) := if_pos (fun h => hok h.1)
    subst hbl0
    clear hok
    go_enter Try.func59, Try.ntmps59
    go_wp2_with (first
      | (rw [← Hwb.out]
         go_at_call 13; (with_reducible refine (bytes22_any ⟨P1, p1, q1, P2, p2, q2, P3, p3, q3⟩ x A n cn wb.heap.size l wb HP.out.xr HP.out.lr hnm (Nat.le_refl _)).mono ?_)
         rintro ed w1 ⟨bv1, rfl, hown1, hb1⟩
         rw [← Hb.out, ← Hbl.out] at hown1
         obtain ⟨A1, c1, rfl⟩ := own_shape hown1
         have hP1 := HP.out.below hb1
         clear z0 z1 z2 z3 z4 z5 z6
         obtain ⟨⟨z0, z1, z2⟩, z3, z4, z5, z6⟩ := hP1.cells
         dsimp only at z0 z1 z2
         have HP1 := Lib.hid hP1
         have HO1 := Lib.hid hown1
         clear hown1 hb1 hP1))
    go_quiet (fail)
    obtain ⟨w2, hw2⟩ : ∃ W, W = w1.drewN nq := ⟨_, rfl⟩
    rw [← hw2]
    have hb2 : Below w1.heap.size w1 w2 := by rw [hw2]; exact below_nq (Below.refl _ _) _
    have hP2 := HP1.out.below hb2
    clear z0 z1 z2 z3 z4 z5 z6
    obtain ⟨⟨z0, z1, z2⟩, z3, z4, z5, z6⟩ := hP2.cells
    dsimp only at z0 z1 z2
    have z6a : (w2.alloc (.cells #[] 54)).cell? ⟨sb, 3, none⟩ = some (.slice A0 n0 cap0) := (World.cell?_alloc_lt _ _ _ (Array.getElem?_eq_some_iff.1 hP2.sto).1).trans z6
    have HP2 := Lib.hid hP2
    have HO2 := Lib.hid (own_below HO1.out hb2)
    clear hw2 hb2 hP2
    go_wp2_with fail
    go_ret
    exact HP2.out.still Hs3.out Hwk.out Hput.out
  have hlen := bytesF_len hok
  rw [← Hb.out, ← Hbl.out] at hlen
  have hbI : ((bl : Int) == 0) = false := beq_eq_false_iff_ne.2 (by omega)
  have hn32 : n ≤ 32 := by have := hok.2.1; have := Hln.out; omega
  have Hok := Lib.hid hok
  have Hbf : Hid (fineB b) := by show fineB b; rw [Hb.out]; exact okR_fine hok
  have hnb : needsN b = (bl + 55) / 56 := by unfold needsN; rw [← Hbl.out]
  clear hok
  by_cases hf : x.causes.length = c ∧ x.effects.length = e
  rotate_left
  · have Hput : Hid (s.put c e x l = (1, s)) := if_pos (fun h => hf ⟨h.2.1, h.2.2⟩)
    have sp : ((p1 : Int) != (c : Int)) = true ∨ ((p1 : Int) != (c : Int)) = false ∧ ((p2 : Int) != (e : Int)) = true := by
      have h1 := Hp12.out.1
      have h2 := Hp12.out.2
      by_cases h3 : p1 = c
      · exact .inr ⟨ne_f h3, ne_t (fun h => hf ⟨by omega, by omega⟩)⟩
      · exact .inl (ne_t h3)
    clear hf hnb
    rcases sp with u1 | ⟨u1, u2⟩
    all_goals
      go_enter Try.func59, Try.ntmps59
      go_wp2_with (first
        | (rw [← Hwb.out]
           go_at_call 13; (with_reducible refine (bytes22_any ⟨P1, p1, q1, P2, p2, q2, P3, p3, q3⟩ x A n cn wb.heap.size l wb HP.out.xr HP.out.lr hnm (Nat.le_refl _)).mono ?_)
           rintro ed w1 ⟨bv1, rfl, hown1, hb1⟩
           rw [← Hb.out, ← Hbl.out] at hown1
           obtain ⟨A1, c1, rfl⟩ := own_shape hown1
           have hP1 := HP.out.below hb1
           clear z0 z1 z2 z3 z4 z5 z6
           obtain ⟨⟨z0, z1, z2⟩, z3, z4, z5, z6⟩ := hP1.cells
           dsimp only at z0 z1 z2
           have HP1 := Lib.hid hP1
           have HO1 := Lib.hid hown1
           clear hown1 hb1 hP1))
      go_quiet (fail)
      obtain ⟨w2, hw2⟩ : ∃ W, W = w1.drewN nq := ⟨_, rfl⟩
      rw [← hw2]
      have hb2 : Below w1.heap.size w1 w2 := by rw [hw2]; exact below_nq (Below.refl _ _) _
      have hP2 := HP1.out.below hb2
      clear z0 z1 z2 z3 z4 z5 z6
      obtain ⟨⟨z0, z1, z2⟩, z3, z4, z5, z6⟩ := hP2.cells
      dsimp only at z0 z1 z2
      have z6a : (w2.alloc (.cells #[] 54)).cell? ⟨sb, 3, none⟩ = some (.slice A0 n0 cap0) := (World.cell?_alloc_lt _ _ _ (Array.getElem?_eq_some_iff.1 hP2.sto).1).trans z6
      have HP2 := Lib.hid hP2
      have HO2 := Lib.hid (own_below HO1.out hb2)
      clear hw2 hb2 hP2
      go_wp2_with fail
      go_ret
      exact HP2.out.still Hs3.out Hwk.out Hput.out
  have u1 : ((p1 : Int) != (c : Int)) = false := ne_f (by have := Hp12.out.1; omega)
  have u2 : ((p2 : Int) != (e : Int)) = false := ne_f (by have := Hp12.out.2; omega)
  have hno : ¬ ¬ (okR x l ∧ x.causes.length = c ∧ x.effects.length = e) := fun h => h ⟨Hok.out, hf.1, hf.2⟩
  clear hf
  by_cases ha : s.taken + (bl + 55) / 56 ≤ s.r.d.L.length / 2
  · have haf : ¬ s.r.d.L.length / 2 < s.taken + (bl + 55) / 56 := by omega
    obtain ⟨en, r7, hwr⟩ : ∃ en r7, wrR (s.half * (s.r.d.L.length / 2) + s.taken) s.turn b s.r (List.range (needsN b)) = (en, r7) := ⟨_, _, rfl⟩
    have hkeep := wrR_keep (s.half * (s.r.d.L.length / 2) + s.taken) s.turn b s.r
    rw [hwr] at hkeep
    have Hw7 : Hid (r7.d.writes ≤ k + 16) := by show _ ≤ _; have h1 := hkeep.2; have h2 := Hwk.out; dsimp only at h1; omega
    have Hwr := Lib.hid hwr
    have hwk' : s.r.d.writes ≤ k := Hwk.out
    have hcode : en = 0 ∨ en = 1 ∨ en = 101 := by
      have h1 := wrF_code (s.half * (s.r.d.L.length / 2) + s.taken) s.turn b (List.range (needsN b)) s.r.d
      have h2 := (wrR_d (s.half * (s.r.d.L.length / 2) + s.taken) s.turn b (List.range (needsN b)) s.r).1
      rw [hwr] at h2
      dsimp only at h2
      rw [← h2] at h1
      exact h1
    have hput : s.put c e x l = if en = 0 then (0, ⟨r7, s.half, s.turn, s.taken + (bl + 55) / 56, lastN (s.N ++ l)⟩) else (en, ⟨r7, s.half, s.turn, s.taken, s.N⟩) := by
      unfold CS.put
      rw [if_neg hno, ← Hb.out, if_pos (by rw [hnb]; exact ha)]
      unfold CS.add
      dsimp only
      rw [hwr, hnb]
    clear hkeep hwr hno ha hnb
    rcases hcode with rfl | hcode
    · rw [if_pos rfl] at hput
      have Hput := Lib.hid hput
      clear hput
      go_enter Try.func59, Try.ntmps59
      go_wp2_with (first
        | (rw [← Hwb.out]
           go_at_call 13; (with_reducible refine (bytes22_any ⟨P1, p1, q1, P2, p2, q2, P3, p3, q3⟩ x A n cn wb.heap.size l wb HP.out.xr HP.out.lr hnm (Nat.le_refl _)).mono ?_)
           rintro ed w1 ⟨bv1, rfl, hown1, hb1⟩
           rw [← Hb.out, ← Hbl.out] at hown1
           obtain ⟨A1, c1, rfl⟩ := own_shape hown1
           have hP1 := HP.out.below hb1
           clear z0 z1 z2 z3 z4 z5 z6
           obtain ⟨⟨z0, z1, z2⟩, z3, z4, z5, z6⟩ := hP1.cells
           dsimp only at z0 z1 z2
           have HP1 := Lib.hid hP1
           have HO1 := Lib.hid hown1
           clear hown1 hb1 hP1))
      go_quiet (fail)
      obtain ⟨w2, hw2⟩ : ∃ W, W = w1.drewN nq := ⟨_, rfl⟩
      rw [← hw2]
      have hb2 : Below w1.heap.size w1 w2 := by rw [hw2]; exact below_nq (Below.refl _ _) _
      have hP2 := HP1.out.below hb2
      clear z0 z1 z2 z3 z4 z5 z6
      obtain ⟨⟨z0, z1, z2⟩, z3, z4, z5, z6⟩ := hP2.cells
      dsimp only at z0 z1 z2
      have z6a : (w2.alloc (.cells #[] 54)).cell? ⟨sb, 3, none⟩ = some (.slice A0 n0 cap0) := (World.cell?_alloc_lt _ _ _ (Array.getElem?_eq_some_iff.1 hP2.sto).1).trans z6
      have HP2 := Lib.hid hP2
      have HO2 := Lib.hid (own_below HO1.out hb2)
      clear hw2 hb2 hP2
      go_wp2_with (first
        | (at_builtin
           refine wpList_app _ rfl (.tmp 36) (.tmp 40) 26 rfl w2.heap.size 54 i0 (.agg #[.int .i64 0, .int .i64 0, .int .i64 0]) 3 24 Try.underlying26 hi hz0 hz1 hz2 rfl (by omega) (.slice (some ⟨w2.heap.size, 0, none⟩) 0 0) 0 [] rfl (World.ownsRow_made w2 #[] 0 (Nat.le_refl _) (by unfold maxLen; omega) rfl) w2.heap.size A0 n0 cap0 (s.N.flatMap Nt.cells) rfl ((rds_rd (rds_of_own HP2.out.own0 Hs3.out)).below (al_ _ _)) (cells_one s.N) ?g1 ?g2 ?g3 ?_
           case g1 => unfold maxLen; omega
           case g2 => omega
           case g3 => exact (al_ w2 _).size
           intro v3 w3 hown3 hg3 hat3
           rw [Nat.zero_add, List.nil_append] at hown3
           obtain ⟨A3, c3, rfl⟩ := own_shape hown3
           have hb3 : Below w2.heap.size w2 w3 := (al_ w2 _).grown hg3 (al_ w2 _).size (fun q hq => by simp [Value.ownBlock] at hq; omega)
           have HB3 := Lib.hid hb3
           have HO3 := Lib.hid hown3
           clear hown3 hg3 hat3 hb3)
        | (at_builtin
           refine wpList_app _ rfl (.tmp 41) (.tmp 42) 26 rfl w2.heap.size 54 i0 (.agg #[.int .i64 0, .int .i64 0, .int .i64 0]) 3 24 Try.underlying26 hi hz0 hz1 hz2 rfl (by omega) (.slice A3 n0 c3) n0 (s.N.flatMap Nt.cells) rfl HO3.out w3.heap.size A n cn (l.flatMap Nt.cells) rfl (rds_rd (HP2.out.below HB3.out).lr) (cells_one l) ?g1 ?g2 ?g3 ?_
           case g1 => unfold maxLen; omega
           case g2 => omega
           case g3 => exact HB3.out.size
           intro v4 w4 hown4 hg4 hat4
           rw [← List.flatMap_append] at hown4
           obtain ⟨A4, c4, rfl⟩ := own_shape hown4
           have hb4 : Below w2.heap.size w2 w4 := HB3.out.grown hg4 HB3.out.size (fun q hq => (own_blk' HO3.out q hq).1)
           have hNl : (s.N ++ l).length = n0 + n := by rw [List.length_append, Hs3.out, Hln.out]
           have hcap4 := (own_max hown4).1
           have HB4 := Lib.hid hb4
           have HR4 := Lib.hid (rds_of_own hown4 hNl)
           clear hown4 hg4 hat4 hb4 hNl)
        | (go_at_call 77; (with_reducible refine (rlast_any A4 (n0 + n) c4 (s.N ++ l) w4 HR4.out (by omega) hcap4).mono ?_)
           rintro ed w5 ⟨A5, c5, he5, hown5, hb5⟩
           obtain ⟨n5, hn5⟩ : ∃ n5, n5 = (lastN (s.N ++ l)).length := ⟨_, rfl⟩
           rw [← hn5] at he5 hown5
           subst he5
           have hP5 := HP2.out.below (HB4.out.trans (hb5.mono HB4.out.size))
           clear z0 z1 z2 z3 z4 z5 z6
           obtain ⟨⟨z0, z1, z2⟩, z3, z4, z5, z6⟩ := hP5.cells
           dsimp only at z0 z1 z2
           have HP5 := Lib.hid hP5
           have HN5 := Lib.hid (own_base hown5 (Nat.zero_le _))
           have HO5 := Lib.hid (own_below HO2.out (HB4.out.trans (hb5.mono HB4.out.size)))
           have Hn5 := Lib.hid hn5
           clear hown5 hb5 hP5 hn5)
        | (go_at_call 78; (with_reducible refine (radd_go lb p g s.half s.turn s.taken bl c1 _ 0 A1 b s.r r7 _ HP5.out.ht HP5.out.at_ hh htk1 (by omega) haf HO5.out Hbf.out (by omega) Hwr.out).mono ?_)
           rintro ed w6 ⟨rfl, ht6, hl6, hc6⟩
           rw [if_pos rfl] at hl6
           have hs6 := (HP5.out.rsto Hs3.out).chg hc6 (HP5.out.ht.ne3 HP5.out.at_ HP5.out.sto (by decide)) (fun g cur fr hg => HP5.out.ht.ne3 HP5.out.at_ hg (by decide))
           have hN6 := own_chg HN5.out hc6 (fun g cur fr hg _ => HP5.out.ht.ne3 HP5.out.at_ hg (by decide))
           have hst6 := (hc6.at_ (Array.getElem?_eq_some_iff.1 HP5.out.sto).1 (HP5.out.ht.ne3 HP5.out.at_ HP5.out.sto (by decide))).trans HP5.out.sto
           clear z0 z1 z2 z3 z4 z5 z6
           have z6 := cell_of_row _ sb 3 _ _ _ hst6
           have z7 := frozen_of_row _ sb 3 _ _ hst6
           simp at z6
           have HT6 := Lib.hid ht6
           have HL6 := Lib.hid hl6
           have HS6 := Lib.hid hs6
           have HN6 := Lib.hid hN6
           have HC6 : Hid (Chg (X3 p g lb) w w6) := (Chg.of HP5.out.bel).trans hc6
           clear ht6 hl6 hs6 hN6 hst6 hc6))
      go_ret
      unfold RPutP
      rw [Hput.out]
      exact ⟨rfl, ⟨HT6.out.set HS6.out.choose_spec.choose_spec.choose_spec.1 (by decide) 3 _, Hw7.out, HL6.out.keep3 HS6.out, HS6.out.note HN6.out Hn5.out.symm⟩, chg_set (HC6.out.mono (fun j hj => .inl hj)) (.inr rfl)⟩
    · have hen0 : ((en : Int) == 0) = false := by rcases hcode with rfl | rfl <;> rfl
      have hen5 : ((en : Int) == 5) = false := by rcases hcode with rfl | rfl <;> rfl
      have hne : ¬ en = 0 := by omega
      rw [if_neg hne] at hput
      have Hput := Lib.hid hput
      have Hne := Lib.hid hne
      clear hput hne hcode
      go_enter Try.func59, Try.ntmps59
      go_wp2_with (first
        | (rw [← Hwb.out]
           go_at_call 13; (with_reducible refine (bytes22_any ⟨P1, p1, q1, P2, p2, q2, P3, p3, q3⟩ x A n cn wb.heap.size l wb HP.out.xr HP.out.lr hnm (Nat.le_refl _)).mono ?_)
           rintro ed w1 ⟨bv1, rfl, hown1, hb1⟩
           rw [← Hb.out, ← Hbl.out] at hown1
           obtain ⟨A1, c1, rfl⟩ := own_shape hown1
           have hP1 := HP.out.below hb1
           clear z0 z1 z2 z3 z4 z5 z6
           obtain ⟨⟨z0, z1, z2⟩, z3, z4, z5, z6⟩ := hP1.cells
           dsimp only at z0 z1 z2
           have HP1 := Lib.hid hP1
           have HO1 := Lib.hid hown1
           clear hown1 hb1 hP1))
      go_quiet (fail)
      obtain ⟨w2, hw2⟩ : ∃ W, W = w1.drewN nq := ⟨_, rfl⟩
      rw [← hw2]
      have hb2 : Below w1.heap.size w1 w2 := by rw [hw2]; exact below_nq (Below.refl _ _) _
      have hP2 := HP1.out.below hb2
      clear z0 z1 z2 z3 z4 z5 z6
      obtain ⟨⟨z0, z1, z2⟩, z3, z4, z5, z6⟩ := hP2.cells
      dsimp only at z0 z1 z2
      have z6a : (w2.alloc (.cells #[] 54)).cell? ⟨sb, 3, none⟩ = some (.slice A0 n0 cap0) := (World.cell?_alloc_lt _ _ _ (Array.getElem?_eq_some_iff.1 hP2.sto).1).trans z6
      have HP2 := Lib.hid hP2
      have HO2 := Lib.hid (own_below HO1.out hb2)
      clear hw2 hb2 hP2
      go_wp2_with (first
        | (at_builtin
           refine wpList_app _ rfl (.tmp 36) (.tmp 40) 26 rfl w2.heap.size 54 i0 (.agg #[.int .i64 0, .int .i64 0, .int .i64 0]) 3 24 Try.underlying26 hi hz0 hz1 hz2 rfl (by omega) (.slice (some ⟨w2.heap.size, 0, none⟩) 0 0) 0 [] rfl (World.ownsRow_made w2 #[] 0 (Nat.le_refl _) (by unfold maxLen; omega) rfl) w2.heap.size A0 n0 cap0 (s.N.flatMap Nt.cells) rfl ((rds_rd (rds_of_own HP2.out.own0 Hs3.out)).below (al_ _ _)) (cells_one s.N) ?g1 ?g2 ?g3 ?_
           case g1 => unfold maxLen; omega
           case g2 => omega
           case g3 => exact (al_ w2 _).size
           intro v3 w3 hown3 hg3 hat3
           rw [Nat.zero_add, List.nil_append] at hown3
           obtain ⟨A3, c3, rfl⟩ := own_shape hown3
           have hb3 : Below w2.heap.size w2 w3 := (al_ w2 _).grown hg3 (al_ w2 _).size (fun q hq => by simp [Value.ownBlock] at hq; omega)
           have HB3 := Lib.hid hb3
           have HO3 := Lib.hid hown3
           clear hown3 hg3 hat3 hb3)
        | (at_builtin
           refine wpList_app _ rfl (.tmp 41) (.tmp 42) 26 rfl w2.heap.size 54 i0 (.agg #[.int .i64 0, .int .i64 0, .int .i64 0]) 3 24 Try.underlying26 hi hz0 hz1 hz2 rfl (by omega) (.slice A3 n0 c3) n0 (s.N.flatMap Nt.cells) rfl HO3.out w3.heap.size A n cn (l.flatMap Nt.cells) rfl (rds_rd (HP2.out.below HB3.out).lr) (cells_one l) ?g1 ?g2 ?g3 ?_
           case g1 => unfold maxLen; omega
           case g2 => omega
           case g3 => exact HB3.out.size
           intro v4 w4 hown4 hg4 hat4
           rw [← List.flatMap_append] at hown4
           obtain ⟨A4, c4, rfl⟩ := own_shape hown4
           have hb4 : Below w2.heap.size w2 w4 := HB3.out.grown hg4 HB3.out.size (fun q hq => (own_blk' HO3.out q hq).1)
           have hNl : (s.N ++ l).length = n0 + n := by rw [List.length_append, Hs3.out, Hln.out]
           have hcap4 := (own_max hown4).1
           have HB4 := Lib.hid hb4
           have HR4 := Lib.hid (rds_of_own hown4 hNl)
           clear hown4 hg4 hat4 hb4 hNl)
        | (go_at_call 77; (with_reducible refine (rlast_any A4 (n0 + n) c4 (s.N ++ l) w4 HR4.out (by omega) hcap4).mono ?_)
           rintro ed w5 ⟨A5, c5, he5, hown5, hb5⟩
           obtain ⟨n5, hn5⟩ : ∃ n5, n5 = (lastN (s.N ++ l)).length := ⟨_, rfl⟩
           rw [← hn5] at he5 hown5
           subst he5
           have hP5 := HP2.out.below (HB4.out.trans (hb5.mono HB4.out.size))
           clear z0 z1 z2 z3 z4 z5 z6
           obtain ⟨⟨z0, z1, z2⟩, z3, z4, z5, z6⟩ := hP5.cells
           dsimp only at z0 z1 z2
           have HP5 := Lib.hid hP5
           have HN5 := Lib.hid (own_base hown5 (Nat.zero_le _))
           have HO5 := Lib.hid (own_below HO2.out (HB4.out.trans (hb5.mono HB4.out.size)))
           have Hn5 := Lib.hid hn5
           clear hown5 hb5 hP5 hn5)
        | (go_at_call 78; (with_reducible refine (radd_go lb p g s.half s.turn s.taken bl c1 _ en A1 b s.r r7 _ HP5.out.ht HP5.out.at_ hh htk1 (by omega) haf HO5.out Hbf.out (by omega) Hwr.out).mono ?_)
           rintro ed w6 ⟨rfl, ht6, hl6, hc6⟩
           rw [if_neg Hne.out] at hl6
           have hs6 := (HP5.out.rsto Hs3.out).chg hc6 (HP5.out.ht.ne3 HP5.out.at_ HP5.out.sto (by decide)) (fun g cur fr hg => HP5.out.ht.ne3 HP5.out.at_ hg (by decide))
           have hN6 := own_chg HN5.out hc6 (fun g cur fr hg _ => HP5.out.ht.ne3 HP5.out.at_ hg (by decide))
           have hst6 := (hc6.at_ (Array.getElem?_eq_some_iff.1 HP5.out.sto).1 (HP5.out.ht.ne3 HP5.out.at_ HP5.out.sto (by decide))).trans HP5.out.sto
           clear z0 z1 z2 z3 z4 z5 z6
           have z6 := cell_of_row _ sb 3 _ _ _ hst6
           have z7 := frozen_of_row _ sb 3 _ _ hst6
           simp at z6
           have HT6 := Lib.hid ht6
           have HL6 := Lib.hid hl6
           have HS6 := Lib.hid hs6
           have HN6 := Lib.hid hN6
           have HC6 : Hid (Chg (X3 p g lb) w w6) := (Chg.of HP5.out.bel).trans hc6
           clear ht6 hl6 hs6 hN6 hst6 hc6))
      go_ret
      unfold RPutP
      rw [Hput.out]
      exact ⟨rfl, ⟨HT6.out, Hw7.out, HL6.out, HS6.out⟩, HC6.out.mono (fun j hj => .inl hj)⟩
  have haf : s.r.d.L.length / 2 < s.taken + (bl + 55) / 56 := by omega
  clear ha
  obtain ⟨b2, hb2⟩ : ∃ y, y = bytesF x (lastN (s.N ++ l)) := ⟨_, rfl⟩
  obtain ⟨bl2, hbl2⟩ : ∃ y, y = b2.length := ⟨_, rfl⟩
  have hok2 := okR_last Hok.out Hokn.out
  have hlen2 := bytesF_len hok2
  have Hbf2 : Hid (fineB b2) := by show fineB b2; rw [hb2]; exact okR_fine hok2
  rw [← hb2, ← hbl2] at hlen2
  have hnb2 : needsN b2 = (bl2 + 55) / 56 := by unfold needsN; rw [← hbl2]
  have Hb2 := Lib.hid hb2
  have Hbl2 := Lib.hid hbl2
  have hwk' : s.r.d.writes ≤ k := Hwk.out
  have hput1 : s.put c e x l = if s.r.d.L.length / 2 < (bl2 + 55) / 56 then (5, s) else s.comp b2 (lastN (s.N ++ l)) := by
    unfold CS.put
    rw [if_neg hno, ← Hb.out, if_neg (by rw [hnb]; omega), ← hb2, hnb2]
  clear hno hnb hb2 hbl2 hok2
  by_cases hc : s.r.d.L.length / 2 < (bl2 + 55) / 56
  · rw [if_pos hc] at hput1
    have Hput := Lib.hid hput1
    clear hput1
    go_enter Try.func59, Try.ntmps59
    go_wp2_with (first
      | (rw [← Hwb.out]
         go_at_call 13; (with_reducible refine (bytes22_any ⟨P1, p1, q1, P2, p2, q2, P3, p3, q3⟩ x A n cn wb.heap.size l wb HP.out.xr HP.out.lr hnm (Nat.le_refl _)).mono ?_)
         rintro ed w1 ⟨bv1, rfl, hown1, hb1⟩
         rw [← Hb.out, ← Hbl.out] at hown1
         obtain ⟨A1, c1, rfl⟩ := own_shape hown1
         have hP1 := HP.out.below hb1
         clear z0 z1 z2 z3 z4 z5 z6
         obtain ⟨⟨z0, z1, z2⟩, z3, z4, z5, z6⟩ := hP1.cells
         dsimp only at z0 z1 z2
         have HP1 := Lib.hid hP1
         have HO1 := Lib.hid hown1
         clear hown1 hb1 hP1))
    go_quiet (fail)
    obtain ⟨w2, hw2⟩ : ∃ W, W = w1.drewN nq := ⟨_, rfl⟩
    rw [← hw2]
    have hb2 : Below w1.heap.size w1 w2 := by rw [hw2]; exact below_nq (Below.refl _ _) _
    have hP2 := HP1.out.below hb2
    clear z0 z1 z2 z3 z4 z5 z6
    obtain ⟨⟨z0, z1, z2⟩, z3, z4, z5, z6⟩ := hP2.cells
    dsimp only at z0 z1 z2
    have z6a : (w2.alloc (.cells #[] 54)).cell? ⟨sb, 3, none⟩ = some (.slice A0 n0 cap0) := (World.cell?_alloc_lt _ _ _ (Array.getElem?_eq_some_iff.1 hP2.sto).1).trans z6
    have HP2 := Lib.hid hP2
    have HO2 := Lib.hid (own_below HO1.out hb2)
    clear hw2 hb2 hP2
    go_wp2_with (first
      | (at_builtin
         refine wpList_app _ rfl (.tmp 36) (.tmp 40) 26 rfl w2.heap.size 54 i0 (.agg #[.int .i64 0, .int .i64 0, .int .i64 0]) 3 24 Try.underlying26 hi hz0 hz1 hz2 rfl (by omega) (.slice (some ⟨w2.heap.size, 0, none⟩) 0 0) 0 [] rfl (World.ownsRow_made w2 #[] 0 (Nat.le_refl _) (by unfold maxLen; omega) rfl) w2.heap.size A0 n0 cap0 (s.N.flatMap Nt.cells) rfl ((rds_rd (rds_of_own HP2.out.own0 Hs3.out)).below (al_ _ _)) (cells_one s.N) ?g1 ?g2 ?g3 ?_
         case g1 => unfold maxLen; omega
         case g2 => omega
         case g3 => exact (al_ w2 _).size
         intro v3 w3 hown3 hg3 hat3
         rw [Nat.zero_add, List.nil_append] at hown3
         obtain ⟨A3, c3, rfl⟩ := own_shape hown3
         have hb3 : Below w2.heap.size w2 w3 := (al_ w2 _).grown hg3 (al_ w2 _).size (fun q hq => by simp [Value.ownBlock] at hq; omega)
         have HB3 := Lib.hid hb3
         have HO3 := Lib.hid hown3
         clear hown3 hg3 hat3 hb3)
      | (at_builtin
         refine wpList_app _ rfl (.tmp 41) (.tmp 42) 26 rfl w2.heap.size 54 i0 (.agg #[.int .i64 0, .int .i64 0, .int .i64 0]) 3 24 Try.underlying26 hi hz0 hz1 hz2 rfl (by omega) (.slice A3 n0 c3) n0 (s.N.flatMap Nt.cells) rfl HO3.out w3.heap.size A n cn (l.flatMap Nt.cells) rfl (rds_rd (HP2.out.below HB3.out).lr) (cells_one l) ?g1 ?g2 ?g3 ?_
         case g1 => unfold maxLen; omega
         case g2 => omega
         case g3 => exact HB3.out.size
         intro v4 w4 hown4 hg4 hat4
         rw [← List.flatMap_append] at hown4
         obtain ⟨A4, c4, rfl⟩ := own_shape hown4
         have hb4 : Below w2.heap.size w2 w4 := HB3.out.grown hg4 HB3.out.size (fun q hq => (own_blk' HO3.out q hq).1)
         have hNl : (s.N ++ l).length = n0 + n := by rw [List.length_append, Hs3.out, Hln.out]
         have hcap4 := (own_max hown4).1
         have HB4 := Lib.hid hb4
         have HR4 := Lib.hid (rds_of_own hown4 hNl)
         clear hown4 hg4 hat4 hb4 hNl)
      | (go_at_call 77; (with_reducible refine (rlast_any A4 (n0 + n) c4 (s.N ++ l) w4 HR4.out (by omega) hcap4).mono ?_)
         rintro ed w5 ⟨A5, c5, he5, hown5, hb5⟩
         obtain ⟨n5, hn5⟩ : ∃ n5, n5 = (lastN (s.N ++ l)).length := ⟨_, rfl⟩
         rw [← hn5] at he5 hown5
         subst he5
         have hP5 := HP2.out.below (HB4.out.trans (hb5.mono HB4.out.size))
         clear z0 z1 z2 z3 z4 z5 z6
         obtain ⟨⟨z0, z1, z2⟩, z3, z4, z5, z6⟩ := hP5.cells
         dsimp only at z0 z1 z2
         have HP5 := Lib.hid hP5
         have HN5 := Lib.hid (own_base hown5 (Nat.zero_le _))
         have HO5 := Lib.hid (own_below HO2.out (HB4.out.trans (hb5.mono HB4.out.size)))
         have Hn5 := Lib.hid hn5
         clear hown5 hb5 hP5 hn5)
      | (go_at_call 78; (with_reducible refine (radd_full lb p g s.half s.turn s.taken bl c1 _ A1 s.r _ HP5.out.ht HP5.out.at_ htk1 hlen haf).mono ?_)
         rintro ed w6 ⟨rfl, hb6⟩
         have hP6 := HP5.out.below hb6
         clear z0 z1 z2 z3 z4 z5 z6
         obtain ⟨⟨z0, z1, z2⟩, z3, z4, z5, z6⟩ := hP6.cells
         dsimp only at z0 z1 z2
         have HP6 := Lib.hid hP6
         have HN6 := Lib.hid (own_below HN5.out hb6)
         clear hb6 hP6))
    have hP6d := HP6.out.below (Below.refl _ w6).drew
    have hcl := hP6d.cells
    have HS6' : Hid (w6.drew.cell? ⟨sb, 0, none⟩ = some (.pointer (some ⟨lb, 0, none⟩)) ∧ w6.drew.cell? ⟨w.heap.size, 0, none⟩ = some (.slice P1 p1 q1) ∧ w6.drew.cell? ⟨w.heap.size, 1, none⟩ = some (.slice P2 p2 q2) ∧ w6.drew.cell? ⟨w.heap.size, 2, none⟩ = some (.slice P3 p3 q3)) := ⟨hcl.2.1, hcl.1⟩
    have HP6d := Lib.hid hP6d
    have HN6d := Lib.hid (own_below HN6.out (Below.refl _ w6).drew)
    have hn5' : n5 ≤ maxLen := by have := Hn5.out; have := lastN_len (s.N ++ l); unfold maxLen; omega
    clear z0 z1 z2 z3 z4 z5 z6 hcl hP6d
    refine sk (fun w' => w'.cell? ⟨sb, 0, none⟩ = some (.pointer (some ⟨lb, 0, none⟩)) ∧ w'.cell? ⟨w.heap.size, 0, none⟩ = some (.slice P1 p1 q1) ∧ w'.cell? ⟨w.heap.size, 1, none⟩ = some (.slice P2 p2 q2) ∧ w'.cell? ⟨w.heap.size, 2, none⟩ = some (.slice P3 p3 q3)) 9 ?_ (fun hHeld => ?_)
    · (first | exact HS6'.out | exact hS7 | exact hS8)
    refine tk 0 53 hHeld ?_
    refine tk 1 54 hHeld ?_
    refine tk 2 55 hHeld ?_
    refine tk 3 56 hHeld ?_
    refine tk 4 57 hHeld ?_
    refine tk 5 58 hHeld ?_
    refine bk 6 59 (fun K hK => ?_)
    go_simp
    (go_at_call 13; (with_reducible refine (bytes22_any ⟨P1, p1, q1, P2, p2, q2, P3, p3, q3⟩ x A5 n5 c5 w6.drew.heap.size (lastN (s.N ++ l)) w6.drew HP6d.out.xr (rds_of_own HN6d.out Hn5.out.symm) hn5' (Nat.le_refl _)).mono ?_))
    rintro ed w7 ⟨bv7, rfl, hown7, hb7⟩
    rw [← Hb2.out, ← Hbl2.out] at hown7
    obtain ⟨A7, c7, rfl⟩ := own_shape hown7
    have hP7 := HP6d.out.below hb7
    have hcl := hP7.cells
    have hS7 : w7.cell? ⟨sb, 0, none⟩ = some (.pointer (some ⟨lb, 0, none⟩)) ∧ w7.cell? ⟨w.heap.size, 0, none⟩ = some (.slice P1 p1 q1) ∧ w7.cell? ⟨w.heap.size, 1, none⟩ = some (.slice P2 p2 q2) ∧ w7.cell? ⟨w.heap.size, 2, none⟩ = some (.slice P3 p3 q3) := ⟨hcl.2.1, hcl.1⟩
    have HP7 := Lib.hid hP7
    have HN7 := Lib.hid (own_below HN6d.out hb7)
    have HO7 := Lib.hid hown7
    clear hown7 hb7 hcl hP7
    dsimp only
    refine hK.out _ _ ?_ (fun hHeld' => ?_)
    · (first | exact HS6'.out | exact hS7 | exact hS8)
    clear hK K hHeld
    have hHeld := hHeld'
    clear hHeld'
    simp only [List.set_cons_zero, List.set_cons_succ]
    refine bk 7 60 (fun K hK => ?_)
    go_simp
    (go_at_call 79; (with_reducible refine (rcomp_full lb p g s.half s.turn s.taken bl2 c7 _ A7 s.r _ HP7.out.ht HP7.out.at_ hlen2 hc).mono ?_))
    rintro ed w8 ⟨rfl, hb8⟩
    have hP8 := HP7.out.below hb8
    have hcl := hP8.cells
    have hS8 : w8.cell? ⟨sb, 0, none⟩ = some (.pointer (some ⟨lb, 0, none⟩)) ∧ w8.cell? ⟨w.heap.size, 0, none⟩ = some (.slice P1 p1 q1) ∧ w8.cell? ⟨w.heap.size, 1, none⟩ = some (.slice P2 p2 q2) ∧ w8.cell? ⟨w.heap.size, 2, none⟩ = some (.slice P3 p3 q3) := ⟨hcl.2.1, hcl.1⟩
    have HP8 := Lib.hid hP8
    clear hb8 hcl hP8
    dsimp only
    refine hK.out _ _ ?_ (fun hHeld' => ?_)
    · (first | exact HS6'.out | exact hS7 | exact hS8)
    clear hK K hHeld
    have hHeld := hHeld'
    clear hHeld'
    simp only [List.set_cons_zero, List.set_cons_succ]
    refine tk 8 9 hHeld ?_
    refine wpAnyH_done (by kernel_rfl) ?_ _
    refine NoPanic.normal ?_
    clear hHeld hS8
    go_wp2_with fail
    go_ret
    exact HP8.out.still Hs3.out Hwk.out Hput.out
  rw [if_neg hc] at hput1
  obtain ⟨en, r7, hwr⟩ : ∃ en r7, wrR ((1 - s.half) * (s.r.d.L.length / 2)) (s.turn + 1) b2 s.r (List.range (needsN b2)) = (en, r7) := ⟨_, _, rfl⟩
  have hkeep := wrR_keep ((1 - s.half) * (s.r.d.L.length / 2)) (s.turn + 1) b2 s.r
  rw [hwr] at hkeep
  have Hw7 : Hid (r7.d.writes ≤ k + 16) := by show _ ≤ _; have h1 := hkeep.2; dsimp only at h1; omega
  have Hwr := Lib.hid hwr
  have hcode : en = 0 ∨ en = 1 ∨ en = 101 := by
    have h1 := wrF_code ((1 - s.half) * (s.r.d.L.length / 2)) (s.turn + 1) b2 (List.range (needsN b2)) s.r.d
    have h2 := (wrR_d ((1 - s.half) * (s.r.d.L.length / 2)) (s.turn + 1) b2 (List.range (needsN b2)) s.r).1
    rw [hwr] at h2
    dsimp only at h2
    rw [← h2] at h1
    exact h1
  have hput : s.put c e x l = if en = 0 then (0, ⟨r7, 1 - s.half, s.turn + 1, (bl2 + 55) / 56, lastN (s.N ++ l)⟩) else (en, ⟨r7, s.half, s.turn, s.taken, s.N⟩) := by
    rw [hput1]
    unfold CS.comp
    dsimp only
    rw [hwr, hnb2]
  clear hkeep hwr hput1 hnb2
  rcases hcode with rfl | hcode
  · rw [if_pos rfl] at hput
    have Hput := Lib.hid hput
    clear hput
    go_enter Try.func59, Try.ntmps59
    go_wp2_with (first
      | (rw [← Hwb.out]
         go_at_call 13; (with_reducible refine (bytes22_any ⟨P1, p1, q1, P2, p2, q2, P3, p3, q3⟩ x A n cn wb.heap.size l wb HP.out.xr HP.out.lr hnm (Nat.le_refl _)).mono ?_)
         rintro ed w1 ⟨bv1, rfl, hown1, hb1⟩
         rw [← Hb.out, ← Hbl.out] at hown1
         obtain ⟨A1, c1, rfl⟩ := own_shape hown1
         have hP1 := HP.out.below hb1
         clear z0 z1 z2 z3 z4 z5 z6
         obtain ⟨⟨z0, z1, z2⟩, z3, z4, z5, z6⟩ := hP1.cells
         dsimp only at z0 z1 z2
         have HP1 := Lib.hid hP1
         have HO1 := Lib.hid hown1
         clear hown1 hb1 hP1))
    go_quiet (fail)
    obtain ⟨w2, hw2⟩ : ∃ W, W = w1.drewN nq := ⟨_, rfl⟩
    rw [← hw2]
    have hb2 : Below w1.heap.size w1 w2 := by rw [hw2]; exact below_nq (Below.refl _ _) _
    have hP2 := HP1.out.below hb2
    clear z0 z1 z2 z3 z4 z5 z6
    obtain ⟨⟨z0, z1, z2⟩, z3, z4, z5, z6⟩ := hP2.cells
    dsimp only at z0 z1 z2
    have z6a : (w2.alloc (.cells #[] 54)).cell? ⟨sb, 3, none⟩ = some (.slice A0 n0 cap0) := (World.cell?_alloc_lt _ _ _ (Array.getElem?_eq_some_iff.1 hP2.sto).1).trans z6
    have HP2 := Lib.hid hP2
    have HO2 := Lib.hid (own_below HO1.out hb2)
    clear hw2 hb2 hP2
    go_wp2_with (first
      | (at_builtin
         refine wpList_app _ rfl (.tmp 36) (.tmp 40) 26 rfl w2.heap.size 54 i0 (.agg #[.int .i64 0, .int .i64 0, .int .i64 0]) 3 24 Try.underlying26 hi hz0 hz1 hz2 rfl (by omega) (.slice (some ⟨w2.heap.size, 0, none⟩) 0 0) 0 [] rfl (World.ownsRow_made w2 #[] 0 (Nat.le_refl _) (by unfold maxLen; omega) rfl) w2.heap.size A0 n0 cap0 (s.N.flatMap Nt.cells) rfl ((rds_rd (rds_of_own HP2.out.own0 Hs3.out)).below (al_ _ _)) (cells_one s.N) ?g1 ?g2 ?g3 ?_
         case g1 => unfold maxLen; omega
         case g2 => omega
         case g3 => exact (al_ w2 _).size
         intro v3 w3 hown3 hg3 hat3
         rw [Nat.zero_add, List.nil_append] at hown3
         obtain ⟨A3, c3, rfl⟩ := own_shape hown3
         have hb3 : Below w2.heap.size w2 w3 := (al_ w2 _).grown hg3 (al_ w2 _).size (fun q hq => by simp [Value.ownBlock] at hq; omega)
         have HB3 := Lib.hid hb3
         have HO3 := Lib.hid hown3
         clear hown3 hg3 hat3 hb3)
      | (at_builtin
         refine wpList_app _ rfl (.tmp 41) (.tmp 42) 26 rfl w2.heap.size 54 i0 (.agg #[.int .i64 0, .int .i64 0, .int .i64 0]) 3 24 Try.underlying26 hi hz0 hz1 hz2 rfl (by omega) (.slice A3 n0 c3) n0 (s.N.flatMap Nt.cells) rfl HO3.out w3.heap.size A n cn (l.flatMap Nt.cells) rfl (rds_rd (HP2.out.below HB3.out).lr) (cells_one l) ?g1 ?g2 ?g3 ?_
         case g1 => unfold maxLen; omega
         case g2 => omega
         case g3 => exact HB3.out.size
         intro v4 w4 hown4 hg4 hat4
         rw [← List.flatMap_append] at hown4
         obtain ⟨A4, c4, rfl⟩ := own_shape hown4
         have hb4 : Below w2.heap.size w2 w4 := HB3.out.grown hg4 HB3.out.size (fun q hq => (own_blk' HO3.out q hq).1)
         have hNl : (s.N ++ l).length = n0 + n := by rw [List.length_append, Hs3.out, Hln.out]
         have hcap4 := (own_max hown4).1
         have HB4 := Lib.hid hb4
         have HR4 := Lib.hid (rds_of_own hown4 hNl)
         clear hown4 hg4 hat4 hb4 hNl)
      | (go_at_call 77; (with_reducible refine (rlast_any A4 (n0 + n) c4 (s.N ++ l) w4 HR4.out (by omega) hcap4).mono ?_)
         rintro ed w5 ⟨A5, c5, he5, hown5, hb5⟩
         obtain ⟨n5, hn5⟩ : ∃ n5, n5 = (lastN (s.N ++ l)).length := ⟨_, rfl⟩
         rw [← hn5] at he5 hown5
         subst he5
         have hP5 := HP2.out.below (HB4.out.trans (hb5.mono HB4.out.size))
         clear z0 z1 z2 z3 z4 z5 z6
         obtain ⟨⟨z0, z1, z2⟩, z3, z4, z5, z6⟩ := hP5.cells
         dsimp only at z0 z1 z2
         have HP5 := Lib.hid hP5
         have HN5 := Lib.hid (own_base hown5 (Nat.zero_le _))
         have HO5 := Lib.hid (own_below HO2.out (HB4.out.trans (hb5.mono HB4.out.size)))
         have Hn5 := Lib.hid hn5
         clear hown5 hb5 hP5 hn5)
      | (go_at_call 78; (with_reducible refine (radd_full lb p g s.half s.turn s.taken bl c1 _ A1 s.r _ HP5.out.ht HP5.out.at_ htk1 hlen haf).mono ?_)
         rintro ed w6 ⟨rfl, hb6⟩
         have hP6 := HP5.out.below hb6
         clear z0 z1 z2 z3 z4 z5 z6
         obtain ⟨⟨z0, z1, z2⟩, z3, z4, z5, z6⟩ := hP6.cells
         dsimp only at z0 z1 z2
         have HP6 := Lib.hid hP6
         have HN6 := Lib.hid (own_below HN5.out hb6)
         clear hb6 hP6))
    have hP6d := HP6.out.below (Below.refl _ w6).drew
    have hcl := hP6d.cells
    have HS6' : Hid (w6.drew.cell? ⟨sb, 0, none⟩ = some (.pointer (some ⟨lb, 0, none⟩)) ∧ w6.drew.cell? ⟨w.heap.size, 0, none⟩ = some (.slice P1 p1 q1) ∧ w6.drew.cell? ⟨w.heap.size, 1, none⟩ = some (.slice P2 p2 q2) ∧ w6.drew.cell? ⟨w.heap.size, 2, none⟩ = some (.slice P3 p3 q3)) := ⟨hcl.2.1, hcl.1⟩
    have HP6d := Lib.hid hP6d
    have HN6d := Lib.hid (own_below HN6.out (Below.refl _ w6).drew)
    have hn5' : n5 ≤ maxLen := by have := Hn5.out; have := lastN_len (s.N ++ l); unfold maxLen; omega
    clear z0 z1 z2 z3 z4 z5 z6 hcl hP6d
    refine sk (fun w' => w'.cell? ⟨sb, 0, none⟩ = some (.pointer (some ⟨lb, 0, none⟩)) ∧ w'.cell? ⟨w.heap.size, 0, none⟩ = some (.slice P1 p1 q1) ∧ w'.cell? ⟨w.heap.size, 1, none⟩ = some (.slice P2 p2 q2) ∧ w'.cell? ⟨w.heap.size, 2, none⟩ = some (.slice P3 p3 q3)) 9 ?_ (fun hHeld => ?_)
    · (first | exact HS6'.out | exact hS7 | exact hS8)
    refine tk 0 53 hHeld ?_
    refine tk 1 54 hHeld ?_
    refine tk 2 55 hHeld ?_
    refine tk 3 56 hHeld ?_
    refine tk 4 57 hHeld ?_
    refine tk 5 58 hHeld ?_
    refine bk 6 59 (fun K hK => ?_)
    go_simp
    (go_at_call 13; (with_reducible refine (bytes22_any ⟨P1, p1, q1, P2, p2, q2, P3, p3, q3⟩ x A5 n5 c5 w6.drew.heap.size (lastN (s.N ++ l)) w6.drew HP6d.out.xr (rds_of_own HN6d.out Hn5.out.symm) hn5' (Nat.le_refl _)).mono ?_))
    rintro ed w7 ⟨bv7, rfl, hown7, hb7⟩
    rw [← Hb2.out, ← Hbl2.out] at hown7
    obtain ⟨A7, c7, rfl⟩ := own_shape hown7
    have hP7 := HP6d.out.below hb7
    have hcl := hP7.cells
    have hS7 : w7.cell? ⟨sb, 0, none⟩ = some (.pointer (some ⟨lb, 0, none⟩)) ∧ w7.cell? ⟨w.heap.size, 0, none⟩ = some (.slice P1 p1 q1) ∧ w7.cell? ⟨w.heap.size, 1, none⟩ = some (.slice P2 p2 q2) ∧ w7.cell? ⟨w.heap.size, 2, none⟩ = some (.slice P3 p3 q3) := ⟨hcl.2.1, hcl.1⟩
    have HP7 := Lib.hid hP7
    have HN7 := Lib.hid (own_below HN6d.out hb7)
    have HO7 := Lib.hid hown7
    clear hown7 hb7 hcl hP7
    dsimp only
    refine hK.out _ _ ?_ (fun hHeld' => ?_)
    · (first | exact HS6'.out | exact hS7 | exact hS8)
    clear hK K hHeld
    have hHeld := hHeld'
    clear hHeld'
    simp only [List.set_cons_zero, List.set_cons_succ]
    refine bk 7 60 (fun K hK => ?_)
    go_simp
    (go_at_call 79; (with_reducible refine (rcomp_go lb p g s.half s.turn s.taken bl2 c7 _ 0 A7 b2 s.r r7 _ HP7.out.ht HP7.out.at_ hh ht hc HO7.out Hbf2.out (by omega) Hwr.out).mono ?_))
    rintro ed w8 ⟨rfl, ht8, hl8, hc8⟩
    rw [if_pos rfl, if_pos rfl, if_pos rfl] at hl8
    have hs8 := (HP7.out.rsto Hs3.out).chg hc8 (HP7.out.ht.ne3 HP7.out.at_ HP7.out.sto (by decide)) (fun g cur fr hg => HP7.out.ht.ne3 HP7.out.at_ hg (by decide))
    have hN8 := own_chg HN7.out hc8 (fun g cur fr hg _ => HP7.out.ht.ne3 HP7.out.at_ hg (by decide))
    have hst8 := (hc8.at_ (Array.getElem?_eq_some_iff.1 HP7.out.sto).1 (HP7.out.ht.ne3 HP7.out.at_ HP7.out.sto (by decide))).trans HP7.out.sto
    have hbx8 := (hc8.at_ (Array.getElem?_eq_some_iff.1 HP7.out.box).1 (HP7.out.ht.ne3 HP7.out.at_ HP7.out.box (by decide))).trans HP7.out.box
    have y0 := cell_of_row _ sb 0 _ _ _ hst8
    have y3 := cell_of_row _ sb 3 _ _ _ hst8
    have y4 := frozen_of_row _ sb 3 _ _ hst8
    have x0 := cell_of_row _ w.heap.size 0 _ _ _ hbx8
    have x1 := cell_of_row _ w.heap.size 1 _ _ _ hbx8
    have x2 := cell_of_row _ w.heap.size 2 _ _ _ hbx8
    simp at y0 y3 x0 x1 x2
    have hS8 : w8.cell? ⟨sb, 0, none⟩ = some (.pointer (some ⟨lb, 0, none⟩)) ∧ w8.cell? ⟨w.heap.size, 0, none⟩ = some (.slice P1 p1 q1) ∧ w8.cell? ⟨w.heap.size, 1, none⟩ = some (.slice P2 p2 q2) ∧ w8.cell? ⟨w.heap.size, 2, none⟩ = some (.slice P3 p3 q3) := ⟨y0, x0, x1, x2⟩
    have HT8 := Lib.hid ht8
    have HL8 := Lib.hid hl8
    have HS8 := Lib.hid hs8
    have HN8 := Lib.hid hN8
    have HC8 : Hid (Chg (X3 p g lb) w w8) := (Chg.of HP7.out.bel).trans hc8
    clear ht8 hl8 hs8 hN8 hst8 hbx8 hc8 y0 x0 x1 x2
    dsimp only
    refine hK.out _ _ ?_ (fun hHeld' => ?_)
    · (first | exact HS6'.out | exact hS7 | exact hS8)
    clear hK K hHeld
    have hHeld := hHeld'
    clear hHeld'
    simp only [List.set_cons_zero, List.set_cons_succ]
    refine tk 8 9 hHeld ?_
    refine wpAnyH_done (by kernel_rfl) ?_ _
    refine NoPanic.normal ?_
    clear hHeld hS8
    go_wp2_with fail
    go_ret
    unfold RPutP
    rw [Hput.out]
    exact ⟨rfl, ⟨HT8.out.set HS8.out.choose_spec.choose_spec.choose_spec.1 (by decide) 3 _, Hw7.out, HL8.out.keep3 HS8.out, HS8.out.note HN8.out Hn5.out.symm⟩, chg_set (HC8.out.mono (fun j hj => .inl hj)) (.inr rfl)⟩
  · have hen0 : ((en : Int) == 0) = false := by rcases hcode with rfl | rfl <;> rfl
    have hne : ¬ en = 0 := by omega
    rw [if_neg hne] at hput
    have Hput := Lib.hid hput
    have Hne := Lib.hid hne
    clear hput hne hcode
    go_enter Try.func59, Try.ntmps59
    go_wp2_with (first
      | (rw [← Hwb.out]
         go_at_call 13; (with_reducible refine (bytes22_any ⟨P1, p1, q1, P2, p2, q2, P3, p3, q3⟩ x A n cn wb.heap.size l wb HP.out.xr HP.out.lr hnm (Nat.le_refl _)).mono ?_)
         rintro ed w1 ⟨bv1, rfl, hown1, hb1⟩
         rw [← Hb.out, ← Hbl.out] at hown1
         obtain ⟨A1, c1, rfl⟩ := own_shape hown1
         have hP1 := HP.out.below hb1
         clear z0 z1 z2 z3 z4 z5 z6
         obtain ⟨⟨z0, z1, z2⟩, z3, z4, z5, z6⟩ := hP1.cells
         dsimp only at z0 z1 z2
         have HP1 := Lib.hid hP1
         have HO1 := Lib.hid hown1
         clear hown1 hb1 hP1))
    go_quiet (fail)
    obtain ⟨w2, hw2⟩ : ∃ W, W = w1.drewN nq := ⟨_, rfl⟩
    rw [← hw2]
    have hb2 : Below w1.heap.size w1 w2 := by rw [hw2]; exact below_nq (Below.refl _ _) _
    have hP2 := HP1.out.below hb2
    clear z0 z1 z2 z3 z4 z5 z6
    obtain ⟨⟨z0, z1, z2⟩, z3, z4, z5, z6⟩ := hP2.cells
    dsimp only at z0 z1 z2
    have z6a : (w2.alloc (.cells #[] 54)).cell? ⟨sb, 3, none⟩ = some (.slice A0 n0 cap0) := (World.cell?_alloc_lt _ _ _ (Array.getElem?_eq_some_iff.1 hP2.sto).1).trans z6
    have HP2 := Lib.hid hP2
    have HO2 := Lib.hid (own_below HO1.out hb2)
    clear hw2 hb2 hP2
    go_wp2_with (first
      | (at_builtin
         refine wpList_app _ rfl (.tmp 36) (.tmp 40) 26 rfl w2.heap.size 54 i0 (.agg #[.int .i64 0, .int .i64 0, .int .i64 0]) 3 24 Try.underlying26 hi hz0 hz1 hz2 rfl (by omega) (.slice (some ⟨w2.heap.size, 0, none⟩) 0 0) 0 [] rfl (World.ownsRow_made w2 #[] 0 (Nat.le_refl _) (by unfold maxLen; omega) rfl) w2.heap.size A0 n0 cap0 (s.N.flatMap Nt.cells) rfl ((rds_rd (rds_of_own HP2.out.own0 Hs3.out)).below (al_ _ _)) (cells_one s.N) ?g1 ?g2 ?g3 ?_
         case g1 => unfold maxLen; omega
         case g2 => omega
         case g3 => exact (al_ w2 _).size
         intro v3 w3 hown3 hg3 hat3
         rw [Nat.zero_add, List.nil_append] at hown3
         obtain ⟨A3, c3, rfl⟩ := own_shape hown3
         have hb3 : Below w2.heap.size w2 w3 := (al_ w2 _).grown hg3 (al_ w2 _).size (fun q hq => by simp [Value.ownBlock] at hq; omega)
         have HB3 := Lib.hid hb3
         have HO3 := Lib.hid hown3
         clear hown3 hg3 hat3 hb3)
      | (at_builtin
         refine wpList_app _ rfl (.tmp 41) (.tmp 42) 26 rfl w2.heap.size 54 i0 (.agg #[.int .i64 0, .int .i64 0, .int .i64 0]) 3 24 Try.underlying26 hi hz0 hz1 hz2 rfl (by omega) (.slice A3 n0 c3) n0 (s.N.flatMap Nt.cells) rfl HO3.out w3.heap.size A n cn (l.flatMap Nt.cells) rfl (rds_rd (HP2.out.below HB3.out).lr) (cells_one l) ?g1 ?g2 ?g3 ?_
         case g1 => unfold maxLen; omega
         case g2 => omega
         case g3 => exact HB3.out.size
         intro v4 w4 hown4 hg4 hat4
         rw [← List.flatMap_append] at hown4
         obtain ⟨A4, c4, rfl⟩ := own_shape hown4
         have hb4 : Below w2.heap.size w2 w4 := HB3.out.grown hg4 HB3.out.size (fun q hq => (own_blk' HO3.out q hq).1)
         have hNl : (s.N ++ l).length = n0 + n := by rw [List.length_append, Hs3.out, Hln.out]
         have hcap4 := (own_max hown4).1
         have HB4 := Lib.hid hb4
         have HR4 := Lib.hid (rds_of_own hown4 hNl)
         clear hown4 hg4 hat4 hb4 hNl)
      | (go_at_call 77; (with_reducible refine (rlast_any A4 (n0 + n) c4 (s.N ++ l) w4 HR4.out (by omega) hcap4).mono ?_)
         rintro ed w5 ⟨A5, c5, he5, hown5, hb5⟩
         obtain ⟨n5, hn5⟩ : ∃ n5, n5 = (lastN (s.N ++ l)).length := ⟨_, rfl⟩
         rw [← hn5] at he5 hown5
         subst he5
         have hP5 := HP2.out.below (HB4.out.trans (hb5.mono HB4.out.size))
         clear z0 z1 z2 z3 z4 z5 z6
         obtain ⟨⟨z0, z1, z2⟩, z3, z4, z5, z6⟩ := hP5.cells
         dsimp only at z0 z1 z2
         have HP5 := Lib.hid hP5
         have HN5 := Lib.hid (own_base hown5 (Nat.zero_le _))
         have HO5 := Lib.hid (own_below HO2.out (HB4.out.trans (hb5.mono HB4.out.size)))
         have Hn5 := Lib.hid hn5
         clear hown5 hb5 hP5 hn5)
      | (go_at_call 78; (with_reducible refine (radd_full lb p g s.half s.turn s.taken bl c1 _ A1 s.r _ HP5.out.ht HP5.out.at_ htk1 hlen haf).mono ?_)
         rintro ed w6 ⟨rfl, hb6⟩
         have hP6 := HP5.out.below hb6
         clear z0 z1 z2 z3 z4 z5 z6
         obtain ⟨⟨z0, z1, z2⟩, z3, z4, z5, z6⟩ := hP6.cells
         dsimp only at z0 z1 z2
         have HP6 := Lib.hid hP6
         have HN6 := Lib.hid (own_below HN5.out hb6)
         clear hb6 hP6))
    have hP6d := HP6.out.below (Below.refl _ w6).drew
    have hcl := hP6d.cells
    have HS6' : Hid (w6.drew.cell? ⟨sb, 0, none⟩ = some (.pointer (some ⟨lb, 0, none⟩)) ∧ w6.drew.cell? ⟨w.heap.size, 0, none⟩ = some (.slice P1 p1 q1) ∧ w6.drew.cell? ⟨w.heap.size, 1, none⟩ = some (.slice P2 p2 q2) ∧ w6.drew.cell? ⟨w.heap.size, 2, none⟩ = some (.slice P3 p3 q3)) := ⟨hcl.2.1, hcl.1⟩
    have HP6d := Lib.hid hP6d
    have HN6d := Lib.hid (own_below HN6.out (Below.refl _ w6).drew)
    have hn5' : n5 ≤ maxLen := by have := Hn5.out; have := lastN_len (s.N ++ l); unfold maxLen; omega
    clear z0 z1 z2 z3 z4 z5 z6 hcl hP6d
    refine sk (fun w' => w'.cell? ⟨sb, 0, none⟩ = some (.pointer (some ⟨lb, 0, none⟩)) ∧ w'.cell? ⟨w.heap.size, 0, none⟩ = some (.slice P1 p1 q1) ∧ w'.cell? ⟨w.heap.size, 1, none⟩ = some (.slice P2 p2 q2) ∧ w'.cell? ⟨w.heap.size, 2, none⟩ = some (.slice P3 p3 q3)) 9 ?_ (fun hHeld => ?_)
    · (first | exact HS6'.out | exact hS7 | exact hS8)
    refine tk 0 53 hHeld ?_
    refine tk 1 54 hHeld ?_
    refine tk 2 55 hHeld ?_
    refine tk 3 56 hHeld ?_
    refine tk 4 57 hHeld ?_
    refine tk 5 58 hHeld ?_
    refine bk 6 59 (fun K hK => ?_)
    go_simp
    (go_at_call 13; (with_reducible refine (bytes22_any ⟨P1, p1, q1, P2, p2, q2, P3, p3, q3⟩ x A5 n5 c5 w6.drew.heap.size (lastN (s.N ++ l)) w6.drew HP6d.out.xr (rds_of_own HN6d.out Hn5.out.symm) hn5' (Nat.le_refl _)).mono ?_))
    rintro ed w7 ⟨bv7, rfl, hown7, hb7⟩
    rw [← Hb2.out, ← Hbl2.out] at hown7
    obtain ⟨A7, c7, rfl⟩ := own_shape hown7
    have hP7 := HP6d.out.below hb7
    have hcl := hP7.cells
    have hS7 : w7.cell? ⟨sb, 0, none⟩ = some (.pointer (some ⟨lb, 0, none⟩)) ∧ w7.cell? ⟨w.heap.size, 0, none⟩ = some (.slice P1 p1 q1) ∧ w7.cell? ⟨w.heap.size, 1, none⟩ = some (.slice P2 p2 q2) ∧ w7.cell? ⟨w.heap.size, 2, none⟩ = some (.slice P3 p3 q3) := ⟨hcl.2.1, hcl.1⟩
    have HP7 := Lib.hid hP7
    have HN7 := Lib.hid (own_below HN6d.out hb7)
    have HO7 := Lib.hid hown7
    clear hown7 hb7 hcl hP7
    dsimp only
    refine hK.out _ _ ?_ (fun hHeld' => ?_)
    · (first | exact HS6'.out | exact hS7 | exact hS8)
    clear hK K hHeld
    have hHeld := hHeld'
    clear hHeld'
    simp only [List.set_cons_zero, List.set_cons_succ]
    refine bk 7 60 (fun K hK => ?_)
    go_simp
    (go_at_call 79; (with_reducible refine (rcomp_go lb p g s.half s.turn s.taken bl2 c7 _ en A7 b2 s.r r7 _ HP7.out.ht HP7.out.at_ hh ht hc HO7.out Hbf2.out (by omega) Hwr.out).mono ?_))
    rintro ed w8 ⟨rfl, ht8, hl8, hc8⟩
    rw [if_neg Hne.out, if_neg Hne.out, if_neg Hne.out] at hl8
    have hs8 := (HP7.out.rsto Hs3.out).chg hc8 (HP7.out.ht.ne3 HP7.out.at_ HP7.out.sto (by decide)) (fun g cur fr hg => HP7.out.ht.ne3 HP7.out.at_ hg (by decide))
    have hN8 := own_chg HN7.out hc8 (fun g cur fr hg _ => HP7.out.ht.ne3 HP7.out.at_ hg (by decide))
    have hst8 := (hc8.at_ (Array.getElem?_eq_some_iff.1 HP7.out.sto).1 (HP7.out.ht.ne3 HP7.out.at_ HP7.out.sto (by decide))).trans HP7.out.sto
    have hbx8 := (hc8.at_ (Array.getElem?_eq_some_iff.1 HP7.out.box).1 (HP7.out.ht.ne3 HP7.out.at_ HP7.out.box (by decide))).trans HP7.out.box
    have y0 := cell_of_row _ sb 0 _ _ _ hst8
    have y3 := cell_of_row _ sb 3 _ _ _ hst8
    have y4 := frozen_of_row _ sb 3 _ _ hst8
    have x0 := cell_of_row _ w.heap.size 0 _ _ _ hbx8
    have x1 := cell_of_row _ w.heap.size 1 _ _ _ hbx8
    have x2 := cell_of_row _ w.heap.size 2 _ _ _ hbx8
    simp at y0 y3 x0 x1 x2
    have hS8 : w8.cell? ⟨sb, 0, none⟩ = some (.pointer (some ⟨lb, 0, none⟩)) ∧ w8.cell? ⟨w.heap.size, 0, none⟩ = some (.slice P1 p1 q1) ∧ w8.cell? ⟨w.heap.size, 1, none⟩ = some (.slice P2 p2 q2) ∧ w8.cell? ⟨w.heap.size, 2, none⟩ = some (.slice P3 p3 q3) := ⟨y0, x0, x1, x2⟩
    have HT8 := Lib.hid ht8
    have HL8 := Lib.hid hl8
    have HS8 := Lib.hid hs8
    have HN8 := Lib.hid hN8
    have HC8 : Hid (Chg (X3 p g lb) w w8) := (Chg.of HP7.out.bel).trans hc8
    clear ht8 hl8 hs8 hN8 hst8 hbx8 hc8 y0 x0 x1 x2
    dsimp only
    refine hK.out _ _ ?_ (fun hHeld' => ?_)
    · (first | exact HS6'.out | exact hS7 | exact hS8)
    clear hK K hHeld
    have hHeld := hHeld'
    clear hHeld'
    simp only [List.set_cons_zero, List.set_cons_succ]
    refine tk 8 9 hHeld ?_
    refine wpAnyH_done (by kernel_rfl) ?_ _
    refine NoPanic.normal ?_
    clear hHeld hS8
    go_wp2_with fail
    go_ret
    unfold RPutP
    rw [Hput.out]
    exact ⟨rfl, ⟨HT8.out, Hw7.out, HL8.out, HS8.out⟩, HC8.out.mono (fun j hj => .inl hj)⟩
end Go.Proofs.Ytcdgaeenfhpnkaa.Cr
