/- The document's store: last, Open. -/
import Derived.Test.YtcdgaeenfhpnkaaPk45
import Derived.Test.YtcdgaeenfhpnkaaPk46
set_option linter.unusedVariables false
set_option linter.unusedSimpArgs false
set_option maxRecDepth 100000
namespace Go.Proofs.Ytcdgaeenfhpnkaa.Cr
open Go Go.RowKit CrcMath
attribute [local go_sem] Oper.semAt_some

def NtNew (w : World) (N : List Nt) (e : Ending) (w' : World) : Prop := ∃ A c, e = .returned (.slice A N.length c) ∧ w'.ownsRow w.heap.size 54 3 (.slice A N.length c) N.length (N.flatMap Nt.cells) ∧ Below w.heap.size w w'
set_option maxHeartbeats 4000000 in
theorem rlast_any (A : Option Addr) (n c : Nat) (l : List Nt) (w : World) (h : RdS Nt.cells w w.heap.size 3 A n l) (hn : n ≤ 1000000) (hnc : n ≤ c) :
    Calls Try.prog 77 #[.slice A n c] w (NtNew w (lastN l)) := by
  obtain ⟨i0, hi, hz0, hz1, hz2⟩ := info_parts info_nt
  have hl := h.1
  have hnI : (n : Int) ≤ 1000000 := by omega
  have H := Lib.hid h
  have Hl := Lib.hid hl
  clear h hl
  by_cases hs : (n : Int) < 32
  · have HN : Hid (lastN l = l) := lastN_small (by rw [Hl.out]; omega)
    go_enter Try.func77, Try.ntmps77
    go_wp2_with (first
      | (at_builtin
         refine wpList_app _ rfl (.tmp 3) (.tmp 9) 26 rfl w.heap.size 54 i0 (.agg #[.int .i64 0, .int .i64 0, .int .i64 0]) 3 24 Try.underlying26 hi hz0 hz1 hz2 rfl (by omega) (.slice (some ⟨w.heap.size, 0, none⟩) 0 0) 0 [] rfl (World.ownsRow_made w #[] 0 (Nat.le_refl _) (by unfold maxLen; omega) rfl) w.heap.size A n c (l.flatMap Nt.cells) rfl ((rds_rd H.out).below (al_ _ _)) (cells_one l) ?g1 ?g2 ?g3 ?_
         case g1 => unfold maxLen; omega
         case g2 => omega
         case g3 => exact (al_ w _).size
         intro v3 w3 hown3 hg3 hat3
         rw [Nat.zero_add, List.nil_append] at hown3
         obtain ⟨A3, c3, rfl⟩ := own_shape hown3
         have HB3 : Hid (Below w.heap.size w w3) := (al_ w _).grown hg3 (al_ w _).size (fun q hq => by simp [Value.ownBlock] at hq; omega)
         have HO3 := Lib.hid hown3
         clear hown3 hg3 hat3))
    go_ret
    rw [HN.out]
    refine ⟨A3, c3, ?_, ?_, HB3.out⟩
    · rw [Hl.out]; rfl
    · rw [Hl.out]; exact HO3.out
  · obtain ⟨a, ha⟩ : ∃ a, a = n - 32 := ⟨_, rfl⟩
    have HN : Hid (lastN l = l.drop a) := by show _ = _; unfold lastN; rw [Hl.out, ha]
    have haI : (n : Int) - 32 = (a : Int) := by omega
    have ha1 : a < n := by omega
    have han : a ≤ n := by omega
    have haT : ((n : Int) - 32).toNat = a := by omega
    have haJ : ¬ (a : Int) < 0 := by omega
    obtain ⟨b, o, rfl, hrd⟩ := rds_drop (c := c) H.out ha1
    have Hrd := Lib.hid hrd
    have Hna : Hid ((l.drop a).length = n - a) := by show _ = _; rw [List.length_drop, Hl.out]
    clear ha hrd
    go_enter Try.func77, Try.ntmps77
    go_wp2_with (first
      | (at_builtin
         refine wpList_app _ rfl (.tmp 3) (.tmp 9) 26 rfl w.heap.size 54 i0 (.agg #[.int .i64 0, .int .i64 0, .int .i64 0]) 3 24 Try.underlying26 hi hz0 hz1 hz2 rfl (by omega) (.slice (some ⟨w.heap.size, 0, none⟩) 0 0) 0 [] rfl (World.ownsRow_made w #[] 0 (Nat.le_refl _) (by unfold maxLen; omega) rfl) w.heap.size (some ⟨b, o + a * 3, none⟩) (n - a) (c - a) ((l.drop a).flatMap Nt.cells) rfl ((rds_rd Hrd.out).below (al_ _ _)) (cells_one _) ?g1 ?g2 ?g3 ?_
         case g1 => unfold maxLen; omega
         case g2 => omega
         case g3 => exact (al_ w _).size
         intro v3 w3 hown3 hg3 hat3
         rw [Nat.zero_add, List.nil_append] at hown3
         obtain ⟨A3, c3, rfl⟩ := own_shape hown3
         have HB3 : Hid (Below w.heap.size w w3) := (al_ w _).grown hg3 (al_ w _).size (fun q hq => by simp [Value.ownBlock] at hq; omega)
         have HO3 := Lib.hid hown3
         clear hown3 hg3 hat3))
    go_ret
    rw [HN.out]
    refine ⟨A3, c3, ?_, ?_, HB3.out⟩
    · rw [Hna.out]; rfl
    · rw [Hna.out]; exact HO3.out
/-- the document's store, at sb -/
def RStoAt (w : World) (sb lb c e : Nat) (N : List Nt) : Prop :=
  ∃ A n cap, w.heap[sb]? = some (.cells #[.pointer (some ⟨lb, 0, none⟩), .int .i64 c, .int .i64 e, .slice A n cap] 125) ∧ w.ownsRow 0 54 3 (.slice A n cap) n (N.flatMap Nt.cells) ∧ N.length = n
section
variable {w w' : World} {X : Nat → Prop} {sb lb c e : Nat} {N : List Nt}
theorem RStoAt.lt (h : RStoAt w sb lb c e N) : sb < w.heap.size := by
  obtain ⟨A, n, cap, h1, _⟩ := h
  exact (Array.getElem?_eq_some_iff.1 h1).1
theorem RStoAt.below (h : RStoAt w sb lb c e N) (hb : Below w.heap.size w w') : RStoAt w' sb lb c e N := by
  have hlt := h.lt
  obtain ⟨A, n, cap, h1, h2, h3⟩ := h
  exact ⟨A, n, cap, (hb.block sb hlt).trans h1, own_below h2 hb, h3⟩
theorem RStoAt.chg (h : RStoAt w sb lb c e N) (hc : Chg X w w') (hs : ¬ X sb) (hX : ∀ g cur fr, w.heap[g]? = some (.cells cur 54 fr) → ¬ X g) : RStoAt w' sb lb c e N := by
  have hlt := h.lt
  obtain ⟨A, n, cap, h1, h2, h3⟩ := h
  exact ⟨A, n, cap, (hc.at_ hlt hs).trans h1, own_chg h2 hc (fun g cur fr hg _ => hX g cur fr hg), h3⟩
end
def ROpP (p half turn taken c e : Nat) (N : List Nt) (w : World) (ed : Ending) (w' : World) : Prop :=
  ∃ (sb lb : Nat) (v : StV) (A : Option Addr) (n cap : Nat), ed = .returned (.tuple #[.pointer (some ⟨sb, 0, none⟩), .agg #[.slice v.A1 v.n1 v.c1, .slice v.A2 v.n2 v.c2, .slice v.A3 v.n3 v.c3], .slice A n cap, .int .i64 0]) ∧
    RLogAt w' lb p half turn taken ∧ RStoAt w' sb lb c e N ∧ Below w.heap.size w w' ∧ w.heap.size ≤ lb ∧ w.heap.size ≤ sb
/-- the walk of Open: the log, the records, what is read -/
structure RI (w W : World) (p half turn taken lb xb rb : Nat) (vr : Value) (L : List (List Nat)) (Al : Option Addr) (cl : Nat) (M : List Nt) : Prop where
  bel : Below w.heap.size w W
  at_ : RLogAt W lb p half turn taken
  recs : ∃ Bo, OutOk W rb Bo vr L ∧ Bo ≤ W.heap.size
  xat : ∃ V : StV, W.heap[xb]? = some (.cells #[.slice V.A1 V.n1 V.c1, .slice V.A2 V.n2 V.c2, .slice V.A3 V.n3 V.c3] 25)
  res : W.heap[w.heap.size]? = some zO
  own : W.ownsRow w.heap.size 54 3 (.slice Al M.length cl) M.length (M.flatMap Nt.cells)
  lo : w.heap.size ≤ lb ∧ w.heap.size < xb
section
variable {w W W' : World} {p half turn taken lb xb rb cl : Nat} {vr : Value} {L : List (List Nat)} {Al : Option Addr} {M : List Nt}
theorem RI.below (h : RI w W p half turn taken lb xb rb vr L Al cl M) (hb : Below W.heap.size W W') : RI w W' p half turn taken lb xb rb vr L Al cl M := by
  obtain ⟨Bo, ho, hB⟩ := h.recs
  obtain ⟨V, hx⟩ := h.xat
  exact ⟨h.bel.trans (hb.mono h.bel.size), h.at_.below hb, ⟨Bo, ho.below hb hB, Nat.le_trans hB hb.size⟩, ⟨V, (hb.block xb (Array.getElem?_eq_some_iff.1 hx).1).trans hx⟩, (hb.block _ (Array.getElem?_eq_some_iff.1 h.res).1).trans h.res, own_below h.own hb, h.lo⟩
theorem RI.setX (h : RI w W p half turn taken lb xb rb vr L Al cl M) (V' : StV) :
    RI w (((W.setCell ⟨xb, 0, none⟩ (.slice V'.A1 V'.n1 V'.c1)).setCell ⟨xb, 1, none⟩ (.slice V'.A2 V'.n2 V'.c2)).setCell ⟨xb, 2, none⟩ (.slice V'.A3 V'.n3 V'.c3)) p half turn taken lb xb rb vr L Al cl M := by
  obtain ⟨Bo, hr, hB⟩ := h.recs
  obtain ⟨V, hx⟩ := h.xat
  have x1 := heap_set_same (j := 0) (.slice V'.A1 V'.n1 V'.c1) hx
  have x2 := heap_set_same (j := 1) (.slice V'.A2 V'.n2 V'.c2) x1
  have x3 := heap_set_same (j := 2) (.slice V'.A3 V'.n3 V'.c3) x2
  have hz : w.heap.size ≤ xb := Nat.le_of_lt h.lo.2
  have hl : lb ≠ xb := ty_ne (show W.heap[lb]? = _ from h.at_) hx (by decide)
  exact ⟨((h.bel.setCell hz _).setCell hz _).setCell hz _, (heap_set_other _ (heap_set_other _ (heap_set_other _ h.at_ hl) hl) hl),
    ⟨Bo, ((hr.ty hx (by decide) (by decide)).ty x1 (by decide) (by decide)).ty x2 (by decide) (by decide), by simpa using hB⟩, ⟨V', x3⟩,
    heap_set_other _ (heap_set_other _ (heap_set_other _ h.res (by have := h.lo; omega)) (by have := h.lo; omega)) (by have := h.lo; omega),
    own_ty (own_ty (own_ty h.own hx (by decide)) x1 (by decide)) x2 (by decide), h.lo⟩
theorem RI.app {Al' : Option Addr} {cl' : Nat} {M' : List Nt} (h : RI w W p half turn taken lb xb rb vr L Al cl M) (ho : W'.ownsRow w.heap.size 54 3 (.slice Al' M'.length cl') M'.length (M'.flatMap Nt.cells)) (hg : W.grownBy W' (Value.slice Al M.length cl).ownBlock) : RI w W' p half turn taken lb xb rb vr L Al' cl' M' := by
  have hrow : ∀ g, (Value.slice Al M.length cl).ownBlock = some g → w.heap.size ≤ g ∧ ∃ cur fr, W.heap[g]? = some (.cells cur 54 fr) := fun g e => by
    rcases h.own.2 with ⟨hv, _⟩ | ⟨g', cap, cur, hv, hb, hc, _⟩
    · rw [hv] at e; simp [Value.ownBlock] at e
    · rw [hv] at e
      have e : g' = g := by simpa [Value.ownBlock] using e
      subst e
      exact ⟨hb, cur, _, hc⟩
  have keep : ∀ {b : Nat} {T : TypeId} {cur : Array Value} {fr : Nat × Nat}, W.heap[b]? = some (.cells cur T fr) → T ≠ 54 → W'.heap[b]? = W.heap[b]? := fun {b} {T} {cur} {fr} hb hT => hg.block b (Array.getElem?_eq_some_iff.1 hb).1 (fun e => by
    obtain ⟨_, cur', fr', hc⟩ := hrow b e.symm
    rw [hb] at hc
    injection hc with hc
    injection hc with _ hc
    exact hT hc)
  obtain ⟨Bo, hr, hB⟩ := h.recs
  obtain ⟨V, hx⟩ := h.xat
  refine ⟨h.bel.grown hg h.bel.size (fun g e => (hrow g e).1), (keep (show W.heap[lb]? = _ from h.at_) (by decide)).trans h.at_, ⟨Bo, hr.keep (fun n xs ho' => ?_) (fun g cur hc _ _ => keep hc (by decide)), Nat.le_trans hB hg.size⟩, ⟨V, (keep hx (by decide)).trans hx⟩, (keep h.res (by decide)).trans h.res, ho, h.lo⟩
  exact own_other ho' h.own (by decide) hg
end
set_option maxHeartbeats 16000000 in
theorem ropen22_go (c e : Nat) (r : RD) (p g half turn taken : Nat) (L : List (List Nat)) (y : St × List Nt) (w : World) (h : HT w (Off2 w p g) p g r) (hup : r.d.down = false) (ho : openR r.d.L = ⟨L, half, turn, taken⟩) (hc : c ≤ 8) (he : e ≤ 8) (hL : L.length ≤ 1000) (hfine : ∀ b ∈ L, fineB b) (hop : openF c e (zero0 c e) [] L = some y) :
    Calls Try.prog 55 #[.pointer (some ⟨p, 0, none⟩), .int .i64 c, .int .i64 e] w (ROpP p half turn taken c e y.2 w) := by
  obtain ⟨i1, hi1, hz1, hs1, hb1⟩ := info_parts info_lt
  obtain ⟨i2, hi2, hz2, hs2, hb2⟩ := info_parts info_i64
  obtain ⟨i3, hi3, hz3, hs3, hb3⟩ := info_parts info_nt
  obtain ⟨wb, hwb⟩ : ∃ y, y = w.alloc (.cells #[.slice none 0 0, .slice none 0 0, .slice none 0 0] 25) := ⟨_, rfl⟩
  have al : Below w.heap.size w wb := by rw [hwb]; exact (Below.refl _ _).alloc (Nat.le_refl _) _
  have hres : wb.heap[w.heap.size]? = some (.cells #[.slice none 0 0, .slice none 0 0, .slice none 0 0] 25) := by rw [hwb]; exact heap_alloc_new _ _
  have hzb : wb.heap.size = w.heap.size + 1 := by rw [hwb]; simp only [World.size_alloc]
  have HD := Lib.hid ((h.below al).off)
  have Al := Lib.hid al
  have Hwb := Lib.hid hwb
  have Hzb := Lib.hid hzb
  have Hres := Lib.hid hres
  have Hup := Lib.hid hup
  have Ho := Lib.hid ho
  have Hop := Lib.hid hop
  have Hfine := Lib.hid hfine
  have hc0 : (0 : Int) ≤ (c : Int) := by omega
  have he0 : (0 : Int) ≤ (e : Int) := by omega
  have hc8 : (c : Int) ≤ 8 := by omega
  have he8 : (e : Int) ≤ 8 := by omega
  have u1 : decide ((c : Int) < 0) = false := decide_eq_false (by omega)
  have u2 : decide ((8 : Int) < (c : Int)) = false := decide_eq_false (by omega)
  have u3 : decide ((e : Int) < 0) = false := decide_eq_false (by omega)
  have u4 : decide ((8 : Int) < (e : Int)) = false := decide_eq_false (by omega)
  clear h al hwb hzb hres hup ho hop hfine
  go_enter Try.func55, Try.ntmps55
  go_wp2_with (first
    | (rw [← Hwb.out]
       go_at_call 76; (with_reducible refine (ropen11 r _ p g half turn taken L wb HD.out Hup.out Ho.out).mono ?_)
       rintro ed wl ⟨lb, v1, rfl, ho1, hl1, hb1, hlb⟩
       obtain ⟨A1, c1, rfl⟩ := out_shape ho1
       have HO1 := Lib.hid ho1
       have HL1 := Lib.hid hl1
       have HB1 := Lib.hid hb1
       have Hlb := Lib.hid hlb
       clear ho1 hl1 hb1 hlb))
  have hm1 : ∀ (c : Nat) (hc : c ≤ 8) (W : World), (Instr.makeSlice 22 (.int .i64 c) (.int .i64 c)).run Try.prog W = .ok (.slice (some ⟨W.heap.size, 0, none⟩) c c) (W.alloc (.cells (madeCells (Value.agg #[.bool false, .int .i64 0, .bool false]).cells (c * 3)) 61)) := fun c hc W => by
    have := run_make (P := Try.prog) W 22 61 i1 _ Try.underlying22 hi1 hz1 .i64 .i64 (c : Int) (c : Int) (by omega) (by omega) (by rw [hb1]; omega) (by omega)
    rwa [hs1, Int.toNat_natCast] at this
  have hm2 : ∀ (c : Nat) (hc : c ≤ 8) (W : World), (Instr.makeSlice 23 (.int .i64 c) (.int .i64 c)).run Try.prog W = .ok (.slice (some ⟨W.heap.size, 0, none⟩) c c) (W.alloc (.cells (madeCells #[Value.int .i64 0] c) 2)) := fun c hc W => by
    have := run_make (P := Try.prog) W 23 2 i2 _ Try.underlying23 hi2 hz2 .i64 .i64 (c : Int) (c : Int) (by omega) (by omega) (by rw [hb2]; omega) (by omega)
    rw [hs2, Int.toNat_natCast, Nat.mul_one] at this
    exact this
  have Hm1 := Lib.hid hm1
  have Hm2 := Lib.hid hm2
  clear hm1 hm2
  refine region_calls 8 [(0, 44), (1, 45), (2, 46), (3, 47), (4, 48), (5, 49), (6, 50), (7, 13)] (by kernel_rfl) (by kernel_rfl) (FT (T7 wl.heap.size c e)) (FT_keep (T7 wl.heap.size c e)) (fun i hi X w1 o ho hb hf K hK => ?_) (fun X w1 o ho hb hf => ?_)
  · simp only [setAll, List.set_cons_zero, List.set_cons_succ] at hK ⊢
    have hi' : i = 0 ∨ i = 1 ∨ i = 2 ∨ i = 3 ∨ i = 4 ∨ i = 5 ∨ i = 6 ∨ i = 7 := by omega
    rcases hi' with rfl | rfl | rfl | rfl | rfl | rfl | rfl | rfl
    · simp only [List.getElem?_toArray, List.getElem?_cons_zero, List.getElem?_cons_succ, Option.some.injEq] at ho
      subst ho
      clear hf
      go_simp
      exact hK.out _ _ (Below.refl _ _) (fun _ _ => rfl)
    · simp only [List.getElem?_toArray, List.getElem?_cons_zero, List.getElem?_cons_succ, Option.some.injEq] at ho
      subst ho
      have f0 := hf 0 (by kernel_rfl)
      simp only [FT, T7, List.getElem?_cons_zero, List.getElem?_cons_succ] at f0
      clear hf
      have f0 := f0 _ (Below.refl _ _)
      rw [f0] at hK ⊢
      have hr := Hm1.out c hc w1
      go_simp
      exact hK.out _ _ ((Below.refl _ w1).alloc (Nat.le_refl _) _) (fun w' hb' => ⟨_, c, c, rfl, rfl, own_below (own_of_list hb.size hc (made_lt c hc) (rep_lt c)) hb'⟩)
    · simp only [List.getElem?_toArray, List.getElem?_cons_zero, List.getElem?_cons_succ, Option.some.injEq] at ho
      subst ho
      clear hf
      go_simp
      exact hK.out _ _ (Below.refl _ _) (fun _ _ => rfl)
    · simp only [List.getElem?_toArray, List.getElem?_cons_zero, List.getElem?_cons_succ, Option.some.injEq] at ho
      subst ho
      have f2 := hf 2 (by kernel_rfl)
      simp only [FT, T7, List.getElem?_cons_zero, List.getElem?_cons_succ] at f2
      clear hf
      have f2 := f2 _ (Below.refl _ _)
      rw [f2] at hK ⊢
      have hr := Hm1.out e he w1
      go_simp
      exact hK.out _ _ ((Below.refl _ w1).alloc (Nat.le_refl _) _) (fun w' hb' => ⟨_, e, e, rfl, rfl, own_below (own_of_list hb.size he (made_lt e he) (rep_lt e)) hb'⟩)
    · simp only [List.getElem?_toArray, List.getElem?_cons_zero, List.getElem?_cons_succ, Option.some.injEq] at ho
      subst ho
      clear hf
      go_simp
      exact hK.out _ _ (Below.refl _ _) (fun _ _ => rfl)
    · simp only [List.getElem?_toArray, List.getElem?_cons_zero, List.getElem?_cons_succ, Option.some.injEq] at ho
      subst ho
      have f4 := hf 4 (by kernel_rfl)
      simp only [FT, T7, List.getElem?_cons_zero, List.getElem?_cons_succ] at f4
      clear hf
      have f4 := f4 _ (Below.refl _ _)
      rw [f4] at hK ⊢
      have hr := Hm2.out c hc w1
      go_simp
      exact hK.out _ _ ((Below.refl _ w1).alloc (Nat.le_refl _) _) (fun w' hb' => ⟨_, c, c, rfl, rfl, own_below (own_of_list hb.size hc (made_i64 c hc) (rep_i64 c)) hb'⟩)
    · simp only [List.getElem?_toArray, List.getElem?_cons_zero, List.getElem?_cons_succ, Option.some.injEq] at ho
      subst ho
      have f1 := hf 1 (by kernel_rfl)
      simp only [FT, T7, List.getElem?_cons_zero, List.getElem?_cons_succ] at f1
      have f3 := hf 3 (by kernel_rfl)
      simp only [FT, T7, List.getElem?_cons_zero, List.getElem?_cons_succ] at f3
      have f5 := hf 5 (by kernel_rfl)
      simp only [FT, T7, List.getElem?_cons_zero, List.getElem?_cons_succ] at f5
      clear hf
      obtain ⟨B1', m1, k1, e1, x1, r1⟩ := f1 _ (Below.refl _ _)
      obtain ⟨B3', m3, k3, e3, x3, r3⟩ := f3 _ (Below.refl _ _)
      obtain ⟨B5', m5, k5, e5, x5, r5⟩ := f5 _ (Below.refl _ _)
      rw [e1, e3, e5] at hK ⊢
      have R1 := Lib.hid r1
      have R3 := Lib.hid r3
      have R5 := Lib.hid r5
      have X1 := Lib.hid x1
      have X3 := Lib.hid x3
      have X5 := Lib.hid x5
      clear r1 r3 r5 x1 x3 x5 f1 f3 f5 e1 e3 e5
      go_simp
      exact hK.out _ _ (Below.refl _ _) (fun w' hb' => ⟨⟨B1', m1, k1, B3', m3, k3, B5', m5, k5⟩, rfl, own_below R1.out hb', own_below R3.out hb', own_below R5.out hb', by rw [X1.out]; exact List.length_replicate, by rw [X3.out]; exact List.length_replicate, by rw [X5.out]; exact List.length_replicate⟩)
    · simp only [List.getElem?_toArray, List.getElem?_cons_zero, List.getElem?_cons_succ, Option.some.injEq] at ho
      subst ho
      clear hf
      go_simp
      exact hK.out _ _ ((Below.refl _ w1).alloc (Nat.le_refl _) _) (fun w' hb' => ⟨_, rfl, hb.size, (hb'.block _ (by rw [World.size_alloc]; omega)).trans (heap_alloc_new _ _)⟩)
  simp only [List.getElem?_toArray, List.getElem?_cons_zero, List.getElem?_cons_succ, Option.some.injEq] at ho
  subst ho
  simp only [setAll, List.set_cons_zero, List.set_cons_succ]
  have f0 := hf 0 (by omega)
  simp only [FT, T7, List.getElem?_cons_zero, List.getElem?_cons_succ] at f0
  have f1 := hf 1 (by omega)
  simp only [FT, T7, List.getElem?_cons_zero, List.getElem?_cons_succ] at f1
  have f2 := hf 2 (by omega)
  simp only [FT, T7, List.getElem?_cons_zero, List.getElem?_cons_succ] at f2
  have f3 := hf 3 (by omega)
  simp only [FT, T7, List.getElem?_cons_zero, List.getElem?_cons_succ] at f3
  have f4 := hf 4 (by omega)
  simp only [FT, T7, List.getElem?_cons_zero, List.getElem?_cons_succ] at f4
  have f5 := hf 5 (by omega)
  simp only [FT, T7, List.getElem?_cons_zero, List.getElem?_cons_succ] at f5
  have f6 := hf 6 (by omega)
  simp only [FT, T7, List.getElem?_cons_zero, List.getElem?_cons_succ] at f6
  have f7 := hf 7 (by omega)
  simp only [FT, T7, List.getElem?_cons_zero, List.getElem?_cons_succ] at f7
  clear hf
  obtain ⟨V, e6, st6⟩ := f6 _ (Below.refl _ _)
  obtain ⟨xb, e7, xge, xat⟩ := f7 _ (Below.refl _ _)
  rw [e6, e7]
  unfold zO at xat
  have n0 := cell_of_row _ xb 0 _ _ _ xat
  have n1 := cell_of_row _ xb 1 _ _ _ xat
  have n2 := cell_of_row _ xb 2 _ _ _ xat
  have m0 := frozen_of_row _ xb 0 _ _ xat
  have m1 := frozen_of_row _ xb 1 _ _ xat
  have m2 := frozen_of_row _ xb 2 _ _ xat
  simp at n0 n1 n2
  have Xge := Lib.hid xge
  have Xat := Lib.hid xat
  have HB3 := Lib.hid hb
  obtain ⟨P1, p1, q1, P2, p2, q2, P3, p3, q3⟩ := V
  clear f0 f1 f2 f3 f4 f5 f6 f7 e6 e7 st6 xge xat hb
  go_simp
  obtain ⟨w4, hw4⟩ : ∃ y, y = (((w1.setCell ⟨xb, 0, none⟩ (.slice P1 p1 q1)).setCell ⟨xb, 1, none⟩ (.slice P2 p2 q2)).setCell ⟨xb, 2, none⟩ (.slice P3 p3 q3)) := ⟨_, rfl⟩
  rw [← hw4]
  have hri : RI w w1 p half turn taken lb xb (wb.heap.size) (.slice A1 L.length c1) L none 0 [] := by
    have a1 := Al.out.size
    have a2 := HB1.out.size
    have a4 := HB3.out.size
    have a5 := Hzb.out
    have a7 := Xge.out
    have a8 := Hlb.out
    have hr := (HB3.out.block w.heap.size (by omega)).trans ((HB1.out.block w.heap.size (by omega)).trans Hres.out)
    exact ⟨(Al.out.trans (HB1.out.mono a1)).trans (HB3.out.mono (by omega)), HL1.out.below HB3.out, ⟨wl.heap.size, HO1.out.below HB3.out (Nat.le_refl _), a4⟩, ⟨⟨none, 0, 0, none, 0, 0, none, 0, 0⟩, Xat.out⟩, hr, World.ownsRow_nil _ _ _ _, by omega, by omega⟩
  have hri2 := hri.setX ⟨P1, p1, q1, P2, p2, q2, P3, p3, q3⟩
  dsimp only at hri2
  rw [← hw4] at hri2
  have HRI := Lib.hid hri2
  clear hw4 n0 n1 n2 m0 m1 m2 hri hri2 Xge Xat HB3 HB1 HL1 HO1 Hm1 Hm2 HD Hres Hlb
  go_wp2_with fail
  go_loopg [14, 15] L.length (fun kk vl i wr => ∃ (j : Nat) (M : List Nt) (x : St) (Al : Option Addr) (cl : Nat), kk + j = L.length ∧ vl = .slice Al M.length cl ∧ i = .int .i64 j ∧ M.length ≤ 32 * j ∧ RI w wr p half turn taken lb xb wb.heap.size (.slice A1 L.length c1) L Al cl M ∧ openF c e x (lastN M) (L.drop j) = some y)
  case atStart => exact ⟨0, [], _, none, 0, by omega, rfl, rfl, by simp, HRI.out, Hop.out⟩
  case round =>
    obtain ⟨j, M, x, An, cn, hj, rfl, rfl, hM, hri, hf⟩ := hrel
    have hLI : (L.length : Int) ≤ 1000 := by omega
    by_cases hlt : j < L.length
    · have hi0 : (0 : Int) ≤ (j : Int) := by omega
      have hi1 : (j : Int) < (L.length : Int) := by omega
      obtain ⟨Bo, ⟨vs, ho, hel⟩, hBo⟩ := hri.recs
      obtain ⟨b, hbj⟩ : ∃ b, L[j]? = some b := ⟨_, List.getElem?_eq_getElem hlt⟩
      obtain ⟨Ab, nb, cb, hv, hnb, hcb, hel⟩ := hel j b hbj
      obtain ⟨_, q, rfl, _, _, hcell, _⟩ := own_some ho (by omega)
      have hcj := hcell j _ hv
      have hrd := hel.1.more hBo
      have hbf := Hfine.out b (List.mem_of_getElem? hbj)
      have hnb2 : nb ≤ 3000 := by have := hrd.1; rw [List.length_map] at this; have := hbf.2.1; omega
      have hdrop : L.drop j = b :: L.drop (j + 1) := by
        rw [List.drop_eq_getElem_cons hlt]
        congr 1
        exact (Option.some.inj ((List.getElem?_eq_getElem hlt).symm.trans hbj))
      rw [hdrop] at hf
      unfold openF at hf
      split at hf
      rotate_left
      · cases hf
      rename_i hr
      rw [lastN_app] at hf
      have hnt := readV_notes b
      have HI := Lib.hid hri
      have Hf := Lib.hid hf
      have Hrd := Lib.hid hrd
      have Hby : Hid (∀ y ∈ b, y < 256) := hbf.2.2
      have Hok : Hid ((readV b).2.2 = true ∧ (readV b).1.causes.length = c ∧ (readV b).1.effects.length = e) := hr
      obtain ⟨Rv, hRv⟩ : ∃ Rv, Rv = readV b := ⟨_, rfl⟩
      rw [← hRv] at Hok Hf hnt
      have HRv : Hid (readV b = Rv) := hRv.symm
      obtain ⟨N1, hN1⟩ : ∃ N1, N1 = Rv.2.1.length := ⟨_, rfl⟩
      rw [← hN1] at hnt
      have HN1 := Lib.hid hN1
      clear ho hel hv hbj hcell hri hrd hdrop hBo hf hr hbf hRv hN1
      go_wp2_with (first
        | (go_at_call 11; (with_reducible refine (ref_is HRv.out Hrd.out Hby.out hnb2 hnb hcb).mono ?_)
           rintro ed w5 ⟨V5, A5, n5, c5, he5, st5, own5, hn5, hb5⟩
           rw [Hok.out.1] at he5
           subst he5
           obtain ⟨P1', p1', q1', P2', p2', q2', P3', p3', q3'⟩ := V5
           have t1 : ((p1' : Int) != (c : Int)) = false := by
             have h1 := st5.l1
             have h2 := Hok.out.2.1
             dsimp only at h1
             rw [bne_eq_false_iff_eq]
             omega
           have t2 : ((p2' : Int) != (e : Int)) = false := by
             have h1 := st5.l2
             have h2 := Hok.out.2.2
             dsimp only at h1
             rw [bne_eq_false_iff_eq]
             omega
           have hI5 := HI.out.below hb5
           have hal5 := (Below.refl w5.heap.size w5).alloc (Nat.le_refl _) (.cells #[.slice P1' p1' q1', .slice P2' p2' q2', .slice P3' p3' q3'] 25)
           have hI6 := hI5.below hal5
           have hbx := heap_alloc_new w5 (.cells #[.slice P1' p1' q1', .slice P2' p2' q2', .slice P3' p3' q3'] 25)
           have y0 := cell_of_row _ w5.heap.size 0 _ _ _ hbx
           have y1 := cell_of_row _ w5.heap.size 1 _ _ _ hbx
           have y2 := cell_of_row _ w5.heap.size 2 _ _ _ hbx
           simp at y0 y1 y2
           obtain ⟨Vx, hx6⟩ := hI6.xat
           have m0 := frozen_of_row _ xb 0 _ _ hx6
           have m1 := frozen_of_row _ xb 1 _ _ hx6
           have m2 := frozen_of_row _ xb 2 _ _ hx6
           have g0 := cell_of_row _ xb 0 _ _ _ hx6
           have g1 := cell_of_row _ xb 1 _ _ _ hx6
           have g2 := cell_of_row _ xb 2 _ _ _ hx6
           simp at g0 g1 g2
           have hx7 := heap_set_same (j := 0) (.slice P1' p1' q1') hx6
           have hx8 := heap_set_same (j := 1) (.slice P2' p2' q2') hx7
           have HI7 := Lib.hid (hI6.setX ⟨P1', p1', q1', P2', p2', q2', P3', p3', q3'⟩)
           have hn5' : n5 = N1 := by rw [HN1.out]; exact hn5.symm
           subst hn5'
           have Ow7 := Lib.hid (own_ty (own_ty (own_ty (own_below (own_base own5 HI.out.bel.size) hal5) hx6 (by decide)) hx7 (by decide)) hx8 (by decide) (j := 2) (u := .slice P3' p3' q3'))
           have Hn5 := Lib.hid hn5
           clear st5 own5 hn5 hb5 hI5 hI6 hbx hx6 hx7 hx8 hal5)
        | (at_builtin
           refine wpList_app _ rfl (.tmp 84) (.tmp 85) 26 rfl w.heap.size 54 i3 (.agg #[.int .i64 0, .int .i64 0, .int .i64 0]) 3 24 Try.underlying26 hi3 hz3 hs3 hb3 rfl (by omega) (.slice An M.length cn) M.length _ rfl HI7.out.own _ A5 n5 c5 _ rfl (rds_rd (rds_of_own Ow7.out Hn5.out)) (cells_one _) ?g1 ?g2 ?g3 ?_
           case g1 => unfold maxLen; omega
           case g2 => omega
           case g3 => exact HI7.out.bel.size
           intro v8 w8 hown8 hg8 hat8
           obtain ⟨A8, c8, rfl⟩ := own_shape hown8
           have hML : (M ++ Rv.2.1).length = M.length + n5 := by rw [List.length_append, HN1.out]
           have hown9 : w8.ownsRow w.heap.size 54 3 (.slice A8 (M ++ Rv.2.1).length c8) (M ++ Rv.2.1).length ((M ++ Rv.2.1).flatMap Nt.cells) := by
             rw [hML, List.flatMap_append]
             exact hown8
           have HI8 := Lib.hid (HI7.out.app hown9 hg8)
           have HML := Lib.hid hML
           clear hown8 hown9 hg8 hat8 hML))
      go_roundg (gk - 1)
      case measure => omega
      case rel => exact ⟨j + 1, M ++ Rv.2.1, Rv.1, A8, c8, by omega, by rw [HML.out], by go_num, by rw [HML.out]; omega, HI8.out, Hf.out⟩
    · have hi0 : ¬ (j : Int) < (L.length : Int) := by omega
      have hj2 : j = L.length := by omega
      have HY : Hid (y.2 = lastN M) := by
        rw [List.drop_eq_nil_of_le (by omega)] at hf
        unfold openF at hf
        injection hf with hf
        show _ = _
        rw [← hf]
      have hM2 : M.length ≤ 32000 := by omega
      have HI := Lib.hid hri
      have hcap := (own_max hri.own).1
      have Hrm := Lib.hid (rds_of_own hri.own rfl)
      clear hf hri hj2
      go_wp2_with (first
        | (go_at_call 77; (with_reducible refine (rlast_any An M.length cn M wr Hrm.out (by omega) hcap).mono ?_)
           rintro ed w9 ⟨A9, c9, he9, hown9, hb9⟩
           subst he9
           obtain ⟨n9, hn9⟩ : ∃ n9, n9 = (lastN M).length := ⟨_, rfl⟩
           rw [← hn9] at hown9 ⊢
           have HI9 := Lib.hid (HI.out.below hb9)
           have HO9 := Lib.hid (own_base hown9 (Nat.zero_le _))
           have Hn9 := Lib.hid hn9
           clear hown9 hb9 hn9))
      obtain ⟨⟨P1', p1', q1', P2', p2', q2', P3', p3', q3'⟩, hx⟩ := HI9.out.xat
      dsimp only at hx
      have g0 := cell_of_row _ xb 0 _ _ _ hx
      have g1 := cell_of_row _ xb 1 _ _ _ hx
      have g2 := cell_of_row _ xb 2 _ _ _ hx
      simp at g0 g1 g2
      have HS0 : Hid (w9.drew.cell? ⟨xb, 0, none⟩ = some (.slice P1' p1' q1') ∧ w9.drew.cell? ⟨xb, 1, none⟩ = some (.slice P2' p2' q2') ∧ w9.drew.cell? ⟨xb, 2, none⟩ = some (.slice P3' p3' q3')) := ⟨g0, g1, g2⟩
      have Hx := Lib.hid hx
      clear hx g0 g1 g2
      refine sk (fun w' => w'.cell? ⟨xb, 0, none⟩ = some (.slice P1' p1' q1') ∧ w'.cell? ⟨xb, 1, none⟩ = some (.slice P2' p2' q2') ∧ w'.cell? ⟨xb, 2, none⟩ = some (.slice P3' p3' q3')) 12 ?_ (fun hHeld => ?_)
      · (first | exact HS0.out | exact hS5 | exact hS9)
      refine tk 0 89 hHeld ?_
      refine tk 1 90 hHeld ?_
      refine tk 2 91 hHeld ?_
      refine tk 3 92 hHeld ?_
      refine tk 4 93 hHeld ?_
      refine tk 6 95 hHeld ?_
      refine tk 7 96 hHeld ?_
      refine bk 5 94 (fun K hK => ?_)
      go_simp
      obtain ⟨wq, hwq⟩ : ∃ W, W = (w9.alloc (.cells #[.pointer (some ⟨lb, 0, none⟩), .int .i64 c, .int .i64 e, .slice A9 n9 c9] 125)).drew := ⟨_, rfl⟩
      have hbq : Below w9.heap.size w9 wq := by rw [hwq]; exact ((Below.refl _ _).alloc (Nat.le_refl _) _).drew
      have hsq : wq.heap[w9.heap.size]? = some (.cells #[.pointer (some ⟨lb, 0, none⟩), .int .i64 c, .int .i64 e, .slice A9 n9 c9] 125) := by rw [hwq]; exact heap_alloc_new w9 _
      have hIq := HI9.out.below hbq
      have hxq := (hbq.block xb (Array.getElem?_eq_some_iff.1 Hx.out).1).trans Hx.out
      have g0 := cell_of_row _ xb 0 _ _ _ hxq
      have g1 := cell_of_row _ xb 1 _ _ _ hxq
      have g2 := cell_of_row _ xb 2 _ _ _ hxq
      simp at g0 g1 g2
      have hS5 := And.intro g0 (And.intro g1 g2)
      rw [← hwq]
      have Hsq := Lib.hid hsq
      have HIq := Lib.hid hIq
      have HOq := Lib.hid (own_below HO9.out hbq)
      have Hxq := Lib.hid hxq
      have Hsz : Hid (w.heap.size ≤ w9.heap.size) := HI9.out.bel.size
      have hr := hIq.res
      unfold zO at hr
      have s0 := cell_of_row _ w.heap.size 0 _ _ _ hr
      have s1 := cell_of_row _ w.heap.size 1 _ _ _ hr
      have s2 := cell_of_row _ w.heap.size 2 _ _ _ hr
      have t0 := frozen_of_row _ w.heap.size 0 _ _ hr
      have t1 := frozen_of_row _ w.heap.size 1 _ _ hr
      have t2 := frozen_of_row _ w.heap.size 2 _ _ hr
      simp at s0 s1 s2
      clear hwq hbq hsq hIq hxq hr g0 g1 g2
      refine hK.out _ _ ?_ (fun hHeld' => ?_)
      · (first | exact HS0.out | exact hS5 | exact hS9)
      clear hK K hHeld
      have hHeld := hHeld'
      clear hHeld'
      simp only [List.set_cons_zero, List.set_cons_succ]
      refine tk 8 6 hHeld ?_
      refine bn 9 (fun K hK => ?_)
      go_simp
      obtain ⟨w11, hw11⟩ : ∃ y, y = (((wq.setCell ⟨w.heap.size, 0, none⟩ (.slice P1' p1' q1')).setCell ⟨w.heap.size, 1, none⟩ (.slice P2' p2' q2')).setCell ⟨w.heap.size, 2, none⟩ (.slice P3' p3' q3')) := ⟨_, rfl⟩
      rw [← hw11]
      have hne : xb ≠ w.heap.size := by have := HIq.out.lo; omega
      have hr0 := HIq.out.res
      unfold zO at hr0
      have hr1 := heap_set_same (j := 0) (.slice P1' p1' q1') hr0
      have hr2 := heap_set_same (j := 1) (.slice P2' p2' q2') hr1
      have hr3 := heap_set_same (j := 2) (.slice P3' p3' q3') hr2
      have hx11 : w11.heap[xb]? = some (.cells #[.slice P1' p1' q1', .slice P2' p2' q2', .slice P3' p3' q3'] 25) := by rw [hw11]; exact heap_set_other _ (heap_set_other _ (heap_set_other _ Hxq.out hne) hne) hne
      have v0 := cell_of_row _ xb 0 _ _ _ hx11
      have v1 := cell_of_row _ xb 1 _ _ _ hx11
      have v2 := cell_of_row _ xb 2 _ _ _ hx11
      simp at v0 v1 v2
      have hS9 := And.intro v0 (And.intro v1 v2)
      have HF : Hid (RLogAt w11 lb p half turn taken ∧ RStoAt w11 w9.heap.size lb c e y.2 ∧ Below w.heap.size w w11 ∧ w11.heap[w.heap.size]? = some (.cells #[.slice P1' p1' q1', .slice P2' p2' q2', .slice P3' p3' q3'] 25)) := by
        show _ ∧ _
        have hl : lb ≠ w.heap.size := ty_ne (show wq.heap[lb]? = _ from HIq.out.at_) hr0 (by decide)
        have hs : w9.heap.size ≠ w.heap.size := ty_ne Hsq.out hr0 (by decide)
        rw [hw11]
        refine ⟨heap_set_other _ (heap_set_other _ (heap_set_other _ HIq.out.at_ hl) hl) hl, ⟨A9, n9, c9, heap_set_other _ (heap_set_other _ (heap_set_other _ Hsq.out hs) hs) hs, ?_, by rw [HY.out, Hn9.out]⟩, ((HIq.out.bel.setCell (Nat.le_refl _) _).setCell (Nat.le_refl _) _).setCell (Nat.le_refl _) _, by simpa using hr3⟩
        rw [HY.out]
        exact own_ty (own_ty (own_ty HOq.out hr0 (by decide)) hr1 (by decide)) hr2 (by decide)
      clear hw11 hne hr0 hr1 hr2 hr3 hx11 v0 v1 v2
      first | refine hK.out undef _ ?_ (fun hHeld' => ?_) | refine hK.out _ _ ?_ (fun hHeld' => ?_)
      · (first | exact HS0.out | exact hS5 | exact hS9)
      clear hK K hHeld
      have hHeld := hHeld'
      clear hHeld'
      try simp only [List.set_cons_zero, List.set_cons_succ]
      refine tk 10 8 hHeld ?_
      refine tk 11 9 hHeld ?_
      refine wpAnyH_done (by kernel_rfl) ?_ _
      refine NoPanic.normal ?_
      clear hHeld hS9 hS5 s0 s1 s2 t0 t1 t2
      go_wp2_with fail
      refine bodyPost_ret (results_tctt rfl _ _ w.heap.size #[.slice P1' p1' q1', .slice P2' p2' q2', .slice P3' p3' q3'] rfl (run_loadVar_row _ w.heap.size 25 25 _ (0, 0) _ HF.out.2.2.2 Try.underlying25 rfl (by kernel_rfl))) rfl ?_
      exact ⟨w9.heap.size, lb, ⟨P1', p1', q1', P2', p2', q2', P3', p3', q3'⟩, A9, n9, c9, rfl, HF.out.1, HF.out.2.1, HF.out.2.2.1, HIq.out.lo.1, Hsz.out⟩
end Go.Proofs.Ytcdgaeenfhpnkaa.Cr
