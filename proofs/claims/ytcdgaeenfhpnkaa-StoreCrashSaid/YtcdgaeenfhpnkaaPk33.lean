/- A store on a disk whose power may fail: Open. (Printed by a program out of the text on a disk that does not fail.) -/
import Derived.Test.YtcdgaeenfhpnkaaPk32
set_option linter.unusedVariables false
set_option linter.unusedSimpArgs false
set_option maxRecDepth 100000
namespace Go.Proofs.Ytcdgaeenfhpnkaa.Cr
open Go Go.RowKit
attribute [local go_sem] Oper.semAt_some

def OpenOk (p q : Nat) (m : DX) (k half turn taken c e : Nat) (L : List (List Nat)) (w : World) (y : St × List Nt) (ed : Ending) (w' : World) : Prop :=
  ∃ (sb lb : Nat) (v : StV) (A : Option Addr) (n cap : Nat), ed = .returned (.tuple #[.pointer (some ⟨sb, 0, none⟩), .agg #[.slice v.A1 v.n1 v.c1, .slice v.A2 v.n2 v.c2, .slice v.A3 v.n3 v.c3], .slice A n cap, .int .i64 0]) ∧
    ((∀ x ∈ y.2, okN x) → Sto w' p q lb sb w.heap.size m k half turn taken c e L y.2) ∧ StO w' w.heap.size v y.1 ∧ w'.ownsRow w.heap.size 54 3 (.slice A n cap) n (y.2.flatMap Nt.cells) ∧ y.2.length = n ∧ Below w.heap.size w w' ∧ w.heap.size ≤ lb ∧ w.heap.size ≤ sb
def OpenNo (p q : Nat) (m : DX) (k half turn taken en : Nat) (L : List (List Nat)) (w : World) (ed : Ending) (w' : World) : Prop :=
  ed = .returned (.tuple #[.pointer none, .agg #[.slice none 0 0, .slice none 0 0, .slice none 0 0], .slice none 0 0, .int .i64 en]) ∧ DK w' p q m k half turn taken L ∧ Below w.heap.size w w'
def SOpenP (p q : Nat) (m : DX) (k half turn taken c e : Nat) (L : List (List Nat)) (w : World) (o : Option (St × List Nt)) (ed : Ending) (w' : World) : Prop :=
  match o with
  | some y => OpenOk p q m k half turn taken c e L w y ed w'
  | none => OpenNo p q m k half turn taken 221 L w ed w'
set_option maxHeartbeats 4000000 in
theorem openS_arg (c e : Nat) (p q : Nat) (m : DX) (k half turn taken : Nat) (L : List (List Nat)) (w : World) (hd : DK w p q m k half turn taken L) (hce : ¬ (c ≤ 8 ∧ e ≤ 8)) :
    Calls Try.prog 16 #[.pointer (some ⟨p, 0, none⟩), .int .i64 c, .int .i64 e] w (OpenNo p q m k half turn taken 1 L w) := by
  have al : Below w.heap.size w (w.alloc zO) := (Below.refl _ _).alloc (Nat.le_refl _) _
  have hres : (w.alloc zO).heap[w.heap.size]? = some zO := heap_alloc_new _ _
  have HD := Lib.hid (hd.below al)
  have Al := Lib.hid al
  have hc0 : (0 : Int) ≤ (c : Int) := by omega
  have he0 : (0 : Int) ≤ (e : Int) := by omega
  unfold zO at hres al
  have s0 := cell_of_row _ w.heap.size 0 _ _ _ hres
  have s1 := cell_of_row _ w.heap.size 1 _ _ _ hres
  have s2 := cell_of_row _ w.heap.size 2 _ _ _ hres
  have q0 := frozen_of_row _ w.heap.size 0 _ _ hres
  have q1 := frozen_of_row _ w.heap.size 1 _ _ hres
  have q2 := frozen_of_row _ w.heap.size 2 _ _ hres
  simp at s0 s1 s2
  have Hres := Lib.hid hres
  clear al hres hd
  have go : ¬ (c : Int) ≤ 8 ∨ (c : Int) ≤ 8 ∧ ¬ (e : Int) ≤ 8 := by omega
  rcases go with h1 | ⟨h1, h2⟩
  all_goals
    go_enter Try.func16, Try.ntmps16
    go_wp2_with fail
    refine bodyPost_ret (results_tctt rfl _ _ w.heap.size #[.slice none 0 0, .slice none 0 0, .slice none 0 0] rfl (run_loadVar_row _ w.heap.size 25 25 _ (0, 0) _ Hres.out Try.underlying25 rfl (by kernel_rfl))) rfl ⟨rfl, HD.out, Al.out⟩
section
variable {w w' W : World} {p q k half turn taken lb sb xb c e b j base k2 n cap Bo rb : Nat} {m : DX} {T e2 : TypeId} {fr : Nat × Nat} {cur : Array Value} {u v : Value} {xs : List Value} {L l : List (List Nat)} {V V' : StV} {x x' : St} {N N' : List Nt} {A : Option Addr}
/-- the disk, the log, the records, the store, the state -/
structure OI (w W : World) (p q : Nat) (m : DX) (k half turn taken lb sb xb c e rb : Nat) (vr : Value) (L : List (List Nat)) (V : StV) (x : St) (N : List Nt) : Prop where
  bel : Below w.heap.size w W
  dk : DK W p q m k half turn taken L
  at_ : LogAt W lb p half turn taken
  recs : ∃ Bo, OutOk W rb Bo vr L ∧ Bo ≤ W.heap.size
  sto : StoAt W sb lb w.heap.size c e N
  xat : W.heap[xb]? = some (.cells #[.slice V.A1 V.n1 V.c1, .slice V.A2 V.n2 V.c2, .slice V.A3 V.n3 V.c3] 25)
  xo : StO W w.heap.size V x
  res : W.heap[w.heap.size]? = some zO
  n32 : N.length ≤ 32
  lo : w.heap.size ≤ lb ∧ w.heap.size < sb ∧ w.heap.size < xb
theorem OI.below {vr : Value} (h : OI w W p q m k half turn taken lb sb xb c e rb vr L V x N) (hb : Below W.heap.size W w') : OI w w' p q m k half turn taken lb sb xb c e rb vr L V x N := by
  obtain ⟨Bo, ho, hB⟩ := h.recs
  exact ⟨h.bel.trans (hb.mono h.bel.size), h.dk.below hb, h.at_.below hb, ⟨Bo, ho.below hb hB, Nat.le_trans hB hb.size⟩, h.sto.below hb, (hb.block xb (Array.getElem?_eq_some_iff.1 h.xat).1).trans h.xat, h.xo.below hb, (hb.block _ (Array.getElem?_eq_some_iff.1 h.res).1).trans h.res, h.n32, h.lo⟩
theorem OI.setS {vr : Value} (h : OI w W p q m k half turn taken lb sb xb c e rb vr L V x N) (ho : W.ownsRow w.heap.size 54 3 (.slice A n cap) n (N'.flatMap Nt.cells)) (hn : N'.length = n) (h32 : N'.length ≤ 32) :
    OI w (W.setCell ⟨sb, 3, none⟩ (.slice A n cap)) p q m k half turn taken lb sb xb c e rb vr L V x N' := by
  obtain ⟨Bo, hr, hB⟩ := h.recs
  obtain ⟨A0, n0, cap0, h1, h2, h3⟩ := h.sto
  have hne : sb ≠ xb := ty_ne h1 h.xat (by decide)
  exact ⟨h.bel.setCell (Nat.le_of_lt h.lo.2.1) _, h.dk.ty h1 (by decide) (by decide), h.at_.keep (heap_set_other _ rfl (ty_ne (show W.heap[lb]? = _ from h.at_) h1 (by decide))), ⟨Bo, hr.ty h1 (by decide) (by decide), by simpa using hB⟩, ⟨A, n, cap, heap_set_same (j := 3) _ h1, own_ty ho h1 (by decide), hn⟩, heap_set_other _ h.xat (Ne.symm hne), h.xo.ty h1 (by decide) (by decide), heap_set_other _ h.res (by have := h.lo; omega), h32, h.lo⟩
theorem OI.setX {vr : Value} (h : OI w W p q m k half turn taken lb sb xb c e rb vr L V x N) (ho : StO W w.heap.size V' x') :
    OI w (((W.setCell ⟨xb, 0, none⟩ (.slice V'.A1 V'.n1 V'.c1)).setCell ⟨xb, 1, none⟩ (.slice V'.A2 V'.n2 V'.c2)).setCell ⟨xb, 2, none⟩ (.slice V'.A3 V'.n3 V'.c3)) p q m k half turn taken lb sb xb c e rb vr L V' x' N := by
  obtain ⟨Bo, hr, hB⟩ := h.recs
  obtain ⟨A0, n0, cap0, h1, h2, h3⟩ := h.sto
  have hne : sb ≠ xb := ty_ne h1 h.xat (by decide)
  have x1 := heap_set_same (j := 0) (.slice V'.A1 V'.n1 V'.c1) h.xat
  have x2 := heap_set_same (j := 1) (.slice V'.A2 V'.n2 V'.c2) x1
  have x3 := heap_set_same (j := 2) (.slice V'.A3 V'.n3 V'.c3) x2
  have hz : w.heap.size ≤ xb := Nat.le_of_lt h.lo.2.2
  have hl : lb ≠ xb := ty_ne (show W.heap[lb]? = _ from h.at_) h.xat (by decide)
  exact ⟨((h.bel.setCell hz _).setCell hz _).setCell hz _, ((h.dk.ty h.xat (by decide) (by decide)).ty x1 (by decide) (by decide)).ty x2 (by decide) (by decide),
    h.at_.keep ((heap_set_other _ rfl hl).trans ((heap_set_other _ rfl hl).trans (heap_set_other _ rfl hl))), ⟨Bo, ((hr.ty h.xat (by decide) (by decide)).ty x1 (by decide) (by decide)).ty x2 (by decide) (by decide), by simpa using hB⟩,
    ⟨A0, n0, cap0, heap_set_other _ (heap_set_other _ (heap_set_other _ h1 hne) hne) hne, own_ty (own_ty (own_ty h2 h.xat (by decide)) x1 (by decide)) x2 (by decide), h3⟩, x3,
    ((ho.ty h.xat (by decide) (by decide)).ty x1 (by decide) (by decide)).ty x2 (by decide) (by decide), heap_set_other _ (heap_set_other _ (heap_set_other _ h.res (by have := h.lo; omega)) (by have := h.lo; omega)) (by have := h.lo; omega), h.n32, h.lo⟩
theorem OI.zero {vr : Value} (h : OI w W p q m k half turn taken lb sb xb c e rb vr L V x N) :
    DK (((W.setCell ⟨w.heap.size, 0, none⟩ (.slice none 0 0)).setCell ⟨w.heap.size, 1, none⟩ (.slice none 0 0)).setCell ⟨w.heap.size, 2, none⟩ (.slice none 0 0)) p q m k half turn taken L ∧ Below w.heap.size w (((W.setCell ⟨w.heap.size, 0, none⟩ (.slice none 0 0)).setCell ⟨w.heap.size, 1, none⟩ (.slice none 0 0)).setCell ⟨w.heap.size, 2, none⟩ (.slice none 0 0)) ∧
    (((W.setCell ⟨w.heap.size, 0, none⟩ (.slice none 0 0)).setCell ⟨w.heap.size, 1, none⟩ (.slice none 0 0)).setCell ⟨w.heap.size, 2, none⟩ (.slice none 0 0)).heap[w.heap.size]? = some zO := by
  have x0 := h.res
  unfold zO at x0
  have x1 := heap_set_same (j := 0) (.slice none 0 0) x0
  have x2 := heap_set_same (j := 1) (.slice none 0 0) x1
  have x3 := heap_set_same (j := 2) (.slice none 0 0) x2
  exact ⟨((h.dk.ty x0 (by decide) (by decide)).ty x1 (by decide) (by decide)).ty x2 (by decide) (by decide), ((h.bel.setCell (Nat.le_refl _) _).setCell (Nat.le_refl _) _).setCell (Nat.le_refl _) _, x3⟩
theorem OI.done {vr : Value} (h : OI w W p q m k half turn taken lb sb xb c e rb vr L V x N) (ho : W.ownsRow w.heap.size 54 3 (.slice A n cap) n (N'.flatMap Nt.cells)) (hw : w' = ((W.setCell ⟨w.heap.size, 0, none⟩ (.slice V.A1 V.n1 V.c1)).setCell ⟨w.heap.size, 1, none⟩ (.slice V.A2 V.n2 V.c2)).setCell ⟨w.heap.size, 2, none⟩ (.slice V.A3 V.n3 V.c3)) :
    ((∀ y ∈ N, okN y) → Sto w' p q lb sb w.heap.size m k half turn taken c e L N) ∧ StO w' w.heap.size V x ∧ w'.ownsRow w.heap.size 54 3 (.slice A n cap) n (N'.flatMap Nt.cells) ∧ Below w.heap.size w w' ∧
    w'.heap[w.heap.size]? = some (.cells #[.slice V.A1 V.n1 V.c1, .slice V.A2 V.n2 V.c2, .slice V.A3 V.n3 V.c3] 25) := by
  subst hw
  obtain ⟨A0, n0, cap0, h1, h2, h3⟩ := h.sto
  have x0 := h.res
  unfold zO at x0
  have x1 := heap_set_same (j := 0) (.slice V.A1 V.n1 V.c1) x0
  have x2 := heap_set_same (j := 1) (.slice V.A2 V.n2 V.c2) x1
  have x3 := heap_set_same (j := 2) (.slice V.A3 V.n3 V.c3) x2
  have hl : lb ≠ w.heap.size := ty_ne (show W.heap[lb]? = _ from h.at_) x0 (by decide)
  have hs : sb ≠ w.heap.size := ty_ne h1 x0 (by decide)
  have hsl : sb ≠ lb := ty_ne h1 (show W.heap[lb]? = _ from h.at_) (by decide)
  have hpq : sb ≠ p ∧ sb ≠ q := by
    obtain ⟨d, ⟨c', hh⟩, _⟩ := h.dk
    exact ⟨(ty_ne hh.hp h1 (by decide)).symm, (ty_ne hh.hq h1 (by decide)).symm⟩
  refine ⟨fun hok => ⟨((h.dk.ty x0 (by decide) (by decide)).ty x1 (by decide) (by decide)).ty x2 (by decide) (by decide), h.at_.keep ((heap_set_other _ rfl hl).trans ((heap_set_other _ rfl hl).trans (heap_set_other _ rfl hl))), ⟨A0, n0, cap0, heap_set_other _ (heap_set_other _ (heap_set_other _ h1 hs) hs) hs, own_ty (own_ty (own_ty h2 x0 (by decide)) x1 (by decide)) x2 (by decide), h3⟩, h.n32, hok, ?_, hpq.1, hpq.2, hsl⟩,
    ((h.xo.ty x0 (by decide) (by decide)).ty x1 (by decide) (by decide)).ty x2 (by decide) (by decide), own_ty (own_ty (own_ty ho x0 (by decide)) x1 (by decide)) x2 (by decide), ((h.bel.setCell (Nat.le_refl _) _).setCell (Nat.le_refl _) _).setCell (Nat.le_refl _) _, x3⟩
  have := h.bel.size
  simpa using this
end
set_option maxHeartbeats 16000000 in
theorem openS_go (c e : Nat) (p q : Nat) (m : DX) (k half turn taken : Nat) (L : List (List Nat)) (w : World) (hd : DK w p q m k half turn taken L) (hc : c ≤ 8) (he : e ≤ 8) (hL : L.length ≤ 1000000) :
    Calls Try.prog 16 #[.pointer (some ⟨p, 0, none⟩), .int .i64 c, .int .i64 e] w (SOpenP p q m k half turn taken c e L w (openF c e (zero0 c e) [] L)) := by
  obtain ⟨oo, hoo⟩ : ∃ oo, oo = openF c e (zero0 c e) [] L := ⟨_, rfl⟩
  rw [← hoo]
  have Hoo := Lib.hid hoo
  clear hoo
  obtain ⟨i1, hi1, hz1, hs1, hb1⟩ := info_parts info_lt
  obtain ⟨i2, hi2, hz2, hs2, hb2⟩ := info_parts info_i64
  obtain ⟨wb, hwb⟩ : ∃ y, y = w.alloc (.cells #[.slice none 0 0, .slice none 0 0, .slice none 0 0] 25) := ⟨_, rfl⟩
  have al : Below w.heap.size w wb := by rw [hwb]; exact (Below.refl _ _).alloc (Nat.le_refl _) _
  have hres : wb.heap[w.heap.size]? = some (.cells #[.slice none 0 0, .slice none 0 0, .slice none 0 0] 25) := by rw [hwb]; exact heap_alloc_new _ _
  have hzb : wb.heap.size = w.heap.size + 1 := by rw [hwb]; simp only [World.size_alloc]
  have HD := Lib.hid (hd.below al)
  have Al := Lib.hid al
  have Hwb := Lib.hid hwb
  have Hzb := Lib.hid hzb
  have Hres := Lib.hid hres
  have hc0 : (0 : Int) ≤ (c : Int) := by omega
  have he0 : (0 : Int) ≤ (e : Int) := by omega
  have hc8 : (c : Int) ≤ 8 := by omega
  have he8 : (e : Int) ≤ 8 := by omega
  clear hd al hwb hzb hres
  go_enter Try.func16, Try.ntmps16
  go_wp2_with (first
    | (rw [← Hwb.out]
       go_at_call 48; (with_reducible refine (lg_open HD.out).mono ?_)
       rintro ed wl ⟨v1, rfl, ho1, hl1, hd1, hb1⟩
       obtain ⟨A1, c1, rfl⟩ := out_shape ho1
       have HO1 := Lib.hid ho1
       have HL1 := Lib.hid hl1
       have HD1 := Lib.hid hd1
       have HB1 := Lib.hid hb1
       clear ho1 hl1 hd1 hb1))
  obtain ⟨w2, hw2⟩ : ∃ y, y = wl.alloc (.cells #[.pointer (some ⟨wb.heap.size, 0, none⟩), .int .i64 c, .int .i64 e, .slice none 0 0] 88) := ⟨_, rfl⟩
  have hb2 : Below wl.heap.size wl w2 := by rw [hw2]; exact (Below.refl _ _).alloc (Nat.le_refl _) _
  have hst2 : w2.heap[wl.heap.size]? = some (.cells #[.pointer (some ⟨wb.heap.size, 0, none⟩), .int .i64 c, .int .i64 e, .slice none 0 0] 88) := by rw [hw2]; exact heap_alloc_new _ _
  obtain ⟨sb, hsb⟩ : ∃ y, y = wl.heap.size := ⟨_, rfl⟩
  rw [← hw2, ← hsb]
  rw [← hsb] at hst2
  have HB2 := Lib.hid hb2
  have Hst2 := Lib.hid hst2
  have Hsb := Lib.hid hsb
  clear hw2 hb2 hst2 hsb
  have hm1 : ∀ (c : Nat) (hc : c ≤ 8) (W : World), (Instr.makeSlice 22 (.int .i64 c) (.int .i64 c)).run Try.prog W = .ok (.slice (some ⟨W.heap.size, 0, none⟩) c c) (W.alloc (.cells (madeCells (Value.agg #[.bool false, .int .i64 0, .bool false]).cells (c * 3)) 61)) := fun c hc W => by
    have := run_make (P := Try.prog) W 22 61 i1 _ Try.underlying22 hi1 hz1 .i64 .i64 (c : Int) (c : Int) (by omega) (by omega) (by rw [hb1]; omega) (by omega)
    rwa [hs1, Int.toNat_natCast] at this
  have hm2 : ∀ (c : Nat) (hc : c ≤ 8) (W : World), (Instr.makeSlice 23 (.int .i64 c) (.int .i64 c)).run Try.prog W = .ok (.slice (some ⟨W.heap.size, 0, none⟩) c c) (W.alloc (.cells (madeCells #[Value.int .i64 0] c) 2)) := fun c hc W => by
    have := run_make (P := Try.prog) W 23 2 i2 _ Try.underlying23 hi2 hz2 .i64 .i64 (c : Int) (c : Int) (by omega) (by omega) (by rw [hb2]; omega) (by omega)
    rw [hs2, Int.toNat_natCast, Nat.mul_one] at this
    exact this
  have Hm1 := Lib.hid hm1
  have Hm2 := Lib.hid hm2
  clear hm1 hm2
  refine region_calls 8 [(0, 50), (1, 51), (2, 52), (3, 53), (4, 54), (5, 55), (6, 56), (7, 14)] (by kernel_rfl) (by kernel_rfl) (FT (T7 w2.heap.size c e)) (FT_keep (T7 w2.heap.size c e)) (fun i hi X w1 o ho hb hf K hK => ?_) (fun X w1 o ho hb hf => ?_)
  · simp only [setAll, List.set_cons_zero, List.set_cons_succ] at hK ⊢
    have hi' : i = 0 ∨ i = 1 ∨ i = 2 ∨ i = 3 ∨ i = 4 ∨ i = 5 ∨ i = 6 ∨ i = 7 := by omega
    rcases hi' with rfl | rfl | rfl | rfl | rfl | rfl | rfl | rfl
    · simp only [List.getElem?_toArray, List.getElem?_cons_zero, List.getElem?_cons_succ, Option.some.injEq] at ho
      subst ho
      clear hf
      go_simp
      exact hK.out _ _ (Below.refl _ _) (fun _ _ => rfl)
    · simp only [List.getElem?_toArray, List.getElem?_cons_zero, List.getElem?_cons_succ, Option.some.injEq] at ho
      subst ho
      have f0 := hf 0 (by kernel_rfl)
      simp only [FT, T7, List.getElem?_cons_zero, List.getElem?_cons_succ] at f0
      clear hf
      have f0 := f0 _ (Below.refl _ _)
      rw [f0] at hK ⊢
      have hr := Hm1.out c hc w1
      go_simp
      exact hK.out _ _ ((Below.refl _ w1).alloc (Nat.le_refl _) _) (fun w' hb' => ⟨_, c, c, rfl, rfl, own_below (own_of_list hb.size hc (made_lt c hc) (rep_lt c)) hb'⟩)
    · simp only [List.getElem?_toArray, List.getElem?_cons_zero, List.getElem?_cons_succ, Option.some.injEq] at ho
      subst ho
      clear hf
      go_simp
      exact hK.out _ _ (Below.refl _ _) (fun _ _ => rfl)
    · simp only [List.getElem?_toArray, List.getElem?_cons_zero, List.getElem?_cons_succ, Option.some.injEq] at ho
      subst ho
      have f2 := hf 2 (by kernel_rfl)
      simp only [FT, T7, List.getElem?_cons_zero, List.getElem?_cons_succ] at f2
      clear hf
      have f2 := f2 _ (Below.refl _ _)
      rw [f2] at hK ⊢
      have hr := Hm1.out e he w1
      go_simp
      exact hK.out _ _ ((Below.refl _ w1).alloc (Nat.le_refl _) _) (fun w' hb' => ⟨_, e, e, rfl, rfl, own_below (own_of_list hb.size he (made_lt e he) (rep_lt e)) hb'⟩)
    · simp only [List.getElem?_toArray, List.getElem?_cons_zero, List.getElem?_cons_succ, Option.some.injEq] at ho
      subst ho
      clear hf
      go_simp
      exact hK.out _ _ (Below.refl _ _) (fun _ _ => rfl)
    · simp only [List.getElem?_toArray, List.getElem?_cons_zero, List.getElem?_cons_succ, Option.some.injEq] at ho
      subst ho
      have f4 := hf 4 (by kernel_rfl)
      simp only [FT, T7, List.getElem?_cons_zero, List.getElem?_cons_succ] at f4
      clear hf
      have f4 := f4 _ (Below.refl _ _)
      rw [f4] at hK ⊢
      have hr := Hm2.out c hc w1
      go_simp
      exact hK.out _ _ ((Below.refl _ w1).alloc (Nat.le_refl _) _) (fun w' hb' => ⟨_, c, c, rfl, rfl, own_below (own_of_list hb.size hc (made_i64 c hc) (rep_i64 c)) hb'⟩)
    · simp only [List.getElem?_toArray, List.getElem?_cons_zero, List.getElem?_cons_succ, Option.some.injEq] at ho
      subst ho
      have f1 := hf 1 (by kernel_rfl)
      simp only [FT, T7, List.getElem?_cons_zero, List.getElem?_cons_succ] at f1
      have f3 := hf 3 (by kernel_rfl)
      simp only [FT, T7, List.getElem?_cons_zero, List.getElem?_cons_succ] at f3
      have f5 := hf 5 (by kernel_rfl)
      simp only [FT, T7, List.getElem?_cons_zero, List.getElem?_cons_succ] at f5
      clear hf
      obtain ⟨B1', m1, k1, e1, x1, r1⟩ := f1 _ (Below.refl _ _)
      obtain ⟨B3', m3, k3, e3, x3, r3⟩ := f3 _ (Below.refl _ _)
      obtain ⟨B5', m5, k5, e5, x5, r5⟩ := f5 _ (Below.refl _ _)
      rw [e1, e3, e5] at hK ⊢
      have R1 := Lib.hid r1
      have R3 := Lib.hid r3
      have R5 := Lib.hid r5
      have X1 := Lib.hid x1
      have X3 := Lib.hid x3
      have X5 := Lib.hid x5
      clear r1 r3 r5 x1 x3 x5 f1 f3 f5 e1 e3 e5
      go_simp
      exact hK.out _ _ (Below.refl _ _) (fun w' hb' => ⟨⟨B1', m1, k1, B3', m3, k3, B5', m5, k5⟩, rfl, own_below R1.out hb', own_below R3.out hb', own_below R5.out hb', by rw [X1.out]; exact List.length_replicate, by rw [X3.out]; exact List.length_replicate, by rw [X5.out]; exact List.length_replicate⟩)
    · simp only [List.getElem?_toArray, List.getElem?_cons_zero, List.getElem?_cons_succ, Option.some.injEq] at ho
      subst ho
      clear hf
      go_simp
      exact hK.out _ _ ((Below.refl _ w1).alloc (Nat.le_refl _) _) (fun w' hb' => ⟨_, rfl, hb.size, (hb'.block _ (by rw [World.size_alloc]; omega)).trans (heap_alloc_new _ _)⟩)
  simp only [List.getElem?_toArray, List.getElem?_cons_zero, List.getElem?_cons_succ, Option.some.injEq] at ho
  subst ho
  simp only [setAll, List.set_cons_zero, List.set_cons_succ]
  have f0 := hf 0 (by omega)
  simp only [FT, T7, List.getElem?_cons_zero, List.getElem?_cons_succ] at f0
  have f1 := hf 1 (by omega)
  simp only [FT, T7, List.getElem?_cons_zero, List.getElem?_cons_succ] at f1
  have f2 := hf 2 (by omega)
  simp only [FT, T7, List.getElem?_cons_zero, List.getElem?_cons_succ] at f2
  have f3 := hf 3 (by omega)
  simp only [FT, T7, List.getElem?_cons_zero, List.getElem?_cons_succ] at f3
  have f4 := hf 4 (by omega)
  simp only [FT, T7, List.getElem?_cons_zero, List.getElem?_cons_succ] at f4
  have f5 := hf 5 (by omega)
  simp only [FT, T7, List.getElem?_cons_zero, List.getElem?_cons_succ] at f5
  have f6 := hf 6 (by omega)
  simp only [FT, T7, List.getElem?_cons_zero, List.getElem?_cons_succ] at f6
  have f7 := hf 7 (by omega)
  simp only [FT, T7, List.getElem?_cons_zero, List.getElem?_cons_succ] at f7
  clear hf
  obtain ⟨V, e6, st6⟩ := f6 _ (Below.refl _ _)
  obtain ⟨xb, e7, xge, xat⟩ := f7 _ (Below.refl _ _)
  rw [e6, e7]
  unfold zO at xat
  have n0 := cell_of_row _ xb 0 _ _ _ xat
  have n1 := cell_of_row _ xb 1 _ _ _ xat
  have n2 := cell_of_row _ xb 2 _ _ _ xat
  have m0 := frozen_of_row _ xb 0 _ _ xat
  have m1 := frozen_of_row _ xb 1 _ _ xat
  have m2 := frozen_of_row _ xb 2 _ _ xat
  simp at n0 n1 n2
  have St6 := Lib.hid st6
  have Xge := Lib.hid xge
  have Xat := Lib.hid xat
  have HB3 := Lib.hid hb
  obtain ⟨P1, p1, q1, P2, p2, q2, P3, p3, q3⟩ := V
  clear f0 f1 f2 f3 f4 f5 f6 f7 e6 e7 st6 xge xat hb
  go_simp
  obtain ⟨w4, hw4⟩ : ∃ y, y = (((w1.setCell ⟨xb, 0, none⟩ (.slice P1 p1 q1)).setCell ⟨xb, 1, none⟩ (.slice P2 p2 q2)).setCell ⟨xb, 2, none⟩ (.slice P3 p3 q3)) := ⟨_, rfl⟩
  rw [← hw4]
  have hoi : OI w w1 p q m k half turn taken wb.heap.size sb xb c e (wb.heap.size + 1) (.slice A1 L.length c1) L ⟨none, 0, 0, none, 0, 0, none, 0, 0⟩ ⟨[], [], []⟩ [] := by
    have a1 := Al.out.size
    have a2 := HB1.out.size
    have a3 := HB2.out.size
    have a4 := HB3.out.size
    have a5 := Hzb.out
    have a6 := Hsb.out
    have a7 := Xge.out
    have hs2 := (HB3.out.block sb (Array.getElem?_eq_some_iff.1 Hst2.out).1).trans Hst2.out
    have hr := (HB3.out.block w.heap.size (by omega)).trans ((HB2.out.block w.heap.size (by omega)).trans ((HB1.out.block w.heap.size (by omega)).trans Hres.out))
    exact ⟨((Al.out.trans (HB1.out.mono a1)).trans (HB2.out.mono (by omega))).trans (HB3.out.mono (by omega)), (HD1.out.below HB2.out).below HB3.out, (HL1.out.below HB2.out).below HB3.out, ⟨wl.heap.size, (HO1.out.below HB2.out (Nat.le_refl _)).below HB3.out a3, by omega⟩, ⟨none, 0, 0, hs2, World.ownsRow_nil _ _ _ _, rfl⟩, Xat.out, StO.nil_ _ _, hr, by simp, by omega, by omega, by omega⟩
  have hoi2 := hoi.setX (V' := ⟨P1, p1, q1, P2, p2, q2, P3, p3, q3⟩) (St6.out.base (by have := Al.out.size; have := HB1.out.size; have := HB2.out.size; omega))
  dsimp only at hoi2
  rw [← hw4] at hoi2
  have HOI := Lib.hid hoi2
  clear hw4 n0 n1 n2 m0 m1 m2 hoi hoi2 St6 Xge Xat HB3 HB2 HB1 HD1 HL1 HO1 Hst2 Hm1 Hm2 HD Hres
  go_wp2_with fail
  go_loopg [59] L.length (fun kk i wr => ∃ (j : Nat) (V : StV) (x : St) (N : List Nt), kk + j = L.length ∧ i = .int .i64 j ∧ OI w wr p q m k half turn taken wb.heap.size sb xb c e (wb.heap.size + 1) (.slice A1 L.length c1) L V x N ∧ oo = openF c e x N (L.drop j))
  case atStart => exact ⟨0, _, _, _, by omega, rfl, HOI.out, Hoo.out⟩
  case round =>
    obtain ⟨j, V, x, N, hj, rfl, hoi, hf⟩ := hrel
    have hLI : (L.length : Int) ≤ 1000000 := by omega
    by_cases hlt : j < L.length
    · have hi0 : (0 : Int) ≤ (j : Int) := by omega
      have hi1 : (j : Int) < (L.length : Int) := by omega
      obtain ⟨Bo, ⟨vs, ho, hel⟩, hBo⟩ := hoi.recs
      obtain ⟨b, hbj⟩ : ∃ b, L[j]? = some b := ⟨_, List.getElem?_eq_getElem hlt⟩
      obtain ⟨Ab, nb, cb, hv, hnb, hcb, hel⟩ := hel j b hbj
      obtain ⟨_, g, rfl, _, _, hcell, _⟩ := own_some ho (by omega)
      have hcj := hcell j _ hv
      have hrd := hel.1
      have hbyte : ∀ y ∈ b, y < 256 := (hoi.dk.fine b (List.mem_of_getElem? hbj)).2.2
      have hdrop : L.drop j = b :: L.drop (j + 1) := by
        rw [List.drop_eq_getElem_cons hlt]
        congr 1
        exact (Option.some.inj ((List.getElem?_eq_getElem hlt).symm.trans hbj))
      have HI := Lib.hid hoi
      have Hf := Lib.hid hf
      have Hrd := Lib.hid hrd
      have Hdr := Lib.hid hdrop
      have Hby := Lib.hid hbyte
      have HBo := Lib.hid hBo
      clear ho hel hv hbj hcell hoi hrd hdrop hbyte hBo hf
      by_cases hok : (readV b).2.2 = true
      rotate_left
      · have Hok : Hid ((readV b).2.2 = false) := Bool.eq_false_iff.2 hok
        have Hnone : Hid (oo = none) := by
          have := Hf.out
          rw [Hdr.out] at this
          rw [this]
          unfold openF
          exact if_neg (fun h => hok h.1)
        clear hok
        go_wp2_with (first
          | (go_at_call 10; (with_reducible refine (storeRead_any Ab nb cb Bo b wr Hrd.out HBo.out Hby.out hnb hcb).mono ?_)
             rintro ed w5 ⟨V5, A5, n5, c5, he5, st5, own5, hn5, hb5⟩
             rw [Hok.out] at he5
             subst he5
             obtain ⟨P1', p1', q1', P2', p2', q2', P3', p3', q3'⟩ := V5
             have hI5 := HI.out.below hb5
             have hI6 := hI5.below ((Below.refl w5.heap.size w5).alloc (Nat.le_refl _) (.cells #[.slice P1' p1' q1', .slice P2' p2' q2', .slice P3' p3' q3'] 25))
             have hbx := heap_alloc_new w5 (.cells #[.slice P1' p1' q1', .slice P2' p2' q2', .slice P3' p3' q3'] 25)
             have y0 := cell_of_row _ w5.heap.size 0 _ _ _ hbx
             have y1 := cell_of_row _ w5.heap.size 1 _ _ _ hbx
             have y2 := cell_of_row _ w5.heap.size 2 _ _ _ hbx
             simp at y0 y1 y2
             have hr6 := hI6.res
             unfold zO at hr6
             have s0 := cell_of_row _ w.heap.size 0 _ _ _ hr6
             have s1 := cell_of_row _ w.heap.size 1 _ _ _ hr6
             have s2 := cell_of_row _ w.heap.size 2 _ _ _ hr6
             have t0 := frozen_of_row _ w.heap.size 0 _ _ hr6
             have t1 := frozen_of_row _ w.heap.size 1 _ _ hr6
             have t2 := frozen_of_row _ w.heap.size 2 _ _ hr6
             simp at s0 s1 s2
             have HI6 := Lib.hid hI6
             have St6 := Lib.hid ((st5.base HI.out.bel.size).below ((Below.refl w5.heap.size w5).alloc (Nat.le_refl _) (.cells #[.slice P1' p1' q1', .slice P2' p2' q2', .slice P3' p3' q3'] 25)))
             have Ow6 := Lib.hid (own_below (own_base own5 HI.out.bel.size) ((Below.refl w5.heap.size w5).alloc (Nat.le_refl _) (.cells #[.slice P1' p1' q1', .slice P2' p2' q2', .slice P3' p3' q3'] 25)))
             have Hn5 := Lib.hid hn5
             have Hbx := Lib.hid hbx
             have Hr6 := Lib.hid hr6
             clear st5 own5 hn5 hb5 hI5 hI6 hbx hr6))
        refine bodyPost_ret (results_tctt rfl _ _ w.heap.size #[.slice none 0 0, .slice none 0 0, .slice none 0 0] rfl (run_loadVar_row _ w.heap.size 25 25 _ (0, 0) _ HI6.out.zero.2.2 Try.underlying25 rfl (by kernel_rfl))) rfl ?_
        rw [Hnone.out]
        exact ⟨rfl, HI6.out.zero.1, HI6.out.zero.2.1⟩
      by_cases hfit : (readV b).1.causes.length = c ∧ (readV b).1.effects.length = e
      rotate_left
      · have Hok : Hid ((readV b).2.2 = true) := hok
        have HFit : Hid (decide ((readV b).1.causes.length = c ∧ (readV b).1.effects.length = e) = false) := decide_eq_false hfit
        have Hnone : Hid (oo = none) := by
          have := Hf.out
          rw [Hdr.out] at this
          rw [this]
          unfold openF
          exact if_neg (fun h => hfit h.2)
        clear hok hfit
        go_wp2_with (first
          | (go_at_call 10; (with_reducible refine (storeRead_any Ab nb cb Bo b wr Hrd.out HBo.out Hby.out hnb hcb).mono ?_)
             rintro ed w5 ⟨V5, A5, n5, c5, he5, st5, own5, hn5, hb5⟩
             rw [Hok.out] at he5
             subst he5
             obtain ⟨P1', p1', q1', P2', p2', q2', P3', p3', q3'⟩ := V5
             have hI5 := HI.out.below hb5
             have hI6 := hI5.below ((Below.refl w5.heap.size w5).alloc (Nat.le_refl _) (.cells #[.slice P1' p1' q1', .slice P2' p2' q2', .slice P3' p3' q3'] 25))
             have hbx := heap_alloc_new w5 (.cells #[.slice P1' p1' q1', .slice P2' p2' q2', .slice P3' p3' q3'] 25)
             have y0 := cell_of_row _ w5.heap.size 0 _ _ _ hbx
             have y1 := cell_of_row _ w5.heap.size 1 _ _ _ hbx
             have y2 := cell_of_row _ w5.heap.size 2 _ _ _ hbx
             simp at y0 y1 y2
             have hr6 := hI6.res
             unfold zO at hr6
             have s0 := cell_of_row _ w.heap.size 0 _ _ _ hr6
             have s1 := cell_of_row _ w.heap.size 1 _ _ _ hr6
             have s2 := cell_of_row _ w.heap.size 2 _ _ _ hr6
             have t0 := frozen_of_row _ w.heap.size 0 _ _ hr6
             have t1 := frozen_of_row _ w.heap.size 1 _ _ hr6
             have t2 := frozen_of_row _ w.heap.size 2 _ _ hr6
             simp at s0 s1 s2
             have HI6 := Lib.hid hI6
             have St6 := Lib.hid ((st5.base HI.out.bel.size).below ((Below.refl w5.heap.size w5).alloc (Nat.le_refl _) (.cells #[.slice P1' p1' q1', .slice P2' p2' q2', .slice P3' p3' q3'] 25)))
             have Ow6 := Lib.hid (own_below (own_base own5 HI.out.bel.size) ((Below.refl w5.heap.size w5).alloc (Nat.le_refl _) (.cells #[.slice P1' p1' q1', .slice P2' p2' q2', .slice P3' p3' q3'] 25)))
             have Hn5 := Lib.hid hn5
             have Hbx := Lib.hid hbx
             have Hr6 := Lib.hid hr6
             clear st5 own5 hn5 hb5 hI5 hI6 hbx hr6)
          | (go_at_call 49; (with_reducible refine (fits_any sb wb.heap.size w.heap.size c e N ⟨P1', p1', q1', P2', p2', q2', P3', p3', q3'⟩ (readV b).1 (w5.alloc (.cells #[.slice P1' p1' q1', .slice P2' p2' q2', .slice P3' p3' q3'] 25)).heap.size _ HI6.out.sto St6.out.toR).mono ?_)
             rintro ed w7 ⟨he, hb7⟩
             rw [HFit.out] at he
             subst he
             have hI7 := HI6.out.below hb7
             have hbx7 := (hb7.block w5.heap.size (by rw [World.size_alloc]; omega)).trans Hbx.out
             clear y0 y1 y2 s0 s1 s2 t0 t1 t2
             have y0 := cell_of_row _ w5.heap.size 0 _ _ _ hbx7
             have y1 := cell_of_row _ w5.heap.size 1 _ _ _ hbx7
             have y2 := cell_of_row _ w5.heap.size 2 _ _ _ hbx7
             simp at y0 y1 y2
             have hr7 := hI7.res
             unfold zO at hr7
             have s0 := cell_of_row _ w.heap.size 0 _ _ _ hr7
             have s1 := cell_of_row _ w.heap.size 1 _ _ _ hr7
             have s2 := cell_of_row _ w.heap.size 2 _ _ _ hr7
             have t0 := frozen_of_row _ w.heap.size 0 _ _ hr7
             have t1 := frozen_of_row _ w.heap.size 1 _ _ hr7
             have t2 := frozen_of_row _ w.heap.size 2 _ _ hr7
             simp at s0 s1 s2
             have HI7 := Lib.hid hI7
             have St7 := Lib.hid (St6.out.below hb7)
             have Ow7 := Lib.hid (own_below Ow6.out hb7)
             clear hI7 hbx7 hr7 hb7))
        refine bodyPost_ret (results_tctt rfl _ _ w.heap.size #[.slice none 0 0, .slice none 0 0, .slice none 0 0] rfl (run_loadVar_row _ w.heap.size 25 25 _ (0, 0) _ HI7.out.zero.2.2 Try.underlying25 rfl (by kernel_rfl))) rfl ?_
        rw [Hnone.out]
        exact ⟨rfl, HI7.out.zero.1, HI7.out.zero.2.1⟩
      · have Hok : Hid ((readV b).2.2 = true) := hok
        have HFit : Hid (decide ((readV b).1.causes.length = c ∧ (readV b).1.effects.length = e) = true) := decide_eq_true hfit
        have Hnext : Hid (oo = openF c e (readV b).1 (lastN (N ++ (readV b).2.1)) (L.drop (j + 1))) := by
          have := Hf.out
          rw [Hdr.out] at this
          rw [this, openF]
          exact if_pos ⟨hok, hfit⟩
        clear hok hfit
        go_wp2_with (first
          | (go_at_call 10; (with_reducible refine (storeRead_any Ab nb cb Bo b wr Hrd.out HBo.out Hby.out hnb hcb).mono ?_)
             rintro ed w5 ⟨V5, A5, n5, c5, he5, st5, own5, hn5, hb5⟩
             rw [Hok.out] at he5
             subst he5
             obtain ⟨P1', p1', q1', P2', p2', q2', P3', p3', q3'⟩ := V5
             have hI5 := HI.out.below hb5
             have hI6 := hI5.below ((Below.refl w5.heap.size w5).alloc (Nat.le_refl _) (.cells #[.slice P1' p1' q1', .slice P2' p2' q2', .slice P3' p3' q3'] 25))
             have hbx := heap_alloc_new w5 (.cells #[.slice P1' p1' q1', .slice P2' p2' q2', .slice P3' p3' q3'] 25)
             have y0 := cell_of_row _ w5.heap.size 0 _ _ _ hbx
             have y1 := cell_of_row _ w5.heap.size 1 _ _ _ hbx
             have y2 := cell_of_row _ w5.heap.size 2 _ _ _ hbx
             simp at y0 y1 y2
             have hr6 := hI6.res
             unfold zO at hr6
             have s0 := cell_of_row _ w.heap.size 0 _ _ _ hr6
             have s1 := cell_of_row _ w.heap.size 1 _ _ _ hr6
             have s2 := cell_of_row _ w.heap.size 2 _ _ _ hr6
             have t0 := frozen_of_row _ w.heap.size 0 _ _ hr6
             have t1 := frozen_of_row _ w.heap.size 1 _ _ hr6
             have t2 := frozen_of_row _ w.heap.size 2 _ _ hr6
             simp at s0 s1 s2
             have HI6 := Lib.hid hI6
             have St6 := Lib.hid ((st5.base HI.out.bel.size).below ((Below.refl w5.heap.size w5).alloc (Nat.le_refl _) (.cells #[.slice P1' p1' q1', .slice P2' p2' q2', .slice P3' p3' q3'] 25)))
             have Ow6 := Lib.hid (own_below (own_base own5 HI.out.bel.size) ((Below.refl w5.heap.size w5).alloc (Nat.le_refl _) (.cells #[.slice P1' p1' q1', .slice P2' p2' q2', .slice P3' p3' q3'] 25)))
             have Hn5 := Lib.hid hn5
             have Hbx := Lib.hid hbx
             have Hr6 := Lib.hid hr6
             clear st5 own5 hn5 hb5 hI5 hI6 hbx hr6)
          | (go_at_call 49; (with_reducible refine (fits_any sb wb.heap.size w.heap.size c e N ⟨P1', p1', q1', P2', p2', q2', P3', p3', q3'⟩ (readV b).1 (w5.alloc (.cells #[.slice P1' p1' q1', .slice P2' p2' q2', .slice P3' p3' q3'] 25)).heap.size _ HI6.out.sto St6.out.toR).mono ?_)
             rintro ed w7 ⟨he, hb7⟩
             rw [HFit.out] at he
             subst he
             have hI7 := HI6.out.below hb7
             have hbx7 := (hb7.block w5.heap.size (by rw [World.size_alloc]; omega)).trans Hbx.out
             clear y0 y1 y2 s0 s1 s2 t0 t1 t2
             have y0 := cell_of_row _ w5.heap.size 0 _ _ _ hbx7
             have y1 := cell_of_row _ w5.heap.size 1 _ _ _ hbx7
             have y2 := cell_of_row _ w5.heap.size 2 _ _ _ hbx7
             simp at y0 y1 y2
             have hr7 := hI7.res
             unfold zO at hr7
             have s0 := cell_of_row _ w.heap.size 0 _ _ _ hr7
             have s1 := cell_of_row _ w.heap.size 1 _ _ _ hr7
             have s2 := cell_of_row _ w.heap.size 2 _ _ _ hr7
             have t0 := frozen_of_row _ w.heap.size 0 _ _ hr7
             have t1 := frozen_of_row _ w.heap.size 1 _ _ hr7
             have t2 := frozen_of_row _ w.heap.size 2 _ _ hr7
             simp at s0 s1 s2
             have HI7 := Lib.hid hI7
             have St7 := Lib.hid (St6.out.below hb7)
             have Ow7 := Lib.hid (own_below Ow6.out hb7)
             clear s0 s1 s2 t0 t1 t2
             have hx7 := hI7.xat
             have m0 := frozen_of_row _ xb 0 _ _ hx7
             have m1 := frozen_of_row _ xb 1 _ _ hx7
             have m2 := frozen_of_row _ xb 2 _ _ hx7
             have g0 := cell_of_row _ xb 0 _ _ _ hx7
             have g1 := cell_of_row _ xb 1 _ _ _ hx7
             have g2 := cell_of_row _ xb 2 _ _ _ hx7
             simp at g0 g1 g2
             have hI8 := hI7.setX (V' := ⟨P1', p1', q1', P2', p2', q2', P3', p3', q3'⟩) (St6.out.below hb7)
             dsimp only at hI8
             obtain ⟨A0, n0, cap0, hs8, ho8, hn8⟩ := hI8.sto
             have k3 := cell_of_row _ sb 3 _ _ _ hs8
             simp at k3
             have hcp8 := (own_max ho8).1
             have Ho8 := Lib.hid (rds_of_own ho8 hn8)
             have Hn8 := Lib.hid hn8
             have HI8 := Lib.hid hI8
             have h3x : ((((w7.setCell ⟨xb, 0, none⟩ (.slice P1' p1' q1')).setCell ⟨xb, 1, none⟩ (.slice P2' p2' q2')).setCell ⟨xb, 2, none⟩ (.slice P3' p3' q3'))).ownsRow w.heap.size 54 3 (.slice A5 n5 c5) n5 ((readV b).2.1.flatMap Nt.cells) := own_ty (own_ty (own_ty (own_below Ow6.out hb7) hx7 (by decide)) (heap_set_same (j := 0) (.slice P1' p1' q1') hx7) (by decide)) (heap_set_same (j := 1) (.slice P2' p2' q2') (heap_set_same (j := 0) (.slice P1' p1' q1') hx7)) (by decide)
             have Ow8 := Lib.hid (rds_of_own h3x Hn5.out)
             have hn32 : n0 ≤ 32 ∧ n5 ≤ 1000 := by
               have a1 := hI8.n32
               have a2 := Hn5.out
               have a3 := readV_notes b
               omega
             clear hI7 hbx7 hr7 hb7 hI8 hs8 ho8 hn8 hx7 h3x)
          | (go_at_call 50; (with_reducible refine (last_any A0 A5 n0 n5 cap0 c5 N (readV b).2.1 _ Ho8.out Ow8.out (by omega) (by omega)).mono ?_)
             rintro ed w9 ⟨A9, c9, he, hown9, hb9⟩
             obtain ⟨n9, hn9⟩ : ∃ y, y = (lastN (N ++ (readV b).2.1)).length := ⟨_, rfl⟩
             rw [← hn9] at he hown9
             subst he
             have hI9 := HI8.out.below hb9
             obtain ⟨A0', n0', cap0', hs9, _, _⟩ := hI9.sto
             have f9 := frozen_of_row _ sb 3 _ _ hs9
             have k9 := cell_of_row _ sb 3 _ _ _ hs9
             simp at k9
             have HI9 := Lib.hid hI9
             have Ho9 := Lib.hid (own_base hown9 HI8.out.bel.size)
             have Hn9 := Lib.hid hn9
             clear hI9 hs9 hown9 hb9 hn9 k3))
        go_roundg (gk - 1)
        case measure => omega
        case rel => exact ⟨j + 1, _, _, _, by omega, by go_num, HI9.out.setS Ho9.out Hn9.out.symm (lastN_len _), Hnext.out⟩
    · have hi0 : ¬ (j : Int) < (L.length : Int) := by omega
      have Hsome : Hid (oo = some (x, N)) := by
        rw [List.drop_eq_nil_of_le (by omega)] at hf
        exact hf
      obtain ⟨P1', p1', q1', P2', p2', q2', P3', p3', q3'⟩ := V
      have hd := hoi.below (Below.refl _ wr).drew
      have hx := hd.xat
      have g0 := cell_of_row _ xb 0 _ _ _ hx
      have g1 := cell_of_row _ xb 1 _ _ _ hx
      have g2 := cell_of_row _ xb 2 _ _ _ hx
      simp at g0 g1 g2
      have HS0 : Hid (wr.drew.cell? ⟨xb, 0, none⟩ = some (.slice P1' p1' q1') ∧ wr.drew.cell? ⟨xb, 1, none⟩ = some (.slice P2' p2' q2') ∧ wr.drew.cell? ⟨xb, 2, none⟩ = some (.slice P3' p3' q3')) := ⟨g0, g1, g2⟩
      have HId := Lib.hid hd
      clear hf hoi hd hx g0 g1 g2
      go_wp2_with fail
      refine sk (fun w' => w'.cell? ⟨xb, 0, none⟩ = some (.slice P1' p1' q1') ∧ w'.cell? ⟨xb, 1, none⟩ = some (.slice P2' p2' q2') ∧ w'.cell? ⟨xb, 2, none⟩ = some (.slice P3' p3' q3')) 8 ?_ (fun hHeld => ?_)
      · (first | exact HS0.out | exact hS10 | exact hS11)
      refine tk 0 89 hHeld ?_
      refine tk 1 90 hHeld ?_
      refine tk 2 91 hHeld ?_
      refine bk 3 92 (fun K hK => ?_)
      go_simp
      (go_at_call 19; (with_reducible refine (notes_any sb wb.heap.size w.heap.size c e N wr.drew HId.out.sto (by have := HId.out.n32; omega)).mono ?_))
      rintro ed w10 ⟨A9, c9, rfl, hown9, hb9⟩
      have hI := HId.out.below hb9
      have hx := hI.xat
      have g0 := cell_of_row _ xb 0 _ _ _ hx
      have g1 := cell_of_row _ xb 1 _ _ _ hx
      have g2 := cell_of_row _ xb 2 _ _ _ hx
      simp at g0 g1 g2
      have hS10 := And.intro g0 (And.intro g1 g2)
      have hr := hI.res
      unfold zO at hr
      have s0 := cell_of_row _ w.heap.size 0 _ _ _ hr
      have s1 := cell_of_row _ w.heap.size 1 _ _ _ hr
      have s2 := cell_of_row _ w.heap.size 2 _ _ _ hr
      have t0 := frozen_of_row _ w.heap.size 0 _ _ hr
      have t1 := frozen_of_row _ w.heap.size 1 _ _ hr
      have t2 := frozen_of_row _ w.heap.size 2 _ _ hr
      simp at s0 s1 s2
      obtain ⟨w11, hw11⟩ : ∃ y, y = (((w10.setCell ⟨w.heap.size, 0, none⟩ (.slice P1' p1' q1')).setCell ⟨w.heap.size, 1, none⟩ (.slice P2' p2' q2')).setCell ⟨w.heap.size, 2, none⟩ (.slice P3' p3' q3')) := ⟨_, rfl⟩
      have hne : xb ≠ w.heap.size := by have := hI.lo; omega
      have hx11 : w11.heap[xb]? = some (.cells #[.slice P1' p1' q1', .slice P2' p2' q2', .slice P3' p3' q3'] 25) := by rw [hw11]; exact heap_set_other _ (heap_set_other _ (heap_set_other _ hx hne) hne) hne
      have v0 := cell_of_row _ xb 0 _ _ _ hx11
      have v1 := cell_of_row _ xb 1 _ _ _ hx11
      have v2 := cell_of_row _ xb 2 _ _ _ hx11
      simp at v0 v1 v2
      have hS11 := And.intro v0 (And.intro v1 v2)
      have Hw11 := Lib.hid hw11
      have HF := Lib.hid (hI.done (own_base hown9 HId.out.bel.size) hw11)
      have HIl := Lib.hid (And.intro hI.lo.1 (Nat.le_of_lt hI.lo.2.1))
      clear hown9 hb9 hI hx hr hx11 v0 v1 v2 hw11 g0 g1 g2 hne
      refine hK.out _ _ ?_ (fun hHeld' => ?_)
      · (first | exact HS0.out | exact hS10 | exact hS11)
      clear hK K hHeld
      have hHeld := hHeld'
      clear hHeld'
      simp only [List.set_cons_zero, List.set_cons_succ]
      refine tk 4 6 hHeld ?_
      refine bn 5 (fun K hK => ?_)
      go_simp
      rw [← Hw11.out]
      first | refine hK.out undef _ ?_ (fun hHeld' => ?_) | refine hK.out _ _ ?_ (fun hHeld' => ?_)
      · (first | exact HS0.out | exact hS10 | exact hS11)
      clear hK K hHeld
      have hHeld := hHeld'
      clear hHeld'
      try simp only [List.set_cons_zero, List.set_cons_succ]
      refine tk 6 8 hHeld ?_
      refine tk 7 9 hHeld ?_
      refine wpAnyH_done (by kernel_rfl) ?_ _
      refine NoPanic.normal ?_
      clear hHeld hS11 hS10 s0 s1 s2 t0 t1 t2
      go_wp2_with fail
      refine bodyPost_ret (results_tctt rfl _ _ w.heap.size #[.slice P1' p1' q1', .slice P2' p2' q2', .slice P3' p3' q3'] rfl (run_loadVar_row _ w.heap.size 25 25 _ (0, 0) _ HF.out.2.2.2.2 Try.underlying25 rfl (by kernel_rfl))) rfl ?_
      rw [Hsome.out]
      exact ⟨sb, wb.heap.size, ⟨P1', p1', q1', P2', p2', q2', P3', p3', q3'⟩, A9, N.length, c9, rfl, HF.out.1, HF.out.2.1, HF.out.2.2.1, rfl, HF.out.2.2.2.1, HIl.out.1, HIl.out.2⟩
end Go.Proofs.Ytcdgaeenfhpnkaa.Cr
