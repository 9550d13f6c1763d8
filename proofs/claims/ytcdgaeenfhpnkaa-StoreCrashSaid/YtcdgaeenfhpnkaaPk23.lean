/- Package store: Read. -/
import Derived.Test.YtcdgaeenfhpnkaaPk22
set_option linter.unusedVariables false
set_option linter.unusedSimpArgs false
set_option maxRecDepth 100000
namespace Go.Proofs.Ytcdgaeenfhpnkaa
open Go Go.RowKit
attribute [local go_sem] Oper.semAt_some

/-- what is read of bytes, and the reader behind it -/
def rd1 (b : List Nat) : Nat × Rr := Rr.many ⟨b, false⟩ 8
def rd2 (b : List Nat) : Nat × Rr := (rd1 b).2.many 8
def rd3 (b : List Nat) : List Lt × Rr := Rr.rowsL Rr.latch (rd1 b).1 (rd2 b).2
def rd4 (b : List Nat) : List Lt × Rr := Rr.rowsL Rr.latch (rd2 b).1 (rd3 b).2
def rd5 (b : List Nat) : List Int × Rr := Rr.rowsL timeI (rd1 b).1 (rd4 b).2
def rd6 (b : List Nat) : Nat × Rr := (rd5 b).2.many 32
def rd7 (b : List Nat) : List Nt × Rr := Rr.rowsL Rr.note (rd6 b).1 (rd6 b).2
def rd8 (b : List Nat) : Rr := (rd7 b).2.check (decide ((rd7 b).2.b.length = 0))
def readV (b : List Nat) : St × List Nt × Bool := if (rd8 b).wrong then (⟨[], [], []⟩, [], false) else (⟨(rd3 b).1, (rd4 b).1, (rd5 b).1⟩, (rd7 b).1, true)
/-- a state's three rows are the call's own -/
structure StO (w : World) (base : Nat) (v : StV) (s : St) : Prop where
  o1 : w.ownsRow base 61 3 (.slice v.A1 v.n1 v.c1) v.n1 (s.causes.flatMap Lt.cells)
  o2 : w.ownsRow base 61 3 (.slice v.A2 v.n2 v.c2) v.n2 (s.effects.flatMap Lt.cells)
  o3 : w.ownsRow base 2 1 (.slice v.A3 v.n3 v.c3) v.n3 (s.ends.flatMap ivw)
  l1 : s.causes.length = v.n1
  l2 : s.effects.length = v.n2
  l3 : s.ends.length = v.n3
/-- a state, notes, and whether they are some, are answered -/
def ReadP (w : World) (x : St × List Nt × Bool) (e : Ending) (w' : World) : Prop :=
  ∃ (v : StV) (A : Option Addr) (n c : Nat), e = .returned (.tuple #[.agg #[.slice v.A1 v.n1 v.c1, .slice v.A2 v.n2 v.c2, .slice v.A3 v.n3 v.c3], .slice A n c, .bool x.2.2]) ∧ StO w' w.heap.size v x.1 ∧ w'.ownsRow w.heap.size 54 3 (.slice A n c) n (x.2.1.flatMap Nt.cells) ∧ x.2.1.length = n ∧ Below w.heap.size w w'
theorem results_ctt {fn : Func} {p u v : Tmp} {ty : TypeId} (h : fn.results = #[.cell p ty, .tmp u, .tmp v]) (tmps : Array Value) (w : World) (g : Nat) (cs : Array Value)
    (hp : tmps.getD p undef = .pointer (some ⟨g, 0, none⟩)) (hl : (loadVar ty ⟨g, 0, none⟩).run Try.prog w = .ok (.agg cs) w) :
    (results fn tmps).run Try.prog w = .ok (.tuple #[.agg cs, tmps.getD u undef, tmps.getD v undef]) w := by
  have hp' : tmps[p]?.getD undef = .pointer (some ⟨g, 0, none⟩) := by simpa using hp
  simp [results, h, hp', asAddr, hl, Result.andThen]
theorem rds_own {α : Type} {enc : α → List Value} {w : World} {base e k n c : Nat} {A : Option Addr} {l : List α} (hk : ∀ a, (enc a).length = k) (h : w.ownsRow base e k (.slice A n c) n (l.flatMap enc)) (hn : l.length = n) : RdS enc w w.heap.size k A n l := by
  refine ⟨hn, fun h0 => ?_⟩
  obtain ⟨b, o, e1, hb, hc⟩ := (Rd.of_own h).2 h0
  refine ⟨b, o, e1, hb, fun j r hj i u hi => ?_⟩
  have hcell := hc (j * k + i) u ?_
  · rwa [show o + (j * k + i) = o + j * k + i by omega] at hcell
  · have hjl := (List.getElem?_eq_some_iff.1 hj).1
    have hil := (List.getElem?_eq_some_iff.1 hi).1
    rw [hk] at hil
    clear hc h e1 hb hn h0
    induction l generalizing j with
    | nil => simp at hjl
    | cons a l ih =>
      rw [List.flatMap_cons]
      cases j with
      | zero =>
        simp only [List.getElem?_cons_zero, Option.some.injEq] at hj
        subst hj
        rw [Nat.zero_mul, Nat.zero_add, List.getElem?_append_left (by rw [hk]; exact hil)]
        exact hi
      | succ j =>
        simp only [List.getElem?_cons_succ] at hj
        have e2 : (j + 1) * k + i = k + (j * k + i) := by rw [Nat.succ_mul]; omega
        rw [e2, List.getElem?_append_right (by rw [hk]; omega), hk, Nat.add_sub_cancel_left]
        exact ih j hj (by simpa using hjl)
theorem StO.toR {w : World} {base : Nat} {v : StV} {s : St} (h : StO w base v s) : StR w w.heap.size v s :=
  ⟨rds_own (fun _ => rfl) h.o1 h.l1, rds_own (fun _ => rfl) h.o2 h.l2, rds_own (fun _ => rfl) h.o3 h.l3, own_max h.o1, own_max h.o2, own_max h.o3⟩
theorem StO.below {w w' : World} {base : Nat} {v : StV} {s : St} (h : StO w base v s) (hb : Below w.heap.size w w') : StO w' base v s :=
  ⟨own_below h.o1 hb, own_below h.o2 hb, own_below h.o3 hb, h.l1, h.l2, h.l3⟩
theorem StO.base {w : World} {base b2 : Nat} {v : StV} {s : St} (h : StO w base v s) (hb : b2 ≤ base) : StO w b2 v s :=
  ⟨own_base h.o1 hb, own_base h.o2 hb, own_base h.o3 hb, h.l1, h.l2, h.l3⟩
theorem StO.nil_ (w : World) (base : Nat) : StO w base ⟨none, 0, 0, none, 0, 0, none, 0, 0⟩ ⟨[], [], []⟩ :=
  ⟨w.ownsRow_nil _ _ _, w.ownsRow_nil _ _ _, w.ownsRow_nil _ _ _, rfl, rfl, rfl⟩
/-- while it is read: the reader, and the state that is built -/
structure RX (wb wc : World) (rb B : Nat) (r : Rr) (xb : Nat) (cs : Array Value) : Prop where
  rd : RdrAt wc rb B r
  chg : Chg (fun k => k = rb) wb wc
  xat : wc.heap[xb]? = some (.cells cs 25)
  xge : wb.heap.size ≤ xb
  lt : rb < wb.heap.size
section
variable {wb wc w' : World} {rb B xb j base e k n : Nat} {r r' : Rr} {cs : Array Value} {v : Value} {xs : List Value}
theorem RX.call (h : RX wb wc rb B r xb cs) (hr : RdrAt w' rb B r') (hc : Chg (fun k => k = rb) wc w') : RX wb w' rb B r' xb cs :=
  ⟨hr, h.chg.trans hc, (hc.at_ (Array.getElem?_eq_some_iff.1 h.xat).1 (by have := h.xge; have := h.lt; show ¬ xb = rb; omega)).trans h.xat, h.xge, h.lt⟩
theorem RX.set (h : RX wb wc rb B r xb cs) (u : Value) : RX wb (wc.setCell ⟨xb, j, none⟩ u) rb B r xb (cs.setIfInBounds j u) :=
  ⟨rdr_other u h.rd (by have := h.xge; have := h.lt; omega) (by have := h.rd.2.1; have := h.xge; have := h.lt; omega), h.chg.setNew h.xge j u, heap_set_same u h.xat, h.xge, h.lt⟩
theorem own_call (h : wc.ownsRow base e k v n xs) (hc : Chg (fun k => k = rb) wc w') (hb : rb < base) : w'.ownsRow base e k v n xs :=
  own_chg h hc (fun g cur fr hg hge => by intro e; have e' : g = rb := e; omega)
theorem own_x (h : wc.ownsRow base e k v n xs) (hx : RX wb wc rb B r xb cs) (he : 25 ≠ e) (u : Value) : (wc.setCell ⟨xb, j, none⟩ u).ownsRow base e k v n xs := by
  refine ⟨h.1, ?_⟩
  rcases h.2 with h2 | ⟨g, cap, cur, hv, hb, hg, q⟩
  · exact .inl h2
  · refine .inr ⟨g, cap, cur, hv, hb, heap_set_other u hg ?_, q⟩
    rintro rfl
    rw [hx.xat] at hg
    injection hg with hg
    injection hg with _ h9
    exact he h9
end
theorem many8 (rb B : Nat) (r : Rr) (w : World) (h : RdrAt w rb B r) :
    Calls Try.prog 26 #[.pointer (some ⟨rb, 0, none⟩), .int .i64 8] w fun e w' => e = .returned (.int .i64 (r.many 8).1) ∧ RdrAt w' rb B (r.many 8).2 ∧ Chg (fun k => k = rb) w w' := many_rd rb B 8 r w h (by omega)
theorem many32 (rb B : Nat) (r : Rr) (w : World) (h : RdrAt w rb B r) :
    Calls Try.prog 26 #[.pointer (some ⟨rb, 0, none⟩), .int .i64 32] w fun e w' => e = .returned (.int .i64 (r.many 32).1) ∧ RdrAt w' rb B (r.many 32).2 ∧ Chg (fun k => k = rb) w w' := many_rd rb B 32 r w h (by omega)
theorem many_le (r : Rr) (m : Nat) : (r.many m).1 ≤ m := Nat.min_le_right _ _
theorem check_keep (rb B : Nat) (r : Rr) (p : Bool) (w : World) (h : RdrAt w rb B r) :
    Calls Try.prog 34 #[.pointer (some ⟨rb, 0, none⟩), .bool p] w fun e w' => e = .returned (.tuple #[]) ∧ RdrAt w' rb B (r.check p) ∧ Chg (fun k => k = rb) w w' ∧ w'.cell? ⟨rb, 0, none⟩ = w.cell? ⟨rb, 0, none⟩ := by
  have h0 := h
  obtain ⟨bs, wr⟩ := r
  obtain ⟨⟨A, n, c, hh, hr, hn, hm⟩, hB, hx⟩ := h
  dsimp only at hh hr hx
  cases p
  · have f1 := frozen_of_row w rb 1 _ _ hh
    have c1 := cell_of_row w rb 1 _ _ _ hh
    simp at c1
    have fin := rdr_set (j := 1) (.bool true) hh hB (A' := A) (n' := n) (c' := c) (g' := true) rfl hr hn hm hx
    have d1 := cell_of_row _ rb 0 _ _ _ hh
    have d2 := cell_of_row _ rb 0 _ _ _ (heap_set_same (j := 1) (.bool true) hh)
    simp at d1 d2
    have D : Hid ((w.setCell ⟨rb, 1, none⟩ (.bool true)).cell? ⟨rb, 0, none⟩ = w.cell? ⟨rb, 0, none⟩) := d2.trans d1.symm
    have Fin := Lib.hid fin
    clear fin hh hr h0 d1 d2
    go_enter Try.func34, Try.ntmps34
    go_wp2_with fail
    go_end0
    refine ⟨rfl, ?_, Fin.out.2, D.out⟩
    have e : (Rr.check ⟨bs, wr⟩ false) = ⟨bs, true⟩ := by simp [Rr.check]
    rw [e]; exact Fin.out.1
  · have H0 := Lib.hid h0
    clear hh hr h0
    go_enter Try.func34, Try.ntmps34
    go_wp2_with fail
    go_end0
    refine ⟨rfl, ?_, Chg.refl _ _, rfl⟩
    have e : (Rr.check ⟨bs, wr⟩ true) = ⟨bs, wr⟩ := by simp [Rr.check]
    rw [e]; exact H0.out
theorem own_setj {W : World} {base e k n b j : Nat} {v u : Value} {xs : List Value} (h : W.ownsRow base e k v n xs) (hb : b < base) : (W.setCell ⟨b, j, none⟩ u).ownsRow base e k v n xs := by
  refine ⟨h.1, ?_⟩
  rcases h.2 with h2 | ⟨g, cap, cur, hv, hg, hc, q⟩
  · exact .inl h2
  · exact .inr ⟨g, cap, cur, hv, hg, heap_set_other u hc (by omega), q⟩
def zV : StV := ⟨none, 0, 0, none, 0, 0, none, 0, 0⟩
theorem zV_st (w : World) (B : Nat) : StR w B zV ⟨[], [], []⟩ :=
  ⟨⟨rfl, fun h => absurd h (Nat.lt_irrefl 0)⟩, ⟨rfl, fun h => absurd h (Nat.lt_irrefl 0)⟩, ⟨rfl, fun h => absurd h (Nat.lt_irrefl 0)⟩, ⟨Nat.le_refl _, Nat.zero_le _⟩, ⟨Nat.le_refl _, Nat.zero_le _⟩, ⟨Nat.le_refl _, Nat.zero_le _⟩⟩
def zSt : Obj := .cells #[.slice none 0 0, .slice none 0 0, .slice none 0 0] 25
theorem RX.new {wb wc : World} {rb B : Nat} {r : Rr} (h : RdrAt wc rb B r) (hc : Chg (fun k => k = rb) wb wc) (hlt : rb < wb.heap.size) : RX wb (wc.alloc zSt) rb B r wc.heap.size #[.slice none 0 0, .slice none 0 0, .slice none 0 0] :=
  ⟨h.below ((Below.refl _ _).alloc (Nat.le_refl _) _), hc.trans (Chg.of ((Below.refl _ _).alloc (Nat.le_refl _) _)), heap_alloc_new _ _, hc.size, hlt⟩
theorem RX.cells {wb wc : World} {rb B : Nat} {r : Rr} {xb : Nat} {a b c : Value} (h : RX wb wc rb B r xb #[a, b, c]) : (wc.cell? ⟨xb, 0, none⟩ = some a ∧ wc.cell? ⟨xb, 1, none⟩ = some b ∧ wc.cell? ⟨xb, 2, none⟩ = some c) ∧ (wc.frozen? ⟨xb, 0, none⟩ = false ∧ wc.frozen? ⟨xb, 1, none⟩ = false ∧ wc.frozen? ⟨xb, 2, none⟩ = false) := by
  have n0 := cell_of_row _ xb 0 _ _ _ h.xat
  have n1 := cell_of_row _ xb 1 _ _ _ h.xat
  have n2 := cell_of_row _ xb 2 _ _ _ h.xat
  simp at n0 n1 n2
  exact ⟨⟨n0, n1, n2⟩, frozen_of_row _ xb 0 _ _ h.xat, frozen_of_row _ xb 1 _ _ h.xat, frozen_of_row _ xb 2 _ _ h.xat⟩
set_option maxHeartbeats 8000000 in
theorem storeRead_any (A : Option Addr) (n c B : Nat) (b : List Nat) (w : World) (hr : Rd w B 1 A n (b.map bv)) (hB : B ≤ w.heap.size) (hb : ∀ x ∈ b, x < 256) (hnc : n ≤ c) (hc : c ≤ maxLen) :
    Calls Try.prog 10 #[.slice A n c] w (ReadP w (readV b)) := by
  have al : ∀ (w : World) (o : Obj), Below w.heap.size w (w.alloc o) := fun w o => (Below.refl _ _).alloc (Nat.le_refl _) _
  obtain ⟨wb, hwb⟩ : ∃ x, x = ((w.alloc (.cells #[.slice none 0 0, .slice none 0 0, .slice none 0 0] 25)).alloc (.cells #[.slice A n c, .bool false] 57)).alloc (.cells #[.pointer (some ⟨w.heap.size + 1, 0, none⟩)] 55) := ⟨_, rfl⟩
  have hzb : wb.heap.size = w.heap.size + 3 := by rw [hwb]; simp only [World.size_alloc]
  have hbb : Below w.heap.size w wb := by
    rw [hwb]
    exact (((Below.refl _ w).alloc (Nat.le_refl _) _).alloc (by simp only [World.size_alloc]; omega) _).alloc (by simp only [World.size_alloc]; omega) _
  have hres : wb.heap[w.heap.size]? = some (.cells #[.slice none 0 0, .slice none 0 0, .slice none 0 0] 25) := by
    rw [hwb]; exact heap_alloc_keep _ (heap_alloc_keep _ (heap_alloc_new w _))
  have hrd0 : wb.heap[w.heap.size + 1]? = some (.cells #[.slice A n c, .bool false] 57) := by
    rw [hwb]
    have := heap_alloc_new (w.alloc (.cells #[.slice none 0 0, .slice none 0 0, .slice none 0 0] 25)) (.cells #[.slice A n c, .bool false] 57)
    rw [World.size_alloc] at this
    exact heap_alloc_keep _ this
  have hcp : wb.heap[w.heap.size + 2]? = some (.cells #[.pointer (some ⟨w.heap.size + 1, 0, none⟩)] 55) := by
    rw [hwb]
    have := heap_alloc_new ((w.alloc (.cells #[.slice none 0 0, .slice none 0 0, .slice none 0 0] 25)).alloc (.cells #[.slice A n c, .bool false] 57)) (.cells #[.pointer (some ⟨w.heap.size + 1, 0, none⟩)] 55)
    simp only [World.size_alloc] at this
    exact this
  have h0 : RdrAt wb (w.heap.size + 1) B ⟨b, false⟩ := ⟨⟨A, n, c, hrd0, hr.below (hbb.mono hB), hnc, hc⟩, by omega, hb⟩
  have hrl : w.heap.size + 1 < wb.heap.size := by omega
  have hz : ∀ W, Chg (fun k => k = w.heap.size + 1) wb W → W.cell? ⟨w.heap.size + 1 + 1, 0, none⟩ = some (.pointer (some ⟨w.heap.size + 1, 0, none⟩)) := fun W hW => by
    have h1 := (hW.at_ (i := w.heap.size + 2) (by omega) (by show ¬ _ = _; omega)).trans hcp
    have := cell_of_row W (w.heap.size + 2) 0 _ _ _ h1
    simpa using this
  have hq : ∀ W, Chg (fun k => k = w.heap.size + 1) wb W → W.heap[w.heap.size + 1 + 1]? = some (.cells #[.pointer (some ⟨w.heap.size + 1, 0, none⟩)] 55) := fun W hW => (hW.at_ (i := w.heap.size + 2) (by omega) (by show ¬ _ = _; omega)).trans hcp
  have hres' : ∀ W, Chg (fun k => k = w.heap.size + 1) wb W → W.heap[w.heap.size]? = some zSt := fun W hW => (hW.at_ (i := w.heap.size) (by omega) (by show ¬ _ = _; omega)).trans hres
  have z0 := hz wb (Chg.refl _ _)
  obtain ⟨c1, hc1e⟩ : ∃ x, x = (rd1 b).1 := ⟨_, rfl⟩
  obtain ⟨c2, hc2e⟩ : ∃ x, x = (rd2 b).1 := ⟨_, rfl⟩
  obtain ⟨c6, hc6e⟩ : ∃ x, x = (rd6 b).1 := ⟨_, rfl⟩
  have hl1 : c1 ≤ 8 := by rw [hc1e]; exact many_le _ _
  have hl2 : c2 ≤ 8 := by rw [hc2e]; exact many_le _ _
  have hl6 : c6 ≤ 32 := by rw [hc6e]; exact many_le _ _
  have hn3 : (rd3 b).1.length = c1 := by rw [hc1e]; exact rowsL_len _ _ _
  have hn4 : (rd4 b).1.length = c2 := by rw [hc2e]; exact rowsL_len _ _ _
  have hn5 : (rd5 b).1.length = c1 := by rw [hc1e]; exact rowsL_len _ _ _
  have hn7 : (rd7 b).1.length = c6 := by rw [hc6e]; exact rowsL_len _ _ _
  have E1 : Hid (Rr.many ⟨b, false⟩ 8 = (c1, (rd1 b).2)) := by show _ = _; rw [hc1e]; rfl
  have E2 : Hid (Rr.many (rd1 b).2 8 = (c2, (rd2 b).2)) := by show _ = _; rw [hc2e]; rfl
  have E3 : Hid (Rr.rowsL Rr.latch c1 (rd2 b).2 = rd3 b) := by show _ = _; rw [hc1e]; rfl
  have E4 : Hid (Rr.rowsL Rr.latch c2 (rd3 b).2 = rd4 b) := by show _ = _; rw [hc2e]; rfl
  have E5 : Hid (Rr.rowsL timeI c1 (rd4 b).2 = rd5 b) := by show _ = _; rw [hc1e]; rfl
  have E6 : Hid (Rr.many (rd5 b).2 32 = (c6, (rd6 b).2)) := by show _ = _; rw [hc6e]; rfl
  have E7 : Hid (Rr.rowsL Rr.note c6 (rd6 b).2 = rd7 b) := by show _ = _; rw [hc6e]; rfl
  have N3 := Lib.hid hn3
  have N4 := Lib.hid hn4
  have N5 := Lib.hid hn5
  have N7 := Lib.hid hn7
  have Al := Lib.hid al
  have Hwb := Lib.hid hwb
  have Hzb := Lib.hid hzb
  have Hbb := Lib.hid hbb
  have HQ := Lib.hid hq
  have HZ := Lib.hid hz
  have HRes := Lib.hid hres'
  have H0 := Lib.hid h0
  clear al hwb hzb hbb hres hcp h0 hrd0 hr hB hz hq hres' hn3 hn4 hn5 hn7 hc1e hc2e hc6e
  go_enter Try.func10, Try.ntmps10
  go_wp2_with (first
    | (rw [← Hwb.out]
       go_at_call 26; (with_reducible refine (many8 (w.heap.size + 1) B _ _ H0.out).mono ?_)
       rintro e w1 ⟨he, hr1, hc1⟩
       rw [E1.out] at he hr1
       subst he
       have z1 := HZ.out _ hc1
       have HR1 := Lib.hid hr1
       have HC1 := Lib.hid hc1
       clear hr1 hc1 z0)
    | (go_at_call 26; (with_reducible refine (many8 (w.heap.size + 1) B _ _ HR1.out).mono ?_)
       rintro e w2 ⟨he, hr2, hc2⟩
       rw [E2.out] at he hr2
       subst he
       have hx := RX.new hr2 (HC1.out.trans hc2) hrl
       unfold zSt at hx
       obtain ⟨xb, hxb⟩ : ∃ x, x = w2.heap.size := ⟨_, rfl⟩
       have hx2 : RX wb (w2.alloc (.cells #[.slice none 0 0, .slice none 0 0, .slice none 0 0] 25)) (w.heap.size + 1) B (rd2 b).2 xb #[.slice none 0 0, .slice none 0 0, .slice none 0 0] := by rw [hxb]; exact hx
       have z2 := HZ.out _ (HC1.out.trans hc2)
       have HX2 := Lib.hid hx2
       have hlt2 : w.heap.size + 1 + 1 < w2.heap.size := by have := hxb ▸ hx2.xge; have := Hzb.out; omega
       have Hxb := Lib.hid hxb
       clear hr2 hc2 hx hx2 hxb HR1 HC1 z1))
  obtain ⟨w3, hw3⟩ : ∃ x, x = w2.alloc (.cells #[.slice none 0 0, .slice none 0 0, .slice none 0 0] 25) := ⟨_, rfl⟩
  have hx3 : RX wb w3 (w.heap.size + 1) B (rd2 b).2 xb #[.slice none 0 0, .slice none 0 0, .slice none 0 0] := by rw [hw3]; exact HX2.out
  have z3 := HZ.out _ hx3.chg
  have HX3 := Lib.hid hx3
  have hge : ∀ {W : World} {r : Rr} {cs : Array Value}, RX wb W (w.heap.size + 1) B r xb cs → w.heap.size + 1 < W.heap.size := fun h => by have := h.chg.size; omega
  rw [← hw3, ← Hxb.out]
  clear hw3 hx3 z2 HX2 hlt2 Hxb
  go_wp2_with (first
    | (go_at_call 27; (with_reducible refine (rows_lt c1 (w.heap.size + 1) B _ w3 HX3.out.rd (by omega)).mono ?_)
       rintro e w4 ⟨A4, k4, he, ho4, hr4, hc4⟩
       rw [E3.out, N3.out] at he
       rw [E3.out, N3.out] at ho4
       rw [E3.out] at hr4
       subst he
       have hX4 := HX3.out.call hr4 hc4
       have hX5 := hX4.set (j := 0) (.slice A4 c1 k4)
       obtain ⟨⟨g0, g1, g2⟩, f0, f1, f2⟩ := hX4.cells
       have z5 := HZ.out _ hX5.chg
       have O1 := Lib.hid (own_x (j := 0) ho4 hX4 (by decide) (.slice A4 c1 k4))
       have B1 : Hid (w.heap.size + 1 < w3.heap.size) := hge HX3.out
       have HX5 : Hid (RX wb (w4.setCell ⟨xb, 0, none⟩ (.slice A4 c1 k4)) (w.heap.size + 1) B (rd3 b).2 xb #[.slice A4 c1 k4, .slice none 0 0, .slice none 0 0]) := hX5
       clear ho4 hr4 hc4 hX4 hX5 z3 HX3)
    | (go_at_call 27; (with_reducible refine (rows_lt c2 (w.heap.size + 1) B _ _ HX5.out.rd (by omega)).mono ?_)
       rintro e w6 ⟨A6, k6, he, ho6, hr6, hc6⟩
       rw [E4.out, N4.out] at he
       rw [E4.out, N4.out] at ho6
       rw [E4.out] at hr6
       subst he
       clear g0 g1 g2 f0 f1 f2
       have hX6 := HX5.out.call hr6 hc6
       have hX7 := hX6.set (j := 1) (.slice A6 c2 k6)
       obtain ⟨⟨g0, g1, g2⟩, f0, f1, f2⟩ := hX6.cells
       have z7 := HZ.out _ hX7.chg
       have P1 := Lib.hid (own_x (j := 1) (own_call O1.out hc6 B1.out) hX6 (by decide) (.slice A6 c2 k6))
       have O2 := Lib.hid (own_x (j := 1) ho6 hX6 (by decide) (.slice A6 c2 k6))
       have B2 : Hid (w.heap.size + 1 < (w4.setCell ⟨xb, 0, none⟩ (.slice A4 c1 k4)).heap.size) := hge HX5.out
       have HX7 : Hid (RX wb (w6.setCell ⟨xb, 1, none⟩ (.slice A6 c2 k6)) (w.heap.size + 1) B (rd4 b).2 xb #[.slice A4 c1 k4, .slice A6 c2 k6, .slice none 0 0]) := hX7
       clear ho6 hr6 hc6 hX6 hX7 z5 HX5 O1)
    | (go_at_call 29; (with_reducible refine (rows_time c1 (w.heap.size + 1) B _ _ HX7.out.rd (by omega)).mono ?_)
       rintro e w8 ⟨A8, k8, he, ho8, hr8, hc8⟩
       rw [E5.out, N5.out] at he
       rw [E5.out, N5.out] at ho8
       rw [E5.out] at hr8
       subst he
       clear g0 g1 g2 f0 f1 f2
       have hX8 := HX7.out.call hr8 hc8
       have hX9 := hX8.set (j := 2) (.slice A8 c1 k8)
       obtain ⟨⟨g0, g1, g2⟩, f0, f1, f2⟩ := hX8.cells
       have z9 := HZ.out _ hX9.chg
       have Q1 := Lib.hid (own_x (j := 2) (own_call P1.out hc8 B1.out) hX8 (by decide) (.slice A8 c1 k8))
       have P2 := Lib.hid (own_x (j := 2) (own_call O2.out hc8 B2.out) hX8 (by decide) (.slice A8 c1 k8))
       have O3 := Lib.hid (own_x (j := 2) ho8 hX8 (by decide) (.slice A8 c1 k8))
       have B3 : Hid (w.heap.size + 1 < (w6.setCell ⟨xb, 1, none⟩ (.slice A6 c2 k6)).heap.size) := hge HX7.out
       have HX9 : Hid (RX wb (w8.setCell ⟨xb, 2, none⟩ (.slice A8 c1 k8)) (w.heap.size + 1) B (rd5 b).2 xb #[.slice A4 c1 k4, .slice A6 c2 k6, .slice A8 c1 k8]) := hX9
       clear ho8 hr8 hc8 hX8 hX9 z7 HX7 P1 O2)
    | (go_at_call 26; (with_reducible refine (many32 (w.heap.size + 1) B _ _ HX9.out.rd).mono ?_)
       rintro e wm ⟨he, hrm, hcm⟩
       rw [E6.out] at he hrm
       subst he
       clear g0 g1 g2 f0 f1 f2
       have hXm := HX9.out.call hrm hcm
       have zm := HZ.out _ hXm.chg
       have qm := HQ.out _ hXm.chg
       have R1 := Lib.hid (own_call Q1.out hcm B1.out)
       have Q2 := Lib.hid (own_call P2.out hcm B2.out)
       have P3 := Lib.hid (own_call O3.out hcm B3.out)
       have HXm := Lib.hid hXm
       have Qm := Lib.hid qm
       clear hrm hcm hXm z9 HX9 Q1 P2 O3 qm)
    | (go_at_call 31; (with_reducible refine (rows_nt c6 (w.heap.size + 1) B _ _ HXm.out.rd (by omega) (w.heap.size + 1 + 1) Qm.out).mono ?_)
       rintro e wn ⟨An, kn, he, hon, hrn, hcn⟩
       rw [E7.out, N7.out] at he
       rw [E7.out, N7.out] at hon
       rw [E7.out] at hrn
       subst he
       have hXn := HXm.out.call hrn hcn
       have S1 := Lib.hid (own_call R1.out hcn B1.out)
       have S2 := Lib.hid (own_call Q2.out hcn B2.out)
       have S3 := Lib.hid (own_call P3.out hcn B3.out)
       have S4 := Lib.hid hon
       have B4 : Hid (w.heap.size + 1 < wm.heap.size) := hge HXm.out
       have HXn := Lib.hid hXn
       clear hon hrn hcn hXn zm HXm Qm R1 Q2 P3))
  have hXn := HXn.out
  obtain ⟨A', n', c', hr1, hr2, hr3, hr4⟩ := hXn.rd.1
  have hlen : (rd7 b).2.b.length = n' := by have := hr2.1; simpa using this
  have hc0 := cell_of_row wn (w.heap.size + 1) 0 _ _ _ hr1
  simp at hc0
  have hS0 : wn.drew.cell? ⟨w.heap.size + 1 + 1, 0, none⟩ = some (.pointer (some ⟨w.heap.size + 1, 0, none⟩)) ∧ wn.drew.cell? ⟨w.heap.size + 1, 0, none⟩ = some (.slice A' n' c') := ⟨HZ.out _ (hXn.chg.trans (Chg.of (Below.refl _ wn).drew)), hc0⟩
  have HS0 := Lib.hid hS0
  have Hlen := Lib.hid hlen
  have hrd := hXn.rd.below (Below.refl _ wn).drew
  have Hrd := Lib.hid hrd
  have hn' : (n' : Int) ≤ 9223372036854775807 := by unfold maxLen at hr4; omega
  clear hXn hr1 hr2 hr3 hc0 hS0 hlen hrd hr4
  refine sk (fun w' => w'.cell? ⟨w.heap.size + 1 + 1, 0, none⟩ = some (.pointer (some ⟨w.heap.size + 1, 0, none⟩)) ∧ w'.cell? ⟨w.heap.size + 1, 0, none⟩ = some (.slice A' n' c')) 8 ?_ (fun hHeld => ?_)
  · (first | exact HS0.out | exact hS9)
  refine tk 0 36 hHeld ?_
  refine tk 1 37 hHeld ?_
  refine tk 2 38 hHeld ?_
  refine tk 3 39 hHeld ?_
  refine tk 4 40 hHeld ?_
  refine tk 5 41 hHeld ?_
  refine tk 6 42 hHeld ?_
  refine bk 7 43 (fun K hK => ?_)
  go_simp
  (go_at_call 34; (with_reducible refine (check_keep (w.heap.size + 1) B (rd7 b).2 _ _ Hrd.out).mono ?_))
  rintro e w9 ⟨rfl, hr9, hc9, hk9⟩
  have hnd : ((n' : Int) == 0) = decide ((rd7 b).2.b.length = 0) := by
    rw [Hlen.out, Bool.eq_iff_iff]; simp only [beq_iff_eq, decide_eq_true_eq]; omega
  rw [hnd] at hr9
  have hX9 : RX wb w9 (w.heap.size + 1) B (rd8 b) xb #[.slice A4 c1 k4, .slice A6 c2 k6, .slice A8 c1 k8] := HXn.out.call hr9 ((Chg.of (Below.refl _ wn).drew).trans hc9)
  have hcw : Chg (fun k => k = w.heap.size + 1) wn w9 := (Chg.of (Below.refl _ wn).drew).trans hc9
  have hS9 : w9.cell? ⟨w.heap.size + 1 + 1, 0, none⟩ = some (.pointer (some ⟨w.heap.size + 1, 0, none⟩)) ∧ w9.cell? ⟨w.heap.size + 1, 0, none⟩ = some (.slice A' n' c') := ⟨HZ.out _ hX9.chg, hk9.trans HS0.out.2⟩
  refine hK.out _ _ ?_ (fun hHeld' => ?_)
  · (first | exact HS0.out | exact hS9)
  clear hK K hHeld
  have hHeld := hHeld'
  clear hHeld'
  simp only [List.set_cons_zero, List.set_cons_succ]
  refine wpAnyH_done (by kernel_rfl) ?_ _
  refine NoPanic.normal ?_
  obtain ⟨A'', n'', c'', hr1, hr2⟩ := hX9.rd.1
  have v1 := cell_of_row w9 (w.heap.size + 1) 1 _ _ _ hr1
  simp at v1
  obtain ⟨⟨g0, g1, g2⟩, g3, g4, g5⟩ := hX9.cells
  have hz9 := HRes.out _ hX9.chg
  unfold zSt at hz9
  have s0 := cell_of_row w9 w.heap.size 0 _ _ _ hz9
  have s1 := cell_of_row w9 w.heap.size 1 _ _ _ hz9
  have s2 := cell_of_row w9 w.heap.size 2 _ _ _ hz9
  have q0 := frozen_of_row w9 w.heap.size 0 _ _ hz9
  have q1 := frozen_of_row w9 w.heap.size 1 _ _ hz9
  have q2 := frozen_of_row w9 w.heap.size 2 _ _ hz9
  simp at s0 s1 s2
  have u0 := hS9.1
  have T1 := Lib.hid (own_call S1.out hcw B1.out)
  have T2 := Lib.hid (own_call S2.out hcw B2.out)
  have T3 := Lib.hid (own_call S3.out hcw B3.out)
  have T4 := Lib.hid (own_call S4.out hcw B4.out)
  have Hz9 := Lib.hid hz9
  have hbw9 : Below w.heap.size w w9 := Hbb.out.trans (hX9.chg.below (by have := Hzb.out; omega) (fun g hg => by have hg' : g = w.heap.size + 1 := hg; omega))
  have HB9 := Lib.hid hbw9
  clear hS9 hHeld hr1 hr2 hX9 hz9 hbw9 hk9 hc9 hr9 hcw hnd HS0 Hrd Hlen
  obtain ⟨wr, hwr⟩ : ∃ x, x = (rd8 b).wrong := ⟨_, rfl⟩
  rw [← hwr] at v1
  have Hwr := Lib.hid hwr
  clear hwr
  cases wr
  · go_wp2_with fail
    have hv : readV b = (⟨(rd3 b).1, (rd4 b).1, (rd5 b).1⟩, (rd7 b).1, true) := by unfold readV; rw [← Hwr.out]; rfl
    refine bodyPost_ret (results_ctt rfl _ _ w.heap.size #[.slice A4 c1 k4, .slice A6 c2 k6, .slice A8 c1 k8] rfl (run_loadVar_row _ w.heap.size 25 25 _ (0, 0) _ (heap_set_same (j := 2) (.slice A8 c1 k8) (heap_set_same (j := 1) (.slice A6 c2 k6) (heap_set_same (j := 0) (.slice A4 c1 k4) Hz9.out))) Try.underlying25 rfl (by kernel_rfl))) rfl ?_
    rw [hv]
    have b1 := B1.out
    have b2 := B2.out
    have b3 := B3.out
    have b4 := B4.out
    refine ⟨⟨A4, c1, k4, A6, c2, k6, A8, c1, k8⟩, An, c6, kn, rfl, ⟨own_base (own_setj (own_setj (own_setj T1.out ?_) ?_) ?_) ?_, own_base (own_setj (own_setj (own_setj T2.out ?_) ?_) ?_) ?_, own_base (own_setj (own_setj (own_setj T3.out ?_) ?_) ?_) ?_, N3.out, N4.out, N5.out⟩, own_base (own_setj (own_setj (own_setj T4.out ?_) ?_) ?_) ?_, N7.out, ((HB9.out.setCell (Nat.le_refl _) _).setCell (Nat.le_refl _) _).setCell (Nat.le_refl _) _⟩
    all_goals omega
  · go_wp2_with fail
    have hv : readV b = (⟨[], [], []⟩, [], false) := by unfold readV; rw [← Hwr.out]; rfl
    refine bodyPost_ret (results_ctt rfl _ _ w.heap.size #[.slice none 0 0, .slice none 0 0, .slice none 0 0] rfl (run_loadVar_row _ w.heap.size 25 25 _ (0, 0) _ (heap_set_same (j := 2) (.slice none 0 0) (heap_set_same (j := 1) (.slice none 0 0) (heap_set_same (j := 0) (.slice none 0 0) Hz9.out))) Try.underlying25 rfl (by kernel_rfl))) rfl ?_
    rw [hv]
    exact ⟨zV, none, 0, 0, rfl, StO.nil_ _ _, World.ownsRow_nil _ _ _ _, rfl, ((HB9.out.setCell (Nat.le_refl _) _).setCell (Nat.le_refl _) _).setCell (Nat.le_refl _) _⟩
end Go.Proofs.Ytcdgaeenfhpnkaa
