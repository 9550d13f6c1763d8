/- Package store: rows of latches, times, notes are read. -/
import Derived.Test.YtcdgaeenfhpnkaaPk21
set_option linter.unusedVariables false
set_option linter.unusedSimpArgs false
set_option maxRecDepth 100000
namespace Go.Proofs.Ytcdgaeenfhpnkaa
open Go Go.RowKit
attribute [local go_sem] Oper.semAt_some

theorem info_lt : (Try.prog.info? 61).map (fun i => (i.zero, i.size, i.bytes)) = some (some (.agg #[.bool false, .int .i64 0, .bool false]), 3, 24) := by kernel_rfl
theorem info_nt : (Try.prog.info? 54).map (fun i => (i.zero, i.size, i.bytes)) = some (some (.agg #[.int .i64 0, .int .i64 0, .int .i64 0]), 3, 24) := by kernel_rfl
theorem info_i64 : (Try.prog.info? 2).map (fun i => (i.zero, i.size, i.bytes)) = some (some (.int .i64 0), 1, 8) := by kernel_rfl
/-- an element is put behind a row of the call's own -/
theorem wpList_el {w w0 : World} {ops : Array Oper} {rest : List Oper} {o : Oper} {a : Act} {Q : Exit → Act → World → Prop} (hgd : o.guard = none) (s x : Operand) (tS e : TypeId) (i : TypeInfo) (z : Value) (k bts : Nat)
    (hu : Try.prog.underlying tS = some (.slice e)) (hi : Try.prog.info? e = some i) (hz : i.zero = some z) (hk : i.size = k) (hbt : i.bytes = bts) (hzs : z.cells.size = k) (hk0 : 0 < k) (hb100 : bts ≤ 100)
    (ho : o.op = .call { callee := .builtin .append, args := #[s, x], argTypes := #[tS, tS] })
    (base : Nat) (v : Value) (n : Nat) (xs : List Value) (hown : w0.ownsRow base e k v n xs) (hs : a.eval s = v) (cs : Array Value) (hw : w = w0.alloc (.cells cs e)) (hcs : cs.size = k) (h1 : ∀ u ∈ cs.toList, u.oneCell' = true)
    (hx : a.eval x = .slice (some ⟨w0.heap.size, 0, none⟩) 1 1) (hl : n ≤ 100000) (hbase : base ≤ w0.heap.size)
    (h : ∀ v' w', w'.ownsRow base e k v' (n + 1) (xs ++ cs.toList) → RowFr v w0 v' w' → wpList Try.prog ops Q rest (a.put o.dst v') w') : wpList Try.prog ops Q (o :: rest) a w := by
  subst hw
  have hal : Below w0.heap.size w0 (w0.alloc (.cells cs e)) := (Below.refl _ _).alloc (Nat.le_refl _) _
  have hm : (n + 1) * bts ≤ 100001 * 100 := Nat.mul_le_mul (by omega) hb100
  refine wpList_app _ hgd s x tS ho base e i z k bts hu hi hz hk hbt hzs hk0 v n xs hs (own_below hown hal) (w0.heap.size + 1) (some ⟨w0.heap.size, 0, none⟩) 1 1 cs.toList hx ?_ h1 ?_ ?_ ?_ ?_
  · refine ⟨by simp [hcs], fun _ => ⟨w0.heap.size, 0, rfl, by omega, fun j u hu => ?_⟩⟩
    rw [cell_of_row _ _ _ _ _ _ (heap_alloc_new w0 _)]
    simpa using hu
  · unfold maxLen; omega
  · omega
  · rw [World.size_alloc]; omega
  · intro v' w' hown' hg hat
    refine h v' w' hown' ((RowFr.of (v := v) hal).trans ⟨Chg.grown hg (fun g e => e), ?_⟩)
    rcases hat with h2 | h2
    · exact .inl h2
    · exact .inr ⟨_, h2, by rw [World.size_alloc]; omega⟩
/-- make of an empty row with spare room -/
theorem wpList_mkE {w : World} {ops : Array Oper} {rest : List Oper} {o : Oper} {a : Act} {Q : Exit → Act → World → Prop}
    (hg : o.guard = none) (l c : Operand) (t : TypeId) (hop : o.op = Op.makeSlice t l c)
    (e : TypeId) (i : TypeInfo) (z : Value) (k bts : Nat) (h1 : Try.prog.underlying t = some (.slice e)) (h2 : Try.prog.info? e = some i) (h3 : i.zero = some z) (h4 : i.size = k) (h5 : i.bytes = bts) (hb100 : bts ≤ 100)
    (m : Nat) (hl : a.eval l = .int .i64 0) (hc : a.eval c = .int .i64 m) (hzs : z.cells.size = k) (hm : m ≤ 1000)
    (hK : ∀ w', w'.ownsRow w.heap.size e k (.slice (some ⟨w.heap.size, 0, none⟩) 0 m) 0 [] → Below w.heap.size w w' → wpList Try.prog ops Q rest (a.put o.dst (.slice (some ⟨w.heap.size, 0, none⟩) 0 m)) w') :
    wpList Try.prog ops Q (o :: rest) a w := by
  have hbm : (i.bytes : Int) * (m : Int) ≤ 281474976710656 := by
    have h : i.bytes * m ≤ 100 * 1000 := Nat.mul_le_mul (by omega) hm
    have h' : ((i.bytes * m : Nat) : Int) ≤ 281474976710656 := by omega
    rwa [Int.natCast_mul] at h'
  have hrun := run_make (P := Try.prog) w t e i z h1 h2 h3 .i64 .i64 (0 : Int) (m : Int) (by omega) (by omega) hbm (by omega)
  simp only [Int.toNat_natCast, Int.toNat_zero, h4] at hrun
  refine wpList_plain hg fun K hK' => ?_
  unfold Oper.wp
  simp [execOp, hop, hl, hc, hrun, Result.andThen]
  refine hK' _ _ (hK _ ⟨by simp, .inr ⟨w.heap.size, m, _, rfl, Nat.le_refl _, heap_alloc_new w _, Nat.zero_le _, by unfold maxLen; omega, ?_, by simp⟩⟩ ((Below.refl _ _).alloc (Nat.le_refl _) _))
  rw [size_madeCells]
def Rr.rowsL {α : Type} (f : Rr → α × Rr) : Nat → Rr → List α × Rr
  | 0, r => ([], r)
  | k + 1, r => ((Rr.rowsL f k r).1 ++ [(f (Rr.rowsL f k r).2).1], (f (Rr.rowsL f k r).2).2)
theorem rowsL_len {α : Type} (f : Rr → α × Rr) : ∀ (k : Nat) (r : Rr), (Rr.rowsL f k r).1.length = k
  | 0, _ => rfl
  | k + 1, r => by show (_ ++ [_]).length = _; rw [List.length_append, rowsL_len f k r]; rfl
def RowsPost {α : Type} (enc : α → List Value) (e k rb B : Nat) (w : World) (x : List α × Rr) (ed : Ending) (w' : World) : Prop :=
  ∃ A c, ed = .returned (.slice A x.1.length c) ∧ w'.ownsRow w.heap.size e k (.slice A x.1.length c) x.1.length (x.1.flatMap enc) ∧ RdrAt w' rb B x.2 ∧ Chg (fun g => g = rb) w w'
theorem own_chg {W W' : World} {X : Nat → Prop} {base e size n : Nat} {v : Value} {xs : List Value} (h : W.ownsRow base e size v n xs) (hc : Chg X W W') (hX : ∀ g cur fr, W.heap[g]? = some (.cells cur e fr) → base ≤ g → ¬ X g) : W'.ownsRow base e size v n xs := by
  refine ⟨h.1, ?_⟩
  rcases h.2 with h2 | ⟨g, cap, cur, hv, hb, hg, r⟩
  · exact .inl h2
  · exact .inr ⟨g, cap, cur, hv, hb, (hc.at_ (Array.getElem?_eq_some_iff.1 hg).1 (hX g cur _ hg hb)).trans hg, r⟩
theorem cp_ne {w : World} {rb B cp : Nat} {r : Rr} (h : RdrAt w rb B r) (hcp : w.heap[cp]? = some (.cells #[.pointer (some ⟨rb, 0, none⟩)] 55)) : cp ≠ rb := by
  rintro rfl
  obtain ⟨⟨A, n, c, h1, _⟩, _⟩ := h
  rw [hcp] at h1
  injection h1 with h1
  injection h1 with _ h2
  exact absurd h2 (by decide)
theorem rdr_fr {v v' : Value} {w w' : World} {rb B : Nat} {r : Rr} (hf : RowFr v w v' w') (h : RdrAt w rb B r) (hn : v.ownBlock = some rb → False) (hB : ∀ g, v.ownBlock = some g → B ≤ g) : RdrAt w' rb B r := by
  have hlt := h.lt
  obtain ⟨⟨A, n, c, h1, h2, h3⟩, hBr, h4⟩ := h
  exact ⟨⟨A, n, c, (hf.1.at_ hlt hn).trans h1, h2.below (hf.1.below (by omega) hB), h3⟩, hBr, h4⟩
theorem chg_fr {v v' : Value} {a w w' : World} {rb e k n : Nat} {xs : List Value} (h : Chg (fun g => g = rb) a w) (hf : RowFr v w v' w') (ho : w.ownsRow a.heap.size e k v n xs) : Chg (fun g => g = rb) a w' :=
  ⟨hf.1.os.trans h.os, hf.1.tape.trans h.tape, hf.1.output.trans h.output, Nat.le_trans h.size hf.1.size, fun i hi => (hf.1.block i ⟨Nat.lt_of_lt_of_le hi.1 h.size, fun e' => by
    have := (own_at ho i e').1
    have := hi.1
    omega⟩).trans (h.block i hi)⟩
def timeI (r : Rr) : Int × Rr := ((r.time.1 : Int), r.time.2)
set_option maxHeartbeats 4000000 in
theorem rows_lt (many rb B : Nat) (r : Rr) (w : World) (h : RdrAt w rb B r) (hm : many ≤ 100) :
    Calls Try.prog 27 #[.int .i64 many, .func (.func 28) #[.pointer (some ⟨rb, 0, none⟩)] #[]] w (RowsPost Lt.cells 61 3 rb B w (Rr.rowsL Rr.latch many r)) := by
  obtain ⟨i0, hi, hz0, hz1, hz2⟩ := info_parts info_lt
  have hmI : (many : Int) ≤ 100 := by omega
  have hrl := h.lt
  have H := Lib.hid h
  skip
  skip
  skip
  clear h 
  go_enter Try.func27, Try.ntmps27
  go_wp2_with (first
    | (with_reducible refine wpList_mkE (w := w) rfl (.const (.int .i64 0)) (.tmp 6) 22 rfl 61 i0 (.agg #[.bool false, .int .i64 0, .bool false]) 3 24 Try.underlying22 hi hz0 hz1 hz2 (by omega) many rfl rfl rfl (by omega) ?_
       intro w1 hown1 hb1
       have Hown1 := Lib.hid hown1
       have HB1 := Lib.hid hb1
       clear hown1 hb1))
  go_loopg [5, 9] many (fun kk l i wr => ∃ (j : Nat) (A : Option Addr) (c : Nat), kk + j = many ∧ i = .int .i64 j ∧ l = .slice A j c ∧ wr.ownsRow w.heap.size 61 3 (.slice A j c) j ((Rr.rowsL Rr.latch j r).1.flatMap Lt.cells) ∧ RdrAt wr rb B (Rr.rowsL Rr.latch j r).2 ∧ Chg (fun g => g = rb) w wr)
  case atStart => exact ⟨0, _, _, by omega, rfl, rfl, Hown1.out, H.out.below HB1.out, Chg.of HB1.out⟩
  case round =>
    obtain ⟨j, A, c, hj, rfl, rfl, hown, hrd, hcg⟩ := hrel
    by_cases hlt : j < many
    · have hi0 : (j : Int) < (many : Int) := by omega
      have hx : (Rr.latch (Rr.rowsL Rr.latch j r).2) = ((Rr.latch (Rr.rowsL Rr.latch j r).2).1, (Rr.latch (Rr.rowsL Rr.latch j r).2).2) := rfl
      obtain ⟨x, hxe⟩ : ∃ x, x = (Rr.latch (Rr.rowsL Rr.latch j r).2).1 := ⟨_, rfl⟩
      obtain ⟨r2, hr2e⟩ : ∃ r2, r2 = (Rr.latch (Rr.rowsL Rr.latch j r).2).2 := ⟨_, rfl⟩
      have hn1 : (Rr.rowsL Rr.latch (j + 1) r).1 = (Rr.rowsL Rr.latch j r).1 ++ [x] := by rw [hxe]; rfl
      have hn2 : (Rr.rowsL Rr.latch (j + 1) r).2 = r2 := by rw [hr2e]; rfl
      have hwz := hcg.size
      have Hown := Lib.hid hown
      have Hrd := Lib.hid hrd
      have Hcg := Lib.hid hcg
      have Hn1 := Lib.hid hn1
      have Hn2 := Lib.hid hn2
      have Hxe := Lib.hid hxe
      have Hr2e := Lib.hid hr2e
      skip
      clear hown hrd hcg hn1 hn2 hx hxe hr2e 
      go_wp2_with (first
        | (go_at_call 28; (with_reducible refine (latch_rd rb B _ _ Hrd.out).mono ?_)
           rintro e w2 ⟨he, hr2, hc2⟩
           have he : e = .returned (.agg #[.bool x.set, .int .i64 x.at_, .bool x.first]) := by rw [Hxe.out]; exact he
           subst he
           have hr2' : RdrAt w2 rb B r2 := by rw [Hr2e.out]; exact hr2
           have HR2 := Lib.hid hr2'
           have HO2 := Lib.hid (own_chg Hown.out hc2 (fun g cur fr hg hge => by intro e; have e' : g = rb := e; omega))
           have HC2 := Lib.hid (Hcg.out.trans hc2)
           have HSz2 : Hid (w.heap.size ≤ w2.heap.size) := Nat.le_trans hwz hc2.size
           skip
           clear hr2 hc2 hr2')
        | (with_reducible refine wpList_el (w0 := w2) rfl (.tmp 11) (.tmp 14) 22 61 i0 (.agg #[.bool false, .int .i64 0, .bool false]) 3 24 Try.underlying22 hi hz0 hz1 hz2 rfl (by omega) (by omega) rfl w.heap.size (.slice A j c) j _ HO2.out rfl #[.bool x.set, .int .i64 x.at_, .bool x.first] rfl rfl ?hone rfl (by omega) HSz2.out ?_
           case hone => intro u hu; simp at hu; rcases hu with rfl | rfl | rfl <;> rfl
           intro v3 w3 hown3 hf3
           obtain ⟨A3, c3, rfl⟩ := own_shape hown3
           have hn3 : (fun g => (Value.slice A j c).ownBlock = some g) rb → False := fun e => by
             have := own_at HO2.out rb e
             omega
           have HO3 := Lib.hid hown3
           have HR3 := Lib.hid (rdr_fr hf3 HR2.out hn3 (fun g e => by have := (own_at HO2.out g e).1; have := HR2.out.2.1; omega))
           have HC3 := Lib.hid (chg_fr HC2.out hf3 HO2.out)
           skip
           clear hown3 hf3 hn3))
      go_roundg (gk - 1)
      case measure => omega
      case rel =>
        refine ⟨j + 1, A3, c3, by omega, by go_num, rfl, ?_, ?_, HC3.out⟩
        · rw [Hn1.out, List.flatMap_append, List.flatMap_cons, List.flatMap_nil, List.append_nil]
          exact HO3.out
        · rw [Hn2.out]; exact HR3.out
    · obtain rfl : j = many := by omega
      have hlen := rowsL_len Rr.latch j r
      have hi0 : ¬ (j : Int) < (j : Int) := by omega
      have Hown := Lib.hid hown
      have Hrd := Lib.hid hrd
      have Hcg := Lib.hid hcg
      have Hlen := Lib.hid hlen
      clear hown hrd hcg hlen
      go_wp2_with fail
      go_ret
      exact ⟨A, c, by rw [Hlen.out]; rfl, by rw [Hlen.out]; exact Hown.out, Hrd.out, Hcg.out⟩
set_option maxHeartbeats 4000000 in
theorem rows_time (many rb B : Nat) (r : Rr) (w : World) (h : RdrAt w rb B r) (hm : many ≤ 100) :
    Calls Try.prog 29 #[.int .i64 many, .func (.func 30) #[.pointer (some ⟨rb, 0, none⟩)] #[]] w (RowsPost ivw 2 1 rb B w (Rr.rowsL timeI many r)) := by
  obtain ⟨i0, hi, hz0, hz1, hz2⟩ := info_parts info_i64
  have hmI : (many : Int) ≤ 100 := by omega
  have hrl := h.lt
  have H := Lib.hid h
  skip
  skip
  skip
  clear h 
  go_enter Try.func29, Try.ntmps29
  go_wp2_with (first
    | (with_reducible refine wpList_mkE (w := w) rfl (.const (.int .i64 0)) (.tmp 6) 23 rfl 2 i0 (.int .i64 0) 1 8 Try.underlying23 hi hz0 hz1 hz2 (by omega) many rfl rfl rfl (by omega) ?_
       intro w1 hown1 hb1
       have Hown1 := Lib.hid hown1
       have HB1 := Lib.hid hb1
       clear hown1 hb1))
  go_loopg [5, 9] many (fun kk l i wr => ∃ (j : Nat) (A : Option Addr) (c : Nat), kk + j = many ∧ i = .int .i64 j ∧ l = .slice A j c ∧ wr.ownsRow w.heap.size 2 1 (.slice A j c) j ((Rr.rowsL timeI j r).1.flatMap ivw) ∧ RdrAt wr rb B (Rr.rowsL timeI j r).2 ∧ Chg (fun g => g = rb) w wr)
  case atStart => exact ⟨0, _, _, by omega, rfl, rfl, Hown1.out, H.out.below HB1.out, Chg.of HB1.out⟩
  case round =>
    obtain ⟨j, A, c, hj, rfl, rfl, hown, hrd, hcg⟩ := hrel
    by_cases hlt : j < many
    · have hi0 : (j : Int) < (many : Int) := by omega
      have hx : (timeI (Rr.rowsL timeI j r).2) = ((timeI (Rr.rowsL timeI j r).2).1, (timeI (Rr.rowsL timeI j r).2).2) := rfl
      obtain ⟨x, hxe⟩ : ∃ x, x = (timeI (Rr.rowsL timeI j r).2).1 := ⟨_, rfl⟩
      obtain ⟨r2, hr2e⟩ : ∃ r2, r2 = (timeI (Rr.rowsL timeI j r).2).2 := ⟨_, rfl⟩
      have hn1 : (Rr.rowsL timeI (j + 1) r).1 = (Rr.rowsL timeI j r).1 ++ [x] := by rw [hxe]; rfl
      have hn2 : (Rr.rowsL timeI (j + 1) r).2 = r2 := by rw [hr2e]; rfl
      have hwz := hcg.size
      have Hown := Lib.hid hown
      have Hrd := Lib.hid hrd
      have Hcg := Lib.hid hcg
      have Hn1 := Lib.hid hn1
      have Hn2 := Lib.hid hn2
      have Hxe := Lib.hid hxe
      have Hr2e := Lib.hid hr2e
      skip
      clear hown hrd hcg hn1 hn2 hx hxe hr2e 
      go_wp2_with (first
        | (go_at_call 30; (with_reducible refine (time_rd rb B _ _ Hrd.out).mono ?_)
           rintro e w2 ⟨he, hr2, hc2⟩
           have he : e = .returned (.int .i64 x) := by rw [Hxe.out]; exact he
           subst he
           have hr2' : RdrAt w2 rb B r2 := by rw [Hr2e.out]; exact hr2
           have HR2 := Lib.hid hr2'
           have HO2 := Lib.hid (own_chg Hown.out hc2 (fun g cur fr hg hge => by intro e; have e' : g = rb := e; omega))
           have HC2 := Lib.hid (Hcg.out.trans hc2)
           have HSz2 : Hid (w.heap.size ≤ w2.heap.size) := Nat.le_trans hwz hc2.size
           skip
           clear hr2 hc2 hr2')
        | (with_reducible refine wpList_el (w0 := w2) rfl (.tmp 11) (.tmp 14) 23 2 i0 (.int .i64 0) 1 8 Try.underlying23 hi hz0 hz1 hz2 rfl (by omega) (by omega) rfl w.heap.size (.slice A j c) j _ HO2.out rfl #[.int .i64 x] rfl rfl ?hone rfl (by omega) HSz2.out ?_
           case hone => intro u hu; simp at hu; rw [hu]; rfl
           intro v3 w3 hown3 hf3
           obtain ⟨A3, c3, rfl⟩ := own_shape hown3
           have hn3 : (fun g => (Value.slice A j c).ownBlock = some g) rb → False := fun e => by
             have := own_at HO2.out rb e
             omega
           have HO3 := Lib.hid hown3
           have HR3 := Lib.hid (rdr_fr hf3 HR2.out hn3 (fun g e => by have := (own_at HO2.out g e).1; have := HR2.out.2.1; omega))
           have HC3 := Lib.hid (chg_fr HC2.out hf3 HO2.out)
           skip
           clear hown3 hf3 hn3))
      go_roundg (gk - 1)
      case measure => omega
      case rel =>
        refine ⟨j + 1, A3, c3, by omega, by go_num, rfl, ?_, ?_, HC3.out⟩
        · rw [Hn1.out, List.flatMap_append, List.flatMap_cons, List.flatMap_nil, List.append_nil]
          exact HO3.out
        · rw [Hn2.out]; exact HR3.out
    · obtain rfl : j = many := by omega
      have hlen := rowsL_len timeI j r
      have hi0 : ¬ (j : Int) < (j : Int) := by omega
      have Hown := Lib.hid hown
      have Hrd := Lib.hid hrd
      have Hcg := Lib.hid hcg
      have Hlen := Lib.hid hlen
      clear hown hrd hcg hlen
      go_wp2_with fail
      go_ret
      exact ⟨A, c, by rw [Hlen.out]; rfl, by rw [Hlen.out]; exact Hown.out, Hrd.out, Hcg.out⟩
set_option maxHeartbeats 4000000 in
theorem rows_nt (many rb B : Nat) (r : Rr) (w : World) (h : RdrAt w rb B r) (hm : many ≤ 100) (cp : Nat) (hcp : w.heap[cp]? = some (.cells #[.pointer (some ⟨rb, 0, none⟩)] 55)) :
    Calls Try.prog 31 #[.int .i64 many, .func (.func 32) #[] #[.pointer (some ⟨cp, 0, none⟩)]] w (RowsPost Nt.cells 54 3 rb B w (Rr.rowsL Rr.note many r)) := by
  obtain ⟨i0, hi, hz0, hz1, hz2⟩ := info_parts info_nt
  have hmI : (many : Int) ≤ 100 := by omega
  have hrl := h.lt
  have H := Lib.hid h
  have HCP := Lib.hid hcp
  have hcl := (Array.getElem?_eq_some_iff.1 hcp).1
  have hcr : cp ≠ rb := cp_ne h hcp
  clear h hcp
  go_enter Try.func31, Try.ntmps31
  go_wp2_with (first
    | (with_reducible refine wpList_mkE (w := w) rfl (.const (.int .i64 0)) (.tmp 6) 26 rfl 54 i0 (.agg #[.int .i64 0, .int .i64 0, .int .i64 0]) 3 24 Try.underlying26 hi hz0 hz1 hz2 (by omega) many rfl rfl rfl (by omega) ?_
       intro w1 hown1 hb1
       have Hown1 := Lib.hid hown1
       have HB1 := Lib.hid hb1
       clear hown1 hb1))
  go_loopg [5, 9] many (fun kk l i wr => ∃ (j : Nat) (A : Option Addr) (c : Nat), kk + j = many ∧ i = .int .i64 j ∧ l = .slice A j c ∧ wr.ownsRow w.heap.size 54 3 (.slice A j c) j ((Rr.rowsL Rr.note j r).1.flatMap Nt.cells) ∧ RdrAt wr rb B (Rr.rowsL Rr.note j r).2 ∧ Chg (fun g => g = rb) w wr ∧ wr.heap[cp]? = some (.cells #[.pointer (some ⟨rb, 0, none⟩)] 55))
  case atStart => exact ⟨0, _, _, by omega, rfl, rfl, Hown1.out, H.out.below HB1.out, Chg.of HB1.out, (HB1.out.block cp hcl).trans HCP.out⟩
  case round =>
    obtain ⟨j, A, c, hj, rfl, rfl, hown, hrd, hcg, hcq⟩ := hrel
    by_cases hlt : j < many
    · have hi0 : (j : Int) < (many : Int) := by omega
      have hx : (Rr.note (Rr.rowsL Rr.note j r).2) = ((Rr.note (Rr.rowsL Rr.note j r).2).1, (Rr.note (Rr.rowsL Rr.note j r).2).2) := rfl
      obtain ⟨x, hxe⟩ : ∃ x, x = (Rr.note (Rr.rowsL Rr.note j r).2).1 := ⟨_, rfl⟩
      obtain ⟨r2, hr2e⟩ : ∃ r2, r2 = (Rr.note (Rr.rowsL Rr.note j r).2).2 := ⟨_, rfl⟩
      have hn1 : (Rr.rowsL Rr.note (j + 1) r).1 = (Rr.rowsL Rr.note j r).1 ++ [x] := by rw [hxe]; rfl
      have hn2 : (Rr.rowsL Rr.note (j + 1) r).2 = r2 := by rw [hr2e]; rfl
      have hwz := hcg.size
      have Hown := Lib.hid hown
      have Hrd := Lib.hid hrd
      have Hcg := Lib.hid hcg
      have Hn1 := Lib.hid hn1
      have Hn2 := Lib.hid hn2
      have Hxe := Lib.hid hxe
      have Hr2e := Lib.hid hr2e
      have HCq := Lib.hid hcq
      clear hown hrd hcg hn1 hn2 hx hxe hr2e hcq
      go_wp2_with (first
        | (go_at_call 32; (with_reducible refine (note_rd cp rb B _ _ Hrd.out HCq.out).mono ?_)
           rintro e w2 ⟨he, hr2, hc2⟩
           have he : e = .returned (.agg #[.int .i64 x.kind, .int .i64 x.who, .int .i64 x.at_]) := by rw [Hxe.out]; exact he
           subst he
           have hr2' : RdrAt w2 rb B r2 := by rw [Hr2e.out]; exact hr2
           have HR2 := Lib.hid hr2'
           have HO2 := Lib.hid (own_chg Hown.out hc2 (fun g cur fr hg hge => by intro e; have e' : g = rb := e; omega))
           have HC2 := Lib.hid (Hcg.out.trans hc2)
           have HSz2 : Hid (w.heap.size ≤ w2.heap.size) := Nat.le_trans hwz hc2.size
           have HQ2 := Lib.hid ((hc2.at_ (Array.getElem?_eq_some_iff.1 HCq.out).1 hcr).trans HCq.out)
           clear hr2 hc2 hr2')
        | (with_reducible refine wpList_el (w0 := w2) rfl (.tmp 11) (.tmp 14) 26 54 i0 (.agg #[.int .i64 0, .int .i64 0, .int .i64 0]) 3 24 Try.underlying26 hi hz0 hz1 hz2 rfl (by omega) (by omega) rfl w.heap.size (.slice A j c) j _ HO2.out rfl #[.int .i64 x.kind, .int .i64 x.who, .int .i64 x.at_] rfl rfl ?hone rfl (by omega) HSz2.out ?_
           case hone => intro u hu; simp at hu; rcases hu with rfl | rfl | rfl <;> rfl
           intro v3 w3 hown3 hf3
           obtain ⟨A3, c3, rfl⟩ := own_shape hown3
           have hn3 : (fun g => (Value.slice A j c).ownBlock = some g) rb → False := fun e => by
             have := own_at HO2.out rb e
             omega
           have HO3 := Lib.hid hown3
           have HR3 := Lib.hid (rdr_fr hf3 HR2.out hn3 (fun g e => by have := (own_at HO2.out g e).1; have := HR2.out.2.1; omega))
           have HC3 := Lib.hid (chg_fr HC2.out hf3 HO2.out)
           have HQ3 := Lib.hid ((hf3.1.at_ (Array.getElem?_eq_some_iff.1 HQ2.out).1 (fun e => by have := own_at HO2.out cp e; omega)).trans HQ2.out)
           clear hown3 hf3 hn3))
      go_roundg (gk - 1)
      case measure => omega
      case rel =>
        refine ⟨j + 1, A3, c3, by omega, by go_num, rfl, ?_, ?_, HC3.out, HQ3.out⟩
        · rw [Hn1.out, List.flatMap_append, List.flatMap_cons, List.flatMap_nil, List.append_nil]
          exact HO3.out
        · rw [Hn2.out]; exact HR3.out
    · obtain rfl : j = many := by omega
      have hlen := rowsL_len Rr.note j r
      have hi0 : ¬ (j : Int) < (j : Int) := by omega
      have Hown := Lib.hid hown
      have Hrd := Lib.hid hrd
      have Hcg := Lib.hid hcg
      have Hlen := Lib.hid hlen
      clear hown hrd hcg hlen
      go_wp2_with fail
      go_ret
      exact ⟨A, c, by rw [Hlen.out]; rfl, by rw [Hlen.out]; exact Hown.out, Hrd.out, Hcg.out⟩
end Go.Proofs.Ytcdgaeenfhpnkaa
