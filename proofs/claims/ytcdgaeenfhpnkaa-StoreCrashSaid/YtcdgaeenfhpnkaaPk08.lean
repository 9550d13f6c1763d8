/- Package log: records. -/
import Derived.Test.YtcdgaeenfhpnkaaPk07
import Derived.RangeFuncBox
set_option linter.unusedVariables false
set_option linter.unusedSimpArgs false
set_option maxRecDepth 100000
namespace Go.Proofs.Ytcdgaeenfhpnkaa
open Go Go.RowKit CrcMath
attribute [local go_sem] Oper.semAt_some

theorem pieces_any (p : Nat) (fr many : Nat) (w : World) (h : fr ≤ 1000 ∧ many ≤ 1000) :
    Calls Try.prog 81 #[.pointer (some ⟨p, 0, none⟩), .int .i64 fr, .int .i64 many] w fun e w' =>
      e = .returned (.func (.func 92) #[] #[.pointer (some ⟨w.heap.size + 2, 0, none⟩), .pointer (some ⟨w.heap.size, 0, none⟩), .pointer (some ⟨w.heap.size + 1, 0, none⟩)]) ∧
      w' = ((w.alloc (.cells #[.pointer (some ⟨p, 0, none⟩)] 36)).alloc (.cells #[.int .i64 fr] 3)).alloc (.cells #[.int .i64 many] 3) := by
  go_enter Try.func81, Try.ntmps81
  go_wp2_with fail
  go_ret
  exact ⟨rfl, rfl⟩
/-! ### the walk of records: what its variables hold -/
theorem own_max {w : World} {base e size n c : Nat} {A : Option Addr} {xs : List Value} (h : w.ownsRow base e size (.slice A n c) n xs) : n ≤ c ∧ c ≤ maxLen := by
  rcases h.2 with ⟨hv, h0⟩ | ⟨g, cap, cur, hv, _, _, hnc, hm, _⟩
  · injection hv with _ h2 h3
    subst h2 h3
    simp [maxLen]
  · injection hv with _ _ h3
    subst h3
    exact ⟨hnc, hm⟩
theorem rows_ne {w : World} {b b' e e' z z' n n' : Nat} {v v' : Value} {xs xs' : List Value} (h : w.ownsRow b e z v n xs) (h' : w.ownsRow b' e' z' v' n' xs') (hne : e ≠ e') : v.ownBlock = none ∨ v.ownBlock ≠ v'.ownBlock := by
  rcases h.2 with ⟨rfl, _⟩ | ⟨g, cap, cur, rfl, _, hg, _⟩
  · exact .inl rfl
  · refine .inr fun e0 => ?_
    rcases h'.2 with ⟨rfl, _⟩ | ⟨g', cap', cur', rfl, _, hg', _⟩
    · simp [Value.ownBlock] at e0
    · have : g = g' := by simpa [Value.ownBlock] using e0
      subst this
      rw [hg] at hg'
      injection hg' with hg'
      injection hg' with _ h2
      exact hne h2
theorem Rd.put {w : World} {B k n : Nat} {A : Option Addr} {xs : List Value} {o : Obj} (o' : Obj) (h : Rd w B 1 A n xs) (hk : w.heap[k]? = some o) (ho : o.isCells = false) : Rd (w.putObj k o') B 1 A n xs :=
  ⟨h.1, fun hn => by
    obtain ⟨b, of, e, hb, hc⟩ := h.2 hn
    exact ⟨b, of, e, hb, fun j u hu => cell_kept (hc j u hu) (grownBy_putObj' w k o') (fun r e => by cases e; exact ⟨o, hk, ho⟩)⟩⟩
theorem boxed_put {w : World} {b k t : Nat} {v : Value} {o : Obj} (o' : Obj) (h : Boxed w b t v) (hk : w.heap[k]? = some o) (ho : o.isCells = false) : Boxed (w.putObj k o') b t v :=
  h.kept (grownBy_putObj' w k o') (fun e => by
    injection e with e
    subst e
    rw [show w.heap[b]? = _ from h] at hk
    injection hk with hk
    subst hk
    cases ho)
theorem boxed_below {w w' : World} {b t : Nat} {v : Value} (h : Boxed w b t v) (hb : Below w.heap.size w w') : Boxed w' b t v := (hb.block b h.lt).trans h
theorem below_put {B : Nat} {w w' : World} {k : Nat} (o' : Obj) (h : Below B w w') (hk : B ≤ k) (hs : B ≤ w'.heap.size) : Below B w (w'.putObj k o') :=
  h.grown (grownBy_putObj' w' k o') hs (fun j e => by cases e; exact hk)

/-- an element: readable, and in a block of bytes between base and Bo -/
def Elem (W : World) (base Bo : Nat) (A : Option Addr) (n : Nat) (r : List Nat) : Prop :=
  Rd W Bo 1 A n (r.map bv) ∧ (0 < n → ∃ g o cur, A = some ⟨g, o, none⟩ ∧ base ≤ g ∧ g < Bo ∧ W.heap[g]? = some (.cells cur 5))
theorem Elem.of {W W' : World} {base Bo n : Nat} {A : Option Addr} {r : List Nat} (h : Elem W base Bo A n r) (hk : ∀ g cur, W.heap[g]? = some (.cells cur 5) → base ≤ g → g < Bo → W'.heap[g]? = W.heap[g]?) : Elem W' base Bo A n r := by
  obtain ⟨h1, h2⟩ := h
  refine ⟨⟨h1.1, fun hn => ?_⟩, fun hn => ?_⟩
  · obtain ⟨b, o, e, hlt, hc⟩ := h1.2 hn
    obtain ⟨g, o', cur, e', k1, k2, k3⟩ := h2 hn
    rw [e] at e'
    injection e' with e'
    injection e' with e1 e2
    subst e1
    exact ⟨b, o, e, hlt, fun j u hu => (World.cell?_of_block (hk b cur k3 k1 k2)).trans (hc j u hu)⟩
  · obtain ⟨g, o', cur, e', k1, k2, k3⟩ := h2 hn
    exact ⟨g, o', cur, e', k1, k2, (hk g cur k3 k1 k2).trans k3⟩
theorem Elem.more {W : World} {base Bo Bo' n : Nat} {A : Option Addr} {r : List Nat} (h : Elem W base Bo A n r) (hB : Bo ≤ Bo') : Elem W base Bo' A n r :=
  ⟨h.1.more hB, fun hn => by obtain ⟨g, o, cur, e, k1, k2, k3⟩ := h.2 hn; exact ⟨g, o, cur, e, k1, Nat.lt_of_lt_of_le k2 hB, k3⟩⟩
theorem Elem.less {W : World} {base base' Bo n : Nat} {A : Option Addr} {r : List Nat} (h : Elem W base Bo A n r) (hB : base' ≤ base) : Elem W base' Bo A n r :=
  ⟨h.1, fun hn => by obtain ⟨g, o, cur, e, k1, k2, k3⟩ := h.2 hn; exact ⟨g, o, cur, e, Nat.le_trans hB k1, k2, k3⟩⟩
/-- a slice of slices that the call owns -/
def OutOk (W : World) (base Bo : Nat) (v : Value) (out : List (List Nat)) : Prop :=
  ∃ vs : List Value, W.ownsRow base 27 1 v out.length vs ∧ ∀ (j : Nat) (r : List Nat), out[j]? = some r → ∃ A n cc, vs[j]? = some (.slice A n cc) ∧ n ≤ cc ∧ cc ≤ maxLen ∧ Elem W base Bo A n r
theorem OutOk.keep {W W' : World} {base Bo : Nat} {v : Value} {out : List (List Nat)} (h : OutOk W base Bo v out) (h1 : ∀ n xs, W.ownsRow base 27 1 v n xs → W'.ownsRow base 27 1 v n xs)
    (h2 : ∀ g cur, W.heap[g]? = some (.cells cur 5) → base ≤ g → g < Bo → W'.heap[g]? = W.heap[g]?) : OutOk W' base Bo v out := by
  obtain ⟨vs, g1, g2⟩ := h
  refine ⟨vs, h1 _ _ g1, fun j r hj => ?_⟩
  obtain ⟨A, n, cc, e, a, b, hr⟩ := g2 j r hj
  exact ⟨A, n, cc, e, a, b, hr.of h2⟩
theorem OutOk.below {W W' : World} {base Bo : Nat} {v : Value} {out : List (List Nat)} (h : OutOk W base Bo v out) (hb : Below W.heap.size W W') (hB : Bo ≤ W.heap.size) : OutOk W' base Bo v out :=
  h.keep (fun _ _ h1 => own_below h1 hb) (fun g _ _ _ hg => hb.block g (by omega))
theorem OutOk.put {W : World} {base Bo k : Nat} {v : Value} {out : List (List Nat)} {o : Obj} (o' : Obj) (h : OutOk W base Bo v out) (hk : W.heap[k]? = some o) (ho : o.isCells = false) : OutOk (W.putObj k o') base Bo v out :=
  h.keep (fun _ _ h1 => ownsRow_putObj h1 o' hk ho) (fun g cur hc _ _ => World.putObj_heap_other (fun e => by
    subst e
    rw [hc] at hk
    injection hk with hk
    subst hk
    cases ho))
theorem own_set {W : World} {base e n b : Nat} {v u : Value} {xs : List Value} (h : W.ownsRow base e 1 v n xs) (hb : b < base) : (W.setCell ⟨b, 0, none⟩ u).ownsRow base e 1 v n xs := by
  refine h.kept (grownBy_setCell' W b u) ?_
  rcases h.2 with ⟨rfl, _⟩ | ⟨g, cap, cur, rfl, hg, _⟩
  · exact .inl rfl
  · exact .inr (by simp [Value.ownBlock]; omega)
theorem OutOk.set {W : World} {base Bo b : Nat} {v u : Value} {out : List (List Nat)} (h : OutOk W base Bo v out) (hb : b < base) : OutOk (W.setCell ⟨b, 0, none⟩ u) base Bo v out :=
  h.keep (fun _ _ h1 => own_set h1 hb) (fun g _ _ hg _ => Below.heap_setCell _ _ _ _ (by show g ≠ b; omega))
theorem OutOk.more {W : World} {base Bo Bo' : Nat} {v : Value} {out : List (List Nat)} (h : OutOk W base Bo v out) (hB : Bo ≤ Bo') : OutOk W base Bo' v out := by
  obtain ⟨vs, h1, h2⟩ := h
  refine ⟨vs, h1, fun j r hj => ?_⟩
  obtain ⟨A, n, cc, e, a, b, hr⟩ := h2 j r hj
  exact ⟨A, n, cc, e, a, b, hr.more hB⟩
theorem OutOk.less {W : World} {base base' Bo : Nat} {v : Value} {out : List (List Nat)} (h : OutOk W base Bo v out) (hB : base' ≤ base) : OutOk W base' Bo v out := by
  obtain ⟨vs, h1, h2⟩ := h
  refine ⟨vs, own_base h1 hB, fun j r hj => ?_⟩
  obtain ⟨A, n, cc, e, a, b, hr⟩ := h2 j r hj
  exact ⟨A, n, cc, e, a, b, hr.less hB⟩
/-- bounds on what has come of so many pieces -/
structure RS.small (st : RS) (m : Nat) : Prop where
  out : st.out.length ≤ m
  record : st.record.length ≤ 56 * m
  taken : st.taken ≤ 8 * m
  which : st.which ≤ m
  of8 : st.of_ ≤ 8
  turn : st.turn < 65536
/-- the six variables -/
structure RcI (w W : World) (st : RS) (m : Nat) : Prop where
  bel : Below w.heap.size w W
  sz : w.heap.size + 1 + 1 + 1 + 1 + 1 + 1 + 1 + 1 + 1 ≤ W.heap.size
  sm : st.small m
  own : ∃ (Bo : Nat) (v9 v10 : Value), Boxed W w.heap.size 84 v9 ∧ Boxed W (w.heap.size + 1) 27 v10 ∧ OutOk W (w.heap.size + 1 + 1 + 1 + 1 + 1 + 1 + 1 + 1 + 1) Bo v9 st.out ∧ W.ownsRow Bo 5 1 v10 st.record.length (st.record.map bv) ∧ w.heap.size + 1 + 1 + 1 + 1 + 1 + 1 + 1 + 1 + 1 ≤ Bo ∧ Bo ≤ W.heap.size
  x2 : Boxed W (w.heap.size + 1 + 1) 3 (.int .i64 st.turn)
  x3 : Boxed W (w.heap.size + 1 + 1 + 1) 3 (.int .i64 st.taken)
  x4 : Boxed W (w.heap.size + 1 + 1 + 1 + 1) 3 (.int .i64 st.which)
  x5 : Boxed W (w.heap.size + 1 + 1 + 1 + 1 + 1) 3 (.int .i64 st.of_)
theorem RcI.below {w W W' : World} {st : RS} {m : Nat} (h : RcI w W st m) (hb : Below W.heap.size W W') : RcI w W' st m := by
  obtain ⟨Bo, v9, v10, b9, b10, ho, hr, l1, l2⟩ := h.own
  exact ⟨h.bel.trans (hb.mono h.bel.size), Nat.le_trans h.sz hb.size, h.sm, ⟨Bo, v9, v10, boxed_below b9 hb, boxed_below b10 hb, ho.below hb l2, own_below hr hb, l1, Nat.le_trans l2 hb.size⟩, boxed_below h.x2 hb, boxed_below h.x3 hb, boxed_below h.x4 hb, boxed_below h.x5 hb⟩
theorem RcI.put {w W : World} {st : RS} {m k : Nat} {o : Obj} (o' : Obj) (h : RcI w W st m) (hB : w.heap.size ≤ k) (hk : W.heap[k]? = some o) (ho : o.isCells = false) : RcI w (W.putObj k o') st m := by
  obtain ⟨Bo, v9, v10, b9, b10, h9, h10, l1, l2⟩ := h.own
  have hsz : W.heap.size ≤ (W.putObj k o').heap.size := (grownBy_putObj' W k o').size
  exact ⟨below_put o' h.bel hB h.bel.size, Nat.le_trans h.sz hsz, h.sm, ⟨Bo, v9, v10, boxed_put o' b9 hk ho, boxed_put o' b10 hk ho, h9.put o' hk ho, ownsRow_putObj h10 o' hk ho, l1, Nat.le_trans l2 hsz⟩, boxed_put o' h.x2 hk ho, boxed_put o' h.x3 hk ho, boxed_put o' h.x4 hk ho, boxed_put o' h.x5 hk ho⟩
def RunTo (pre : List PX) (st : RS) : Prop := ∀ rest, RS.zero.steps (pre.map (·.1) ++ rest) = st.steps rest
theorem RunTo.snoc {pre : List PX} {st : RS} {x : PX} (h : RunTo pre st) (hg : (st.step x.1).2 = true) : RunTo (pre ++ [x]) (st.step x.1).1 := fun rest => by
  have := h (x.1 :: rest)
  rw [List.map_append, List.append_assoc]
  show RS.zero.steps (pre.map (·.1) ++ x.1 :: rest) = _
  rw [this, RS.steps, if_pos hg]
theorem RunTo.stop {pre : List PX} {st : RS} {x : PX} (h : RunTo pre st) (hg : (st.step x.1).2 = false) (rest : List Pc) : RS.zero.steps ((pre ++ [x]).map (·.1) ++ rest) = (st.step x.1).1 := by
  have := h (x.1 :: rest)
  rw [List.map_append, List.append_assoc]
  show RS.zero.steps (pre.map (·.1) ++ x.1 :: rest) = _
  rw [this, RS.steps, if_neg (by rw [hg]; simp)]
theorem told_len : ∀ S : List (List Nat), (told S).length ≤ S.length
  | [] => Nat.le_refl _
  | s :: r => by
    unfold told
    cases h : tellF s with
    | none => simp
    | some p => simp only [List.length_cons]; have := told_len r; omega
theorem told_mem : ∀ (S : List (List Nat)) (p : Pc), p ∈ told S → ∃ s ∈ S, tellF s = some p
  | [], p, h => by simp [told] at h
  | s :: r, p, h => by
    unfold told at h
    cases ht : tellF s with
    | none => rw [ht] at h; simp at h
    | some p' =>
      rw [ht] at h
      rcases List.mem_cons.1 h with rfl | h
      · exact ⟨s, by simp, ht⟩
      · obtain ⟨s', h1, h2⟩ := told_mem r p h
        exact ⟨s', by simp [h1], h2⟩
structure Pc.fine (p : Pc) : Prop where
  t0 : 0 < p.turn
  t1 : p.turn < 65536
  o8 : p.of_ ≤ 8
  w : p.which < p.of_
  b0 : 0 < p.bytes.length
  b1 : p.bytes.length ≤ 56
theorem tell_fine (s : List Nat) (p : Pc) (hb : ∀ x ∈ s, x < 256) (hl : s.length = 64) (h : tellF s = some p) : p.fine := by
  unfold tellF at h
  split at h
  · have lt : ∀ i, (s.take 62).getD i 0 < 256 := fun i => by
      rw [List.getD_eq_getElem?_getD]
      cases h : (s.take 62)[i]? with
      | none => show 0 < 256; omega
      | some x => exact hb x (List.mem_of_mem_take (List.mem_of_getElem? h))
    have l1 := lt 1
    have l2 := lt 2
    unfold tellB at h
    split at h
    · cases h
    split at h
    · cases h
    rename_i k1
    split at h
    · cases h
    split at h
    · injection h with h
      subst h
      refine ⟨by show 0 < _ * 256 + _; omega, by show _ * 256 + _ < 65536; omega, by dsimp only; omega, by dsimp only; omega, ?_, ?_⟩
      · simp only [List.length_take, List.length_drop, hl]; omega
      · simp only [List.length_take, List.length_drop, hl]; omega
    · cases h
  · cases h

/-! ### the steps of a round -/
structure RStep (w W W' : World) : Prop where
  keeps : KeepsOthers W W'
  kept : Kept (fun k => k < w.heap.size ∨ w.heap.size + 1 + 1 + 1 + 1 + 1 + 1 ≤ k ∧ k < w.heap.size + 1 + 1 + 1 + 1 + 1 + 1 + 1 + 1 + 1) W W'
theorem RStep.refl (w W : World) : RStep w W W := ⟨KeepsOthers.refl W, Kept.refl _ W⟩
theorem RStep.trans {w A B C : World} (h : RStep w A B) (k : RStep w B C) : RStep w A C := ⟨h.keeps.trans k.keeps, h.kept.trans k.kept⟩
theorem RStep.set {w A B : World} (h : RStep w A B) {b : Nat} (u : Value) (h1 : w.heap.size ≤ b) (h2 : b < w.heap.size + 1 + 1 + 1 + 1 + 1 + 1) : RStep w A (B.setCell ⟨b, 0, none⟩ u) :=
  ⟨h.keeps.trans (KeepsOthers.setCell _ _ _), h.kept.setCell (p := ⟨b, 0, none⟩) (by simp; omega) u⟩
theorem RStep.alloc {w A B : World} (h : RStep w A B) (o : Obj) (hB : w.heap.size + 1 + 1 + 1 + 1 + 1 + 1 + 1 + 1 + 1 ≤ B.heap.size) : RStep w A (B.alloc o) :=
  ⟨h.keeps.trans (KeepsOthers.alloc _ _), h.kept.trans (Kept.of (B := B.heap.size) ((Below.refl _ _).alloc (Nat.le_refl _) _) (fun k hk => by omega))⟩
theorem RStep.grown {w A B C : World} (h : RStep w A B) {base e n : Nat} {v : Value} {xs : List Value} (ho : B.ownsRow base e 1 v n xs) (hg : B.grownBy C v.ownBlock) (hb : w.heap.size + 1 + 1 + 1 + 1 + 1 + 1 + 1 + 1 + 1 ≤ base) (hB : w.heap.size + 1 + 1 + 1 + 1 + 1 + 1 + 1 + 1 + 1 ≤ B.heap.size) : RStep w A C := by
  refine h.trans ⟨⟨hg.size, fun k o hk hc => ?_⟩, ⟨hg.os, hg.tape, hg.output, hg.size, fun k hk => hg.block k (by omega) (fun e => ?_)⟩⟩
  · refine (hg.block k (Array.getElem?_eq_some_iff.1 hk).1 (fun e => ?_)).trans hk
    rcases ho.2 with ⟨rfl, _⟩ | ⟨g, cap, cur, rfl, _, hgb, _⟩
    · simp [Value.ownBlock] at e
    · have : k = g := by simpa [Value.ownBlock] using e
      subst this
      rw [hgb] at hk
      injection hk with hk
      subst hk
      cases hc
  · rcases ho.2 with ⟨rfl, _⟩ | ⟨g, cap, cur, rfl, hg1, _⟩
    · simp [Value.ownBlock] at e
    · have : k = g := by simpa [Value.ownBlock] using e
      omega
theorem boxed_inj {w : World} {b t : Nat} {v v' : Value} (h : Boxed w b t v) (h' : Boxed w b t v') : v = v' := by
  have h1 := h.cell
  rw [h'.cell] at h1
  injection h1 with h1
  exact h1.symm
theorem own_ne {w : World} {base e n b : Nat} {v : Value} {xs : List Value} (h : w.ownsRow base e 1 v n xs) (hb : b < base) : some b ≠ v.ownBlock := by
  rcases h.2 with ⟨rfl, _⟩ | ⟨g, cap, cur, rfl, hg, _⟩
  · simp [Value.ownBlock]
  · intro e'
    have : b = g := by simpa [Value.ownBlock] using e'
    omega
theorem info_bs : (Try.prog.info? 27).map (fun i => (i.zero, i.size, i.bytes)) = some (some (.slice none 0 0), 1, 24) := by kernel_rfl
theorem RStep.mono {U : Nat → Prop} {w A B : World} (h : RStep w A B) (hU : ∀ k, U k → k < w.heap.size ∨ w.heap.size + 1 + 1 + 1 + 1 + 1 + 1 ≤ k ∧ k < w.heap.size + 1 + 1 + 1 + 1 + 1 + 1 + 1 + 1 + 1) : Kept U A B :=
  ⟨h.kept.os, h.kept.tape, h.kept.output, h.kept.size, fun k hk => h.kept.block k (hU k hk)⟩
/-- a number is stored in the last four variables -/
theorem RcI.bel_set {w W : World} {st : RS} {m b : Nat} (u : Value) (h : RcI w W st m) (hb : w.heap.size ≤ b) : Below w.heap.size w (W.setCell ⟨b, 0, none⟩ u) := h.bel.setCell (p := ⟨b, 0, none⟩) hb u
theorem RcI.own_set {w W : World} {st : RS} {m b : Nat} (u : Value) (h : RcI w W st m) (hb : w.heap.size + 1 < b) (hb2 : b < w.heap.size + 1 + 1 + 1 + 1 + 1 + 1) :
    ∃ (Bo : Nat) (v9 v10 : Value), Boxed (W.setCell ⟨b, 0, none⟩ u) w.heap.size 84 v9 ∧ Boxed (W.setCell ⟨b, 0, none⟩ u) (w.heap.size + 1) 27 v10 ∧ OutOk (W.setCell ⟨b, 0, none⟩ u) (w.heap.size + 1 + 1 + 1 + 1 + 1 + 1 + 1 + 1 + 1) Bo v9 st.out ∧ (W.setCell ⟨b, 0, none⟩ u).ownsRow Bo 5 1 v10 st.record.length (st.record.map bv) ∧ w.heap.size + 1 + 1 + 1 + 1 + 1 + 1 + 1 + 1 + 1 ≤ Bo ∧ Bo ≤ (W.setCell ⟨b, 0, none⟩ u).heap.size := by
  obtain ⟨Bo, v9, v10, b9, b10, h9, h10, l1, l2⟩ := h.own
  exact ⟨Bo, v9, v10, Boxed.other b9 (by omega) u, Boxed.other b10 (by omega) u, h9.set (by omega), Go.Proofs.Ytcdgaeenfhpnkaa.own_set h10 (by omega), l1, by simpa [World.setCell] using l2⟩
theorem size_set (W : World) (b : Nat) (u : Value) : (W.setCell ⟨b, 0, none⟩ u).heap.size = W.heap.size := by simp [World.setCell]
theorem RcI.set2 {w W : World} {st : RS} {m : Nat} (h : RcI w W st m) (v : Nat) (hv : v < 65536) : RcI w (W.setCell ⟨w.heap.size + 1 + 1, 0, none⟩ (.int .i64 v)) { st with turn := v } m :=
  ⟨h.bel_set _ (by omega), by rw [size_set]; exact h.sz, ⟨h.sm.out, h.sm.record, h.sm.taken, h.sm.which, h.sm.of8, hv⟩, h.own_set _ (by omega) (by omega), Boxed.set _ h.x2, Boxed.other h.x3 (by omega) _, Boxed.other h.x4 (by omega) _, Boxed.other h.x5 (by omega) _⟩
theorem RcI.set3 {w W : World} {st : RS} {m : Nat} (h : RcI w W st m) (v : Nat) (hv : v ≤ 8 * m) : RcI w (W.setCell ⟨w.heap.size + 1 + 1 + 1, 0, none⟩ (.int .i64 v)) { st with taken := v } m :=
  ⟨h.bel_set _ (by omega), by rw [size_set]; exact h.sz, ⟨h.sm.out, h.sm.record, hv, h.sm.which, h.sm.of8, h.sm.turn⟩, h.own_set _ (by omega) (by omega), Boxed.other h.x2 (by omega) _, Boxed.set _ h.x3, Boxed.other h.x4 (by omega) _, Boxed.other h.x5 (by omega) _⟩
theorem RcI.set4 {w W : World} {st : RS} {m : Nat} (h : RcI w W st m) (v : Nat) (hv : v ≤ m) : RcI w (W.setCell ⟨w.heap.size + 1 + 1 + 1 + 1, 0, none⟩ (.int .i64 v)) { st with which := v } m :=
  ⟨h.bel_set _ (by omega), by rw [size_set]; exact h.sz, ⟨h.sm.out, h.sm.record, h.sm.taken, hv, h.sm.of8, h.sm.turn⟩, h.own_set _ (by omega) (by omega), Boxed.other h.x2 (by omega) _, Boxed.other h.x3 (by omega) _, Boxed.set _ h.x4, Boxed.other h.x5 (by omega) _⟩
theorem RcI.set5 {w W : World} {st : RS} {m : Nat} (h : RcI w W st m) (v : Nat) (hv : v ≤ 8) : RcI w (W.setCell ⟨w.heap.size + 1 + 1 + 1 + 1 + 1, 0, none⟩ (.int .i64 v)) { st with of_ := v } m :=
  ⟨h.bel_set _ (by omega), by rw [size_set]; exact h.sz, ⟨h.sm.out, h.sm.record, h.sm.taken, h.sm.which, hv, h.sm.turn⟩, h.own_set _ (by omega) (by omega), Boxed.other h.x2 (by omega) _, Boxed.other h.x3 (by omega) _, Boxed.other h.x4 (by omega) _, Boxed.set _ h.x5⟩
theorem RcI.up {w W : World} {st : RS} {m m' : Nat} (h : RcI w W st m) (hm : m ≤ m') : RcI w W st m' :=
  ⟨h.bel, h.sz, ⟨by have := h.sm.out; omega, by have := h.sm.record; omega, by have := h.sm.taken; omega, by have := h.sm.which; omega, h.sm.of8, h.sm.turn⟩, h.own, h.x2, h.x3, h.x4, h.x5⟩
/-- bytes are put behind the record -/
theorem RcI.app {w W W' : World} {st : RS} {m Bo k : Nat} {v9 v10 v' : Value} {bs : List Nat} (h : RcI w W st m) (b9 : Boxed W w.heap.size 84 v9) (b10 : Boxed W (w.heap.size + 1) 27 v10) (h9 : OutOk W (w.heap.size + 1 + 1 + 1 + 1 + 1 + 1 + 1 + 1 + 1) Bo v9 st.out)
    (h10 : W.ownsRow Bo 5 1 v10 st.record.length (st.record.map bv)) (l1 : w.heap.size + 1 + 1 + 1 + 1 + 1 + 1 + 1 + 1 + 1 ≤ Bo) (l2 : Bo ≤ W.heap.size) (hn : W'.ownsRow Bo 5 1 v' (st.record.length + k) (st.record.map bv ++ bs.map bv)) (hk : bs.length = k) (hk2 : k ≤ 56) (hg : W.grownBy W' v10.ownBlock) :
    RcI w (W'.setCell ⟨w.heap.size + 1, 0, none⟩ v') { st with record := st.record ++ bs } (m + 1) := by
  have hrow : ∀ g, v10.ownBlock = some g → Bo ≤ g := fun g e => by
    rcases h10.2 with ⟨rfl, _⟩ | ⟨g', cap, cur, rfl, hb, _⟩
    · simp [Value.ownBlock] at e
    · have : g' = g := by simpa [Value.ownBlock] using e
      omega
  have bx : ∀ {b t : Nat} {u : Value}, b < w.heap.size + 1 + 1 + 1 + 1 + 1 + 1 + 1 + 1 + 1 → Boxed W b t u → Boxed W' b t u := fun hb hx => hx.kept hg (fun e => by have := hrow _ e.symm; omega)
  have hsz := hg.size
  have hs := h.sz
  refine ⟨(h.bel.grown hg h.bel.size (fun g e => by have := hrow _ e; omega)).setCell (p := ⟨w.heap.size + 1, 0, none⟩) (by simp) _, by rw [size_set]; omega,
    ⟨by have := h.sm.out; simp only; omega, by have := h.sm.record; simp only [List.length_append]; omega, by have := h.sm.taken; simp only; omega, by have := h.sm.which; simp only; omega, h.sm.of8, h.sm.turn⟩,
    ⟨Bo, v9, v', Boxed.other (bx (by omega) b9) (by omega) _, Boxed.set _ (bx (by omega) b10), ?_, ?_, l1, by rw [size_set]; omega⟩, Boxed.other (bx (by omega) h.x2) (by omega) _, Boxed.other (bx (by omega) h.x3) (by omega) _, Boxed.other (bx (by omega) h.x4) (by omega) _, Boxed.other (bx (by omega) h.x5) (by omega) _⟩
  · refine OutOk.set ?_ (by omega)
    refine h9.keep (fun n xs h1 => h1.kept hg (rows_ne h1 h10 (by decide))) (fun g _ _ _ hlt => hg.block g (by omega) (fun e => by have := hrow _ e.symm; omega))
  · have e : (st.record ++ bs).length = st.record.length + k := by rw [List.length_append, hk]
    show World.ownsRow _ Bo _ 1 v' (st.record ++ bs).length ((st.record ++ bs).map bv)
    rw [e, List.map_append]
    exact Go.Proofs.Ytcdgaeenfhpnkaa.own_set hn (by omega)
/-- the record is put behind the others -/
theorem RcI.put_out {w W W' : World} {st : RS} {m Bo n cc : Nat} {A : Option Addr} {v9 v' : Value} {vs : List Value} (h : RcI w W st m) (b9 : Boxed W w.heap.size 84 v9) (b10 : Boxed W (w.heap.size + 1) 27 (.slice A n cc))
    (h9 : OutOk W (w.heap.size + 1 + 1 + 1 + 1 + 1 + 1 + 1 + 1 + 1) Bo v9 st.out) (h10 : W.ownsRow Bo 5 1 (.slice A n cc) n (st.record.map bv)) (l1 : w.heap.size + 1 + 1 + 1 + 1 + 1 + 1 + 1 + 1 + 1 ≤ Bo) (l2 : Bo ≤ W.heap.size) (hv : W.ownsRow (w.heap.size + 1 + 1 + 1 + 1 + 1 + 1 + 1 + 1 + 1) 27 1 v9 st.out.length vs)
    (hvs : ∀ (j : Nat) (r : List Nat), st.out[j]? = some r → ∃ A n cc, vs[j]? = some (.slice A n cc) ∧ n ≤ cc ∧ cc ≤ maxLen ∧ Elem W (w.heap.size + 1 + 1 + 1 + 1 + 1 + 1 + 1 + 1 + 1) Bo A n r)
    (o : Obj) (hn : W'.ownsRow (w.heap.size + 1 + 1 + 1 + 1 + 1 + 1 + 1 + 1 + 1) 27 1 v' (st.out.length + 1) (vs ++ [.slice A n cc])) (hg : (W.alloc o).grownBy W' v9.ownBlock) (t' m' : Nat) (ht' : t' ≤ 8 * m') (ho' : st.out.length + 1 ≤ m') :
    RcI w ((((W'.setCell ⟨w.heap.size, 0, none⟩ v').setCell ⟨w.heap.size + 1 + 1 + 1, 0, none⟩ (.int .i64 t')).setCell ⟨w.heap.size + 1, 0, none⟩ (.slice none 0 0)).setCell ⟨w.heap.size + 1 + 1 + 1 + 1, 0, none⟩ (.int .i64 (0 : Nat))) { st with out := st.out ++ [st.record], record := [], taken := t', which := 0 } m' := by
  have hrow : ∀ g, v9.ownBlock = some g → w.heap.size + 1 + 1 + 1 + 1 + 1 + 1 + 1 + 1 + 1 ≤ g := fun g e => by
    rcases hv.2 with ⟨rfl, _⟩ | ⟨g', cap, cur, rfl, hb, _⟩
    · simp [Value.ownBlock] at e
    · have : g' = g := by simpa [Value.ownBlock] using e
      omega
  have hrn : st.record.length = n := by have := h10.1; simpa using this
  have hs := h.sz
  have hsz : W.heap.size + 1 ≤ W'.heap.size := by have := hg.size; rwa [World.size_alloc] at this
  have hal : Below W.heap.size W (W.alloc o) := (Below.refl _ _).alloc (Nat.le_refl _) _
  have bx : ∀ {b t : Nat} {u : Value}, b < w.heap.size + 1 + 1 + 1 + 1 + 1 + 1 + 1 + 1 + 1 → Boxed W b t u → Boxed W' b t u := fun hb hx => (hx.alloc o).kept hg (fun e => by have := hrow _ e.symm; omega)
  have hbel : Below w.heap.size w W' := (h.bel.trans (hal.mono h.bel.size)).grown hg (by rw [World.size_alloc]; omega) (fun g e => by have := hrow _ e; omega)
  have hrd : Elem W' (w.heap.size + 1 + 1 + 1 + 1 + 1 + 1 + 1 + 1 + 1) W'.heap.size A n st.record := by
    have h10a := own_below h10 hal
    have h10' : W'.ownsRow Bo 5 1 (.slice A n cc) n (st.record.map bv) := h10a.kept hg (rows_ne h10a (own_below hv hal) (by decide))
    refine ⟨Rd.of_own h10', fun hn0 => ?_⟩
    rcases h10'.2 with ⟨hvv, _⟩ | ⟨g, cap, cur, hvv, hb, hgb, _⟩
    · injection hvv with _ h2 _
      omega
    · injection hvv with h1 _ _
      exact ⟨g, 0, cur, h1, by omega, (Array.getElem?_eq_some_iff.1 hgb).1, hgb⟩
  obtain ⟨c1, c2⟩ := own_max h10
  have hout : OutOk W' (w.heap.size + 1 + 1 + 1 + 1 + 1 + 1 + 1 + 1 + 1) W'.heap.size v' (st.out ++ [st.record]) := by
    refine ⟨vs ++ [.slice A n cc], by rw [List.length_append]; exact hn, fun j r hj => ?_⟩
    have hvl : vs.length = st.out.length := by have := hv.1; omega
    rcases Nat.lt_or_ge j st.out.length with hlt | hge
    · rw [List.getElem?_append_left hlt] at hj
      obtain ⟨A', n', cc', e, a, b, hr⟩ := hvs j r hj
      refine ⟨A', n', cc', by rw [List.getElem?_append_left (by omega)]; exact e, a, b, ?_⟩
      refine Elem.more (hr.of (fun g cur hc _ hlt => ?_)) (by omega)
      have hc' : (W.alloc o).heap[g]? = W.heap[g]? := hal.block g (by omega)
      refine (hg.block g (by rw [World.size_alloc]; omega) (fun e' => ?_)).trans hc'
      rcases hv.2 with ⟨rfl, _⟩ | ⟨g', cap, cur', rfl, hb, hgb, _⟩
      · simp [Value.ownBlock] at e'
      · have hgg : g = g' := by simpa [Value.ownBlock] using e'
        subst hgg
        rw [hc] at hgb
        injection hgb with hgb
        injection hgb with _ h2
        exact absurd h2 (by decide)
    · rw [List.getElem?_append_right hge] at hj
      have hj0 : j - st.out.length = 0 := by
        have := (List.getElem?_eq_some_iff.1 hj).1
        simp at this
        omega
      rw [hj0] at hj
      simp at hj
      subst hj
      refine ⟨A, n, cc, by rw [List.getElem?_append_right (by omega), hvl, hj0]; rfl, c1, c2, hrd⟩
  have y9 := Boxed.set v' (bx (by omega) b9)
  refine ⟨(((hbel.setCell (p := ⟨w.heap.size, 0, none⟩) (Nat.le_refl _) _).setCell (p := ⟨w.heap.size + 1 + 1 + 1, 0, none⟩) (by simp; omega) _).setCell (p := ⟨w.heap.size + 1, 0, none⟩) (by simp) _).setCell (p := ⟨w.heap.size + 1 + 1 + 1 + 1, 0, none⟩) (by simp; omega) _,
    by simp only [size_set]; omega, ⟨by simp only [List.length_append, List.length_singleton]; omega, by simp, ht', by simp, h.sm.of8, h.sm.turn⟩,
    ⟨W'.heap.size, v', .slice none 0 0, ?_, ?_, ?_, World.ownsRow_nil _ _ _ _, by omega, by simp only [size_set]; omega⟩, ?_, ?_, ?_, ?_⟩
  · exact Boxed.other (Boxed.other (Boxed.other y9 (by omega) _) (by omega) _) (by omega) _
  · exact Boxed.other (Boxed.set _ (Boxed.other (Boxed.other (bx (by omega) b10) (by omega) _) (by omega) _)) (by omega) _
  · exact (((hout.set (by omega)).set (by omega)).set (by omega)).set (by omega)
  · exact Boxed.other (Boxed.other (Boxed.other (Boxed.other (bx (by omega) h.x2) (by omega) _) (by omega) _) (by omega) _) (by omega) _
  · exact Boxed.other (Boxed.other (Boxed.set _ (Boxed.other (bx (by omega) h.x3) (by omega) _)) (by omega) _) (by omega) _
  · exact Boxed.set _ (Boxed.other (Boxed.other (Boxed.other (bx (by omega) h.x4) (by omega) _) (by omega) _) (by omega) _)
  · exact Boxed.other (Boxed.other (Boxed.other (Boxed.other (bx (by omega) h.x5) (by omega) _) (by omega) _) (by omega) _) (by omega) _
end Go.Proofs.Ytcdgaeenfhpnkaa
