/- The document's log: records, Open. -/
import Derived.Test.YtcdgaeenfhpnkaaPk43
set_option linter.unusedVariables false
set_option linter.unusedSimpArgs false
set_option maxRecDepth 100000
namespace Go.Proofs.Ytcdgaeenfhpnkaa.Cr
open Go Go.RowKit CrcMath
attribute [local go_sem] Oper.semAt_some

/-- a record is put behind the others -/
theorem wpList_out {w w0 : World} {ops : Array Oper} {rest : List Oper} {o : Oper} {a : Act} {Q : Exit → Act → World → Prop} (hgd : o.guard = none) (s x : Operand)
    (ho : o.op = .call { callee := .builtin .append, args := #[s, x], argTypes := #[84, 84] }) (hot : o.type = 84)
    (base b2 : Nat) (v : Value) (l : List (List Nat)) (hv : OutOk w0 base w0.heap.size v l) (hs : a.eval s = v) (A : Option Addr) (n c : Nat) (b : List Nat) (hr : w0.ownsRow b2 5 1 (.slice A n c) n (b.map bv)) (hb2 : base ≤ b2)
    (hx : a.eval x = .slice (some ⟨w0.heap.size, 0, none⟩) 1 1) (hw : w = w0.alloc (.cells #[.slice A n c] 27)) (hl : l.length ≤ 1000000) (hbase : base ≤ w0.heap.size)
    (h : ∀ v' w', OutOk w' base w'.heap.size v' (l ++ [b]) → Below base w0 w' → wpList Try.prog ops Q rest (a.put o.dst v') w') : wpList Try.prog ops Q (o :: rest) a w := by
  subst hw
  obtain ⟨vs, h1, h2⟩ := hv
  obtain ⟨i0, hi, hz0, hz1, hz2⟩ := info_parts info_bs
  have hal : Below w0.heap.size w0 (w0.alloc (.cells #[.slice A n c] 27)) := (Below.refl _ _).alloc (Nat.le_refl _) _
  refine wpList_app _ hgd s x 84 ho base 27 i0 (.slice none 0 0) 1 24 (by rw [← hot] ; exact hot ▸ Try.underlying84) hi hz0 hz1 hz2 rfl (by omega) v l.length vs hs (own_below h1 hal) (w0.heap.size + 1) (some ⟨w0.heap.size, 0, none⟩) 1 1 [.slice A n c] hx ?_ ?_ ?_ ?_ ?_ ?_
  · exact rd_new w0 [.slice A n c] 27 1 1 rfl
  · intro u hu
    rw [List.mem_singleton.1 hu]; rfl
  · unfold maxLen; omega
  · omega
  · rw [World.size_alloc]; omega
  · intro v' w' hown hg _
    have hrow : ∀ g, v.ownBlock = some g → base ≤ g ∧ ∃ cur fr, w0.heap[g]? = some (.cells cur 27 fr) := fun g e => by
      rcases h1.2 with ⟨rfl, _⟩ | ⟨g', cap, cur, rfl, hb, hc, _⟩
      · simp [Value.ownBlock] at e
      · have : g' = g := by simpa [Value.ownBlock] using e
        subst this
        exact ⟨hb, cur, _, hc⟩
    have hb : Below base w0 w' := (hal.mono hbase).grown hg (by rw [World.size_alloc]; omega) (fun g e => (hrow g e).1)
    have keep : ∀ (g : Nat) (cur : Array Value), w0.heap[g]? = some (.cells cur 5) → w'.heap[g]? = w0.heap[g]? := fun g cur hc => by
      have hlt := (Array.getElem?_eq_some_iff.1 hc).1
      refine (hg.block g (by rw [World.size_alloc]; omega) (fun e => ?_)).trans (hal.block g hlt)
      obtain ⟨_, cur', fr', hc'⟩ := hrow g e.symm
      rw [hc] at hc'
      injection hc' with hc'
      injection hc' with _ hc'
      exact absurd hc' (by decide)
    refine h v' w' ⟨vs ++ [.slice A n c], by rw [List.length_append]; exact hown, fun j r hj => ?_⟩ hb
    have hvl : vs.length = l.length := by have := h1.1; omega
    rcases Nat.lt_or_ge j l.length with hlt | hge
    · rw [List.getElem?_append_left hlt] at hj
      obtain ⟨A', n', cc', e, k1, k2, hr'⟩ := h2 j r hj
      exact ⟨A', n', cc', by rw [List.getElem?_append_left (by omega)]; exact e, k1, k2, (hr'.of (fun g cur hc _ _ => keep g cur hc)).more hb.size⟩
    · rw [List.getElem?_append_right hge] at hj
      have hj0 : j - l.length = 0 := by
        have := (List.getElem?_eq_some_iff.1 hj).1
        simp at this
        omega
      rw [hj0] at hj
      simp at hj
      subst hj
      obtain ⟨m1, m2⟩ := own_max hr
      have hr' : w'.ownsRow b2 5 1 (.slice A n c) n (b.map bv) := own_other (own_below hr hal) (own_below h1 hal) (by decide) hg
      refine ⟨A, n, c, by rw [List.getElem?_append_right (by omega), hvl, hj0]; rfl, m1, m2, Rd.of_own hr', fun hn0 => ?_⟩
      rcases hr'.2 with ⟨hvv, _⟩ | ⟨g, cap, cur, hvv, hbg, hgb, _⟩
      · injection hvv with _ h2 _
        omega
      · injection hvv with h1 _ _
        exact ⟨g, 0, cur, h1, by omega, (Array.getElem?_eq_some_iff.1 hgb).1, hgb⟩
def RecsP (w : World) (x : List (List Nat) × Nat × Nat) (e : Ending) (w' : World) : Prop :=
  Below w.heap.size w w' ∧ ∃ v, e = .returned (.tuple #[v, .int .i64 x.2.1, .int .i64 x.2.2]) ∧ OutOk w' w.heap.size w'.heap.size v x.1
set_option maxHeartbeats 8000000 in
theorem rrecs_any (r : RD) (U : Nat → Prop) (p g half n : Nat) (w : World) (h : HT w U p g r) (hh : half ≤ 1) (hn : n = r.d.L.length / 2) :
    Calls Try.prog 87 #[.pointer (some ⟨p, 0, none⟩), .int .i64 half] w (RecsP w (recsR n 0 (halfS r.d.L half))) := by
  obtain ⟨S, hS⟩ : ∃ S, S = halfS r.d.L half := ⟨_, rfl⟩
  have hSl : S.length = n := by rw [hS, halfS_len _ _ hh, hn]
  have hl256 := h.ok.2.1
  have h64 : ∀ s ∈ S, s.length = 64 := fun s hm => by
    rw [hS] at hm
    unfold halfS at hm
    exact (h.ok.1 s (List.mem_of_mem_drop (List.mem_of_mem_take hm))).1
  have hn128 : n ≤ 128 := by omega
  obtain ⟨R, hR⟩ : ∃ R, recsR n 0 S = R := ⟨_, rfl⟩
  rw [← hS, hR]
  have H := Lib.hid h
  have HS := Lib.hid hS
  have HR := Lib.hid hR
  have HSl := Lib.hid hSl
  have H64 := Lib.hid h64
  clear h hS hR hSl h64 hn hl256
  go_enter Try.func87, Try.ntmps87
  go_wp2_with fail
  go_loopg [7, 8, 9] n (fun q vo vt va wr => ∃ (at_ t co : Nat) (Ao : Option Addr) (out : List (List Nat)), q + at_ = n ∧ vo = .slice Ao out.length co ∧ vt = .int .i64 t ∧ va = .int .i64 at_ ∧ OutOk wr w.heap.size wr.heap.size (.slice Ao out.length co) out ∧ Below w.heap.size w wr ∧ out.length ≤ at_ ∧
    R = (out ++ (recsR (n - at_) t (S.drop at_)).1, (recsR (n - at_) t (S.drop at_)).2.1, at_ + (recsR (n - at_) t (S.drop at_)).2.2))
  case atStart => exact ⟨0, 0, 0, none, [], by omega, rfl, rfl, rfl, ⟨[], World.ownsRow_nil _ _ _ _, fun j r hj => by simp at hj⟩, Below.refl _ _, Nat.le_refl _, by rw [← HR.out]; simp⟩
  case round =>
    obtain ⟨at_, t, co, Ao, out, hq, rfl, rfl, rfl, hout, hbel, hol, hres⟩ := hrel
    have Hout := Lib.hid hout
    have Hbel := Lib.hid hbel
    have Hres := Lib.hid hres
    have hal : at_ ≤ 128 := by omega
    clear hout hbel hres
    obtain ⟨o, ho⟩ : ∃ o, recF t (S.drop at_) = o := ⟨_, rfl⟩
    have Ho := Lib.hid ho
    have Hcall : Hid (Calls Try.prog 98 #[.pointer (some ⟨p, 0, none⟩), .int .i64 half, .int .i64 at_, .int .i64 t] wr (RecP wr o)) := by
      show Calls _ _ _ _ _
      rw [← ho, HS.out]
      exact record_any r U p g half at_ t wr (H.out.below Hbel.out) hh (by omega)
    clear ho
    cases o with
    | none =>
      have HE : Hid (R = (out, t, at_)) := by
        show _ = _
        have h := Hres.out
        rw [recsR_none Ho.out] at h
        simpa using h
      go_wp2_with (first
        | (go_at_call 98; (with_reducible refine Hcall.out.mono ?_)
           rintro e w2 ⟨hb2, he2⟩
           dsimp only at he2
           subst he2
           have HB2 := Lib.hid hb2
           clear hb2))
      go_ret3
      rw [HE.out]
      exact ⟨Hbel.out.trans (HB2.out.mono Hbel.out.size), _, rfl, (Hout.out.below HB2.out (Nat.le_refl _)).more HB2.out.size⟩
    | some x =>
      obtain ⟨b, u⟩ := x
      obtain ⟨k1, k2, k3, k4, k5, k6⟩ := recF_len (fun s hm => H64.out s (List.mem_of_mem_drop hm)) Ho.out
      have k2' : needsN b ≤ n - at_ := by rw [List.length_drop, HSl.out] at k2; exact k2
      have hbl : b.length ≤ 448 ∧ 0 < b.length := by unfold needsN at k1 k3; exact ⟨by omega, List.length_pos_iff.2 k6⟩
      have HE : Hid (R = ((out ++ [b]) ++ (recsR (n - (at_ + needsN b)) u (S.drop (at_ + needsN b))).1, (recsR (n - (at_ + needsN b)) u (S.drop (at_ + needsN b))).2.1, (at_ + needsN b) + (recsR (n - (at_ + needsN b)) u (S.drop (at_ + needsN b))).2.2)) := by
        show _ = _
        have h := Hres.out
        obtain ⟨f, hf⟩ : ∃ f, n - at_ = f + 1 := ⟨n - at_ - 1, by omega⟩
        rw [hf, recsR, Ho.out] at h
        dsimp only at h
        rw [List.drop_drop] at h
        have e := recsR_fuel f (n - (at_ + needsN b)) u (S.drop (at_ + needsN b)) (fun s hm => H64.out s (List.mem_of_mem_drop hm)) (by rw [List.length_drop, HSl.out]; omega) (by rw [List.length_drop, HSl.out]; omega)
        rw [e] at h
        rw [h, List.append_assoc, List.singleton_append, Nat.add_assoc]
      obtain ⟨nb, hnb⟩ : ∃ nb, nb = b.length := ⟨_, rfl⟩
      obtain ⟨sn, hsn⟩ : ∃ sn, sn = needsN b := ⟨_, rfl⟩
      have hsn2 : sn = (nb + 55) / 56 := by rw [hsn, hnb]; rfl
      have z1 : ((nb : Int) == 0) = false := beq_eq_false_iff_ne.2 (by omega)
      have Hnb := Lib.hid hnb
      rw [← hsn] at k1 k2' HE
      have Hsn2 := Lib.hid hsn2
      have hnb448 : nb ≤ 448 := by omega
      clear k2 k3 k4 k5 k6 hbl hnb hsn hsn2
      go_wp2_with (first
        | (go_at_call 98; (with_reducible refine Hcall.out.mono ?_)
           rintro e w2 ⟨hb2, A2, c2, he2, hown2⟩
           dsimp only at he2 hown2
           rw [← Hnb.out] at he2 hown2
           subst he2
           have HB2 := Lib.hid hb2
           have HW2 := Lib.hid hown2
           have HO2 := Lib.hid ((Hout.out.below HB2.out (Nat.le_refl _)).more HB2.out.size)
           clear hb2 hown2)
        | (at_builtin
           refine wpList_out rfl (.tmp 26) (.tmp 28) rfl rfl w.heap.size wr.heap.size (.slice Ao out.length co) out HO2.out rfl A2 nb c2 b HW2.out Hbel.out.size rfl rfl (by omega) (Nat.le_trans Hbel.out.size HB2.out.size) ?_
           intro v3 w3 hout3 hb3
           obtain ⟨A3, c3, rfl⟩ := out_shape hout3
           have HO3 := Lib.hid hout3
           have HL3 : Hid ((out ++ [b]).length = out.length + 1) := by show _ = _; simp
           have HB3 : Hid (Below w.heap.size w w3) := (Hbel.out.trans (HB2.out.mono Hbel.out.size)).trans hb3
           clear hout3 hb3)
        | (go_at_call 88; (with_reducible refine (sectors_any _ nb c2 _ (by omega)).mono ?_)
           rintro e w4 ⟨rfl, hw4⟩
           obtain rfl := hw4.symm
           rw [← Hsn2.out]))
      go_roundg (gk - sn)
      case measure => omega
      case rel => exact ⟨at_ + sn, u, c3, A3, out ++ [b], by omega, by rw [HL3.out], rfl, by go_num, HO3.out, HB3.out, by rw [HL3.out]; omega, HE.out⟩
def Off2 (w : World) (p g : Nat) (k : Nat) : Prop := k < w.heap.size ∧ k ≠ p ∧ k ≠ g
def RLogAt (w : World) (lb p half turn taken : Nat) : Prop := w.heap[lb]? = some (.cells #[.pointer (some ⟨p, 0, none⟩), .int .i64 half, .int .i64 turn, .int .i64 taken] 141)
def ROpenL (p half turn taken : Nat) (L : List (List Nat)) (w : World) (e : Ending) (w' : World) : Prop :=
  ∃ lb v, e = .returned (.tuple #[.pointer (some ⟨lb, 0, none⟩), v, .int .i64 0]) ∧ OutOk w' w.heap.size w'.heap.size v L ∧ RLogAt w' lb p half turn taken ∧ Below w.heap.size w w' ∧ w.heap.size ≤ lb
theorem openR_eq (D : List (List Nat)) (n : Nat) (hn : n = D.length / 2) : openR D = if 0 < (recsR n 0 (halfS D 1)).1.length ∧ (recsR n 0 (halfS D 0)).2.1 < (recsR n 0 (halfS D 1)).2.1 then ⟨(recsR n 0 (halfS D 1)).1, 1, (recsR n 0 (halfS D 1)).2.1, (recsR n 0 (halfS D 1)).2.2⟩
    else if 0 < (recsR n 0 (halfS D 0)).1.length then ⟨(recsR n 0 (halfS D 0)).1, 0, (recsR n 0 (halfS D 0)).2.1, (recsR n 0 (halfS D 0)).2.2⟩ else ⟨[], 0, 1, 0⟩ := by
  have e0 : halfS D 0 = D.take n := by unfold halfS; rw [Nat.zero_mul, ← hn]; rfl
  have e1 : halfS D 1 = (D.drop n).take n := by unfold halfS; rw [Nat.one_mul, ← hn]
  rw [e0, e1, hn]
  rfl
set_option maxHeartbeats 8000000 in
theorem ropen11 (r : RD) (U : Nat → Prop) (p g half turn taken : Nat) (L : List (List Nat)) (w : World) (h : HT w U p g r) (hup : r.d.down = false) (ho : openR r.d.L = ⟨L, half, turn, taken⟩) :
    Calls Try.prog 76 #[.pointer (some ⟨p, 0, none⟩)] w (ROpenL p half turn taken L w) := by
  obtain ⟨x, h1, _⟩ := h.parts
  have c1 := cell_of_row w p 1 _ _ _ h1.hp
  simp [hup] at c1
  obtain ⟨n, hn⟩ : ∃ n, n = r.d.L.length / 2 := ⟨_, rfl⟩
  rw [openR_eq _ n hn] at ho
  obtain ⟨⟨a, t, m⟩, hxa⟩ : ∃ y, y = recsR n 0 (halfS r.d.L 0) := ⟨_, rfl⟩
  obtain ⟨⟨b, u, k⟩, hxb⟩ : ∃ y, y = recsR n 0 (halfS r.d.L 1) := ⟨_, rfl⟩
  rw [← hxa, ← hxb] at ho
  dsimp only at ho
  have Hcall0 : Hid (∀ w1, Below w.heap.size w w1 → Calls Try.prog 87 #[.pointer (some ⟨p, 0, none⟩), .int .i64 0] w1 (RecsP w1 (a, t, m))) := fun w1 hb1 => by
    have := rrecs_any r U p g 0 n w1 (h.below hb1) (by omega) hn
    rw [← hxa] at this
    exact this
  have Hcall1 : Hid (∀ w1, Below w.heap.size w w1 → Calls Try.prog 87 #[.pointer (some ⟨p, 0, none⟩), .int .i64 1] w1 (RecsP w1 (b, u, k))) := fun w1 hb1 => by
    have := rrecs_any r U p g 1 n w1 (h.below hb1) (by omega) hn
    rw [← hxb] at this
    exact this
  clear h h1 hup hxa hxb hn
  by_cases q1 : 0 < b.length ∧ t < u
  · rw [if_pos q1] at ho
    injection ho with o1 o2 o3 o4
    have z1 : decide ((0 : Int) < (b.length : Int)) = true := decide_eq_true (by omega)
    have z1n : decide (0 < b.length) = true := decide_eq_true q1.1
    have z2 : decide (t < u) = true := decide_eq_true q1.2
    have z3 : decide ((t : Int) < (u : Int)) = true := decide_eq_true (by omega)
    have O := Lib.hid (And.intro o1 (And.intro o2 (And.intro o3 o4)))
    clear o1 o2 o3 o4 q1
    go_enter Try.func76, Try.ntmps76
    go_wp2_with (first
      | (go_at_call 87; (with_reducible refine (Hcall0.out w (Below.refl _ _)).mono ?_)
         rintro e w2 ⟨hb2, v2, rfl, ho2⟩
         dsimp only
         obtain ⟨A2, c2, rfl⟩ := out_shape ho2
         have HB2 := Lib.hid hb2
         have HO2 := Lib.hid ho2
         clear hb2 ho2)
      | (go_at_call 87; (with_reducible refine (Hcall1.out w2 HB2.out).mono ?_)
         rintro e w3 ⟨hb3, v3, rfl, ho3⟩
         dsimp only
         obtain ⟨A3, c3, rfl⟩ := out_shape ho3
         have HB3 := Lib.hid hb3
         have HO3 := Lib.hid ho3
         clear hb3 ho3))
    go_ret3
    have hal := al_ w3 (.cells #[.pointer (some ⟨p, 0, none⟩), .int .i64 1, .int .i64 u, .int .i64 k] 141)
    have h23 := HB2.out.trans (HB3.out.mono HB2.out.size)
    obtain ⟨rfl, rfl, rfl, rfl⟩ := O.out
    exact ⟨w3.heap.size, _, rfl, ((HO3.out.less HB2.out.size).below hal (Nat.le_refl _)).more hal.size, heap_alloc_new w3 _, h23.trans (hal.mono h23.size), h23.size⟩
  · rw [if_neg q1] at ho
    by_cases q2 : 0 < a.length
    · rw [if_pos q2] at ho
      injection ho with o1 o2 o3 o4
      have z0 : decide ((0 : Int) < (a.length : Int)) = true := decide_eq_true (by omega)
      have z0n : decide (0 < a.length) = true := decide_eq_true q2
      have O := Lib.hid (And.intro o1 (And.intro o2 (And.intro o3 o4)))
      have sp : (decide ((0 : Int) < (b.length : Int)) = false ∧ decide (0 < b.length) = false) ∨ (decide ((0 : Int) < (b.length : Int)) = true ∧ decide (0 < b.length) = true) ∧ decide (t < u) = false ∧ decide ((t : Int) < (u : Int)) = false := by
        by_cases q3 : 0 < b.length
        · exact .inr ⟨⟨decide_eq_true (by omega), decide_eq_true q3⟩, decide_eq_false (fun h => q1 ⟨q3, h⟩), decide_eq_false (fun h => q1 ⟨q3, by omega⟩)⟩
        · exact .inl ⟨decide_eq_false (by omega), decide_eq_false q3⟩
      clear o1 o2 o3 o4 q1 q2
      rcases sp with ⟨z1, z1n⟩ | ⟨⟨z1, z1n⟩, z2, z3⟩
      all_goals
        go_enter Try.func76, Try.ntmps76
        go_wp2_with (first
          | (go_at_call 87; (with_reducible refine (Hcall0.out w (Below.refl _ _)).mono ?_)
             rintro e w2 ⟨hb2, v2, rfl, ho2⟩
             dsimp only
             obtain ⟨A2, c2, rfl⟩ := out_shape ho2
             have HB2 := Lib.hid hb2
             have HO2 := Lib.hid ho2
             clear hb2 ho2)
          | (go_at_call 87; (with_reducible refine (Hcall1.out w2 HB2.out).mono ?_)
             rintro e w3 ⟨hb3, v3, rfl, ho3⟩
             dsimp only
             obtain ⟨A3, c3, rfl⟩ := out_shape ho3
             have HB3 := Lib.hid hb3
             have HO3 := Lib.hid ho3
             clear hb3 ho3))
        go_ret3
        have hal := al_ w3 (.cells #[.pointer (some ⟨p, 0, none⟩), .int .i64 0, .int .i64 t, .int .i64 m] 141)
        have h23 := HB2.out.trans (HB3.out.mono HB2.out.size)
        obtain ⟨rfl, rfl, rfl, rfl⟩ := O.out
        exact ⟨w3.heap.size, _, rfl, ((HO2.out.below HB3.out (Nat.le_refl _)).below hal HB3.out.size).more (Nat.le_trans HB3.out.size hal.size), heap_alloc_new w3 _, h23.trans (hal.mono h23.size), h23.size⟩
    · rw [if_neg q2] at ho
      injection ho with o1 o2 o3 o4
      have z0 : decide ((0 : Int) < (a.length : Int)) = false := decide_eq_false (by omega)
      have z0n : decide (0 < a.length) = false := decide_eq_false q2
      have O := Lib.hid (And.intro o1 (And.intro o2 (And.intro o3 o4)))
      have sp : (decide ((0 : Int) < (b.length : Int)) = false ∧ decide (0 < b.length) = false) ∨ (decide ((0 : Int) < (b.length : Int)) = true ∧ decide (0 < b.length) = true) ∧ decide (t < u) = false ∧ decide ((t : Int) < (u : Int)) = false := by
        by_cases q3 : 0 < b.length
        · exact .inr ⟨⟨decide_eq_true (by omega), decide_eq_true q3⟩, decide_eq_false (fun h => q1 ⟨q3, h⟩), decide_eq_false (fun h => q1 ⟨q3, by omega⟩)⟩
        · exact .inl ⟨decide_eq_false (by omega), decide_eq_false q3⟩
      clear o1 o2 o3 o4 q1 q2
      rcases sp with ⟨z1, z1n⟩ | ⟨⟨z1, z1n⟩, z2, z3⟩
      all_goals
        go_enter Try.func76, Try.ntmps76
        go_wp2_with (first
          | (go_at_call 87; (with_reducible refine (Hcall0.out w (Below.refl _ _)).mono ?_)
             rintro e w2 ⟨hb2, v2, rfl, ho2⟩
             dsimp only
             obtain ⟨A2, c2, rfl⟩ := out_shape ho2
             have HB2 := Lib.hid hb2
             have HO2 := Lib.hid ho2
             clear hb2 ho2)
          | (go_at_call 87; (with_reducible refine (Hcall1.out w2 HB2.out).mono ?_)
             rintro e w3 ⟨hb3, v3, rfl, ho3⟩
             dsimp only
             obtain ⟨A3, c3, rfl⟩ := out_shape ho3
             have HB3 := Lib.hid hb3
             have HO3 := Lib.hid ho3
             clear hb3 ho3))
        go_ret3
        have hal := al_ w3 (.cells #[.pointer (some ⟨p, 0, none⟩), .int .i64 0, .int .i64 1, .int .i64 0] 141)
        have h23 := HB2.out.trans (HB3.out.mono HB2.out.size)
        obtain ⟨rfl, rfl, rfl, rfl⟩ := O.out
        exact ⟨w3.heap.size, _, rfl, ⟨[], World.ownsRow_nil _ _ _ _, fun j r hj => by simp at hj⟩, heap_alloc_new w3 _, h23.trans (hal.mono h23.size), h23.size⟩
end Go.Proofs.Ytcdgaeenfhpnkaa.Cr
/- The document's log: write, Add, Compact. -/
set_option linter.unusedVariables false
set_option linter.unusedSimpArgs false
set_option maxRecDepth 100000
namespace Go.Proofs.Ytcdgaeenfhpnkaa.Cr
open Go Go.RowKit CrcMath
attribute [local go_sem] Oper.semAt_some

def X2 (p g : Nat) (k : Nat) : Prop := k = p ∨ k = g
def X3 (p g lb : Nat) (k : Nat) : Prop := k = p ∨ k = g ∨ k = lb
theorem secP_lt (turn i of_ : Nat) (c : List Nat) (ht : turn < 65536) (hi : i < 256) (ho : of_ < 256) (h : c.length ≤ 56) (hc : ∀ x ∈ c, x < 256) : ∀ x ∈ secP turn i of_ c, x < 256 := by
  have he := encP_lt turn i of_ c ht hi ho h hc
  have hs := sum_lt _ he
  intro x hx
  unfold secP seal_ at hx
  rcases List.mem_append.1 hx with hx | hx
  · exact he x hx
  · simp at hx
    omega
section
variable {w w' : World} {U : Nat → Prop} {p g lb half turn taken B b j : Nat} {r : RD} {T : TypeId} {cur : Array Value} {fr : Nat × Nat} {u : Value}
theorem RLogAt.lt (h : RLogAt w lb p half turn taken) : lb < w.heap.size := (Array.getElem?_eq_some_iff.1 h).1
theorem RLogAt.below (h : RLogAt w lb p half turn taken) (hb : Below w.heap.size w w') : RLogAt w' lb p half turn taken := (hb.block lb h.lt).trans h
theorem HT.off (h : HT w U p g r) : HT w (Off2 w p g) p g r := by
  obtain ⟨x, h1, h2, h3, h4⟩ := h.parts
  exact ⟨⟨x, h1.turn rfl rfl (fun k => k.2.1 rfl) (fun k => k.2.2 rfl) (fun k hk => hk.1), by rw [h2, h3, h4]⟩, h.lt, h.wb, h.mb⟩
theorem HT.pg (h : HT w U p g r) : p < w.heap.size ∧ g < w.heap.size := by
  obtain ⟨x, h1, _⟩ := h.parts
  exact ⟨h1.pold, h1.gold⟩
/-- a block of another type is none of the disk's -/
theorem HT.ne (h : HT w U p g r) (hb : w.heap[b]? = some (.cells cur T fr)) (h1 : T ≠ 119 ∧ T ≠ 9) : ¬ X2 p g b := by
  obtain ⟨x, k, _⟩ := h.parts
  rintro (e | e)
  · subst e
    rw [k.hp] at hb
    injection hb with hb
    injection hb with _ hb
    exact h1.1 hb.symm
  · subst e
    rw [k.hg] at hb
    injection hb with hb
    injection hb with _ hb
    exact h1.2 hb.symm
theorem HT.ne3 (h : HT w U p g r) (hl : RLogAt w lb p half turn taken) (hb : w.heap[b]? = some (.cells cur T fr)) (h1 : T ≠ 119 ∧ T ≠ 9 ∧ T ≠ 141) : ¬ X3 p g lb b := by
  have h2 := h.ne hb ⟨h1.1, h1.2.1⟩
  rintro (e | e | e)
  · exact h2 (.inl e)
  · exact h2 (.inr e)
  · subst e
    rw [show w.heap[b]? = _ from hl] at hb
    injection hb with hb
    injection hb with _ hb
    exact h1.2.2 hb.symm
theorem HT.lne (h : HT w U p g r) (hl : RLogAt w lb p half turn taken) : ¬ X2 p g lb := h.ne (show w.heap[lb]? = _ from hl) (by decide)
theorem HT.set (h : HT w (Off2 w p g) p g r) (hb : w.heap[b]? = some (.cells cur T fr)) (h1 : T ≠ 119 ∧ T ≠ 9) (j : Nat) (u : Value) : HT (w.setCell ⟨b, j, none⟩ u) (Off2 (w.setCell ⟨b, j, none⟩ u) p g) p g r := by
  have h2 := h.ne hb h1
  obtain ⟨x, k1, k2, k3, k4⟩ := h.parts
  exact ⟨⟨x, k1.turn ((heap_set_other u k1.hp (fun e => h2 (.inl e.symm))).trans k1.hp.symm) ((heap_set_other u k1.hg (fun e => h2 (.inr e.symm))).trans k1.hg.symm) (fun k => k.2.1 rfl) (fun k => k.2.2 rfl) (fun k hk => hk.1), by rw [k2, k3, k4]⟩, h.lt, h.wb, h.mb⟩
theorem off_chg (hk : Kept (Off2 w p g) w w') : Chg (X2 p g) w w' := ⟨hk.os, hk.tape, hk.output, hk.size, fun i hi => hk.block i ⟨hi.1, fun e => hi.2 (.inl e), fun e => hi.2 (.inr e)⟩⟩
end
set_option maxHeartbeats 8000000 in
theorem rwr_any (lb p g half at_ turn n c base fr : Nat) (A : Option Addr) (b : List Nat) (r : RD) (w : World) (lv : Nat × Nat × Nat) (h : HT w (Off2 w p g) p g r) (hl : RLogAt w lb p lv.1 lv.2.1 lv.2.2) (hh : half ≤ 1) (hfr : fr = half * (r.d.L.length / 2) + at_) (hfit : fr + needsN b ≤ r.d.L.length) (ht : turn < 65536)
    (ho : w.ownsRow base 5 1 (.slice A n c) n (b.map bv)) (hb : fineB b) (hw8 : r.d.writes + 8 < 1000000) :
    Calls Try.prog 90 #[.pointer (some ⟨lb, 0, none⟩), .int .i64 half, .int .i64 at_, .int .i64 turn, .slice A n c] w fun e w' => e = .returned (.int .i64 (wrR fr turn b r (List.range (needsN b))).1) ∧ HT w' (Off2 w' p g) p g (wrR fr turn b r (List.range (needsN b))).2 ∧ Chg (X2 p g) w w' := by
  have hlen := own_len ho
  rw [List.length_map] at hlen
  have hbn : b.length = n := by omega
  obtain ⟨hb1, hb2, hb3⟩ := hb
  obtain ⟨k, hk⟩ : ∃ k, k = needsN b := ⟨_, rfl⟩
  have hk1 : k = (n + 55) / 56 := by rw [hk, needsN, hbn]
  obtain ⟨m, hm⟩ : ∃ m, m = r.d.L.length / 2 := ⟨_, rfl⟩
  obtain ⟨hs, hhs⟩ : ∃ hs, hs = half * m := ⟨_, rfl⟩
  have hl256 := h.ok.2.1
  have hmx := own_max ho
  rw [← hm, ← hhs] at hfr
  rw [← hk] at hfit ⊢
  have hhs2 : hs ≤ 128 := by
    have := half_two (S := m) hh
    omega
  have Wm : IntKind.i64.wrap ((half : Int) * (m : Int)) = (hs : Int) := by
    rw [show (half : Int) * (m : Int) = (hs : Int) by rw [hhs]; simp, IntWalk.i64_in _ (by omega)]
  obtain ⟨R, hR⟩ : ∃ R, wrR fr turn b r (List.range k) = R := ⟨_, rfl⟩
  rw [hR]
  have HR : Hid (wrR fr turn b r (List.range' 0 k) = R) := by show _ = _; rw [← List.range_eq_range']; exact hR
  have H := Lib.hid h
  have Hl := Lib.hid hl
  have Ho := Lib.hid ho
  have Hk := Lib.hid hk
  have Hk1 := Lib.hid hk1
  have hk8 : k ≤ 8 ∧ 1 ≤ k := by omega
  have Hm := Lib.hid hm
  have Hb3 := Lib.hid hb3
  have Hhs := Lib.hid hhs
  clear h hl ho hk hk1 hm hb3 hR hhs hlen
  go_enter Try.func90, Try.ntmps90
  go_wp2_with fail
  go_loopg [11] k (fun q vi wr => ∃ (j : Nat) (rj : RD), q + j = k ∧ vi = .int .i64 j ∧ wrR fr turn b rj (List.range' j (k - j)) = R ∧ HT wr (Off2 wr p g) p g rj ∧ Chg (X2 p g) w wr ∧ rj.d.L.length = r.d.L.length ∧ rj.d.writes ≤ r.d.writes + j)
  case atStart => exact ⟨0, r, by omega, rfl, HR.out, H.out, Chg.refl _ _, rfl, by omega⟩
  case round =>
    obtain ⟨j, rj, hj, rfl, hwr, ht', hc, hl', hw'⟩ := hrel
    have Hwr := Lib.hid hwr
    have HT' := Lib.hid ht'
    have HC := Lib.hid hc
    have Hl' := Lib.hid hl'
    have Hw' := Lib.hid hw'
    have hlt' : RLogAt wr lb p lv.1 lv.2.1 lv.2.2 := (hc.at_ Hl.out.lt (H.out.lne Hl.out)).trans Hl.out
    have c0 := cell_of_row wr lb 0 _ _ _ hlt'
    simp at c0
    have Hlt' := Lib.hid hlt'
    have Ho' := Lib.hid (own_chg Ho.out hc (fun g cur fr hg _ => H.out.ne hg (by decide)))
    clear hwr ht' hc hl' hw' hlt'
    by_cases hlt : j < k
    · have y1 : (j : Int) < (k : Int) := by omega
      obtain ⟨x, hx⟩ : ∃ x, x = fr + j := ⟨_, rfl⟩
      have W1 : IntKind.i64.wrap ((hs : Int) + (at_ : Int)) = (hs : Int) + (at_ : Int) := IntWalk.i64_in _ (by omega)
      have W2 : IntKind.i64.wrap ((hs : Int) + (at_ : Int) + (j : Int)) = (x : Int) := by rw [IntWalk.i64_in _ (by omega)]; omega
      have hx256 : x ≤ 256 := by omega
      have Hx : Hid (x < rj.d.L.length ∧ x = fr + j) := ⟨by rw [Hl'.out]; omega, hx⟩
      have Hstep : Hid (wrR fr turn b rj (List.range' j (k - j)) = if (rj.write (x : Int) (secP turn j (needsN b) (chunkN b j))).1 = 0 then wrR fr turn b (rj.write (x : Int) (secP turn j (needsN b) (chunkN b j))).2 (List.range' (j + 1) (k - (j + 1))) else rj.write (x : Int) (secP turn j (needsN b) (chunkN b j))) := by
        show _ = _
        obtain ⟨k2, hk2⟩ : ∃ k2, k - j = k2 + 1 := ⟨k - j - 1, by omega⟩
        rw [hk2, List.range'_succ, show k - (j + 1) = k2 by omega]
        unfold wrR
        rw [show (fr : Int) + (j : Int) = (x : Int) by omega]
        cases k2 <;> rfl
      obtain ⟨en, r5, hw5⟩ : ∃ en r5, rj.write (x : Int) (secP turn j (needsN b) (chunkN b j)) = (en, r5) := ⟨_, _, rfl⟩
      rw [hw5] at Hstep
      have Hw5 := Lib.hid hw5
      have Hr5 : Hid (r5.d.L.length = r.d.L.length ∧ r5.d.writes ≤ r.d.writes + (j + 1)) := by
        have h2 := (RD.write_d rj (x : Int) (secP turn j (needsN b) (chunkN b j))).2
        rw [hw5] at h2
        dsimp only at h2
        refine ⟨?_, ?_⟩
        · rw [h2, write_len, Hl'.out]
        · rw [h2]
          have h3 := write_writes rj.d (x : Int) (secP turn j (needsN b) (chunkN b j))
          have h4 := Hw'.out
          omega
      clear hw5
      have HB : Hid (Below wr.heap.size wr wr.drew) := (Below.refl _ _).drew
      clear hx
      go_wp2_with (first
        | (go_at_call 88; (with_reducible refine (sectors_any _ n c _ (by omega)).mono ?_)
           rintro e w2 ⟨rfl, hw2⟩
           obtain rfl := hw2.symm
           rw [← Hk1.out]))
      refine sk (fun w' => w'.cell? ⟨lb, 0, none⟩ = some (.pointer (some ⟨p, 0, none⟩))) 21 ?_ (fun hHeld => ?_)
      · (first | exact c0 | exact hHeld | exact HS0.out | exact HS5.out)
      refine tk 0 19 hHeld ?_
      refine tk 1 20 hHeld ?_
      refine tk 2 21 hHeld ?_
      refine tk 3 22 hHeld ?_
      refine tk 4 23 hHeld ?_
      refine tk 5 24 hHeld ?_
      refine tk 6 25 hHeld ?_
      refine tk 7 26 hHeld ?_
      refine tk 8 27 hHeld ?_
      refine tk 11 30 hHeld ?_
      refine tk 13 32 hHeld ?_
      refine tk 15 34 hHeld ?_
      refine tk 16 35 hHeld ?_
      refine tk 17 36 hHeld ?_
      refine bk 9 28 (fun K hK => ?_)
      go_simp
      (go_at_call 91; (with_reducible refine (rsize_n (n := m) (by rw [Hl'.out]; exact Hm.out) (HT'.out.below HB.out)).mono ?_))
      rintro e w3 ⟨rfl, rfl⟩
      dsimp only
      refine hK.out _ _ ?_ (fun hHeld' => ?_)
      · (first | exact c0 | exact hHeld | exact HS0.out | exact HS5.out)
      clear hK K hHeld
      have hHeld := hHeld'
      clear hHeld'
      simp only [List.set_cons_zero, List.set_cons_succ]
      refine tk 10 29 hHeld ?_
      refine tk 12 31 hHeld ?_
      refine tk 14 33 hHeld ?_
      refine bk 18 37 (fun K hK => ?_)
      go_simp
      (go_at_call 100; (with_reducible refine (rput_any A n c wr.heap.size b turn j _ ((Rd.of_own Ho'.out).below HB.out) HB.out.size Hb3.out ⟨by omega, by omega⟩ (by have := Hk.out; omega) ht hmx.1 hmx.2).mono ?_))
      rintro e w4 ⟨A4, c4, rfl, hown4, hb4⟩
      have hb4' : Below wr.heap.size wr w4 := HB.out.trans (hb4.mono HB.out.size)
      have HS0 : Hid (w4.cell? ⟨lb, 0, none⟩ = some (.pointer (some ⟨p, 0, none⟩))) := by
        have h9 := cell_of_row w4 lb 0 _ _ _ (Hlt'.out.below hb4')
        simp at h9
        exact h9
      have HT4 := Lib.hid ((HT'.out.below hb4').off)
      have HC4 : Hid (Chg (X2 p g) w w4) := HC.out.trans (Chg.of hb4')
      have Hown4 := Lib.hid (Rd.of_own hown4)
      have Hp256 : Hid (∀ y ∈ secP turn j (needsN b) (chunkN b j), y < 256) := by
        show ∀ y ∈ _, _
        refine secP_lt _ _ _ _ ht (by omega) (by have := Hk.out; omega) (by unfold chunkN; rw [List.length_take]; omega) (fun y hy => Hb3.out y (List.mem_of_mem_drop (List.mem_of_mem_take hy)))
      refine hK.out _ _ ?_ (fun hHeld' => ?_)
      · (first | exact c0 | exact hHeld | exact HS0.out | exact HS5.out)
      clear hK K hHeld
      have hHeld := hHeld'
      clear hHeld'
      simp only [List.set_cons_zero, List.set_cons_succ]
      refine bk 19 38 (fun K hK => ?_)
      go_simp
      have hcall := rwrite_t rj _ p g w4 x A4 64 c4 _ HT4.out Hx.out.1 Hown4.out (Nat.le_refl _) Hp256.out (by have := Hw'.out; omega)
      rw [Hw5.out] at hcall
      (go_at_call 99; (with_reducible refine hcall.mono ?_))
      clear hcall
      rintro e w5 ⟨rfl, ht5, hk5⟩
      dsimp only
      have HT5 : Hid (HT w5 (Off2 w5 p g) p g r5) := ht5.off
      have HC5 : Hid (Chg (X2 p g) w w5) := HC4.out.trans (off_chg hk5)
      have HS5 : Hid (w5.cell? ⟨lb, 0, none⟩ = some (.pointer (some ⟨p, 0, none⟩))) := by
        have h9 := cell_of_row w5 lb 0 _ _ _ ((HC5.out.at_ Hl.out.lt (H.out.lne Hl.out)).trans Hl.out)
        simp at h9
        exact h9
      clear ht5 hk5
      refine hK.out _ _ ?_ (fun hHeld' => ?_)
      · (first | exact c0 | exact hHeld | exact HS0.out | exact HS5.out)
      clear hK K hHeld
      have hHeld := hHeld'
      clear hHeld'
      simp only [List.set_cons_zero, List.set_cons_succ]
      refine tk 20 12 hHeld ?_
      refine wpAnyH_done (by kernel_rfl) ?_ _
      refine NoPanic.normal ?_
      have HE := Hstep.out
      by_cases h0 : en = 0
      · have tz : ((en : Int) != 0) = false := by rw [h0]; rfl
        rw [if_pos h0] at HE
        have HE' : Hid (wrR fr turn b r5 (List.range' (j + 1) (k - (j + 1))) = R) := HE.symm.trans Hwr.out
        clear h0 HE hHeld
        go_wp2_with fail
        go_roundg (gk - 1)
        case measure => omega
        case rel => exact ⟨j + 1, r5, by omega, by go_num, HE'.out, HT5.out, HC5.out, Hr5.out.1, Hr5.out.2⟩
      · have tz : ((en : Int) != 0) = true := by rw [bne_iff_ne]; omega
        rw [if_neg h0] at HE
        have HE' : Hid (R = (en, r5)) := Hwr.out.symm.trans HE
        clear h0 HE hHeld
        go_wp2_with fail
        go_ret
        rw [HE'.out]
        exact ⟨rfl, HT5.out, HC5.out⟩
    · have hjk : j = k := by omega
      have y1 : ¬ (j : Int) < (k : Int) := by omega
      have HE : Hid (R = (0, rj)) := by
        have h9 := Hwr.out
        rw [show k - j = 0 by omega] at h9
        exact h9.symm
      clear hjk hlt
      go_wp2_with (first
        | (go_at_call 88; (with_reducible refine (sectors_any _ n c _ (by omega)).mono ?_)
           rintro e w2 ⟨rfl, hw2⟩
           obtain rfl := hw2.symm
           rw [← Hk1.out]))
      go_ret
      rw [HE.out]
      exact ⟨rfl, HT'.out, HC.out⟩
end Go.Proofs.Ytcdgaeenfhpnkaa.Cr
