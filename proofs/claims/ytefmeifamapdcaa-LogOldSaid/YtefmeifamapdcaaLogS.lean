/- The statements on logs: what they are handed in (slices of slices, numbers of 16 bits); a list of records that a statement keeps; Great. -/
import Derived.Test.YtefmeifamapdcaaLogR
import Derived.Test.YtefmeifamapdcaaLogOps
set_option linter.unusedVariables false
set_option linter.unusedSimpArgs false
set_option maxRecDepth 100000
namespace Go.Proofs.Ytefmeifamapdcaa
open Go Go.RowKit Go.ChangeShapes Go.WideShapes Go.ChangeAt CrcMath

structure Bsl where
  A : Option Addr
  len : Nat
  cap : Nat
  b : List Nat
def Bsl.cells (r : Bsl) : List Value := [.slice r.A r.len r.cap]
def Bsl.ok (w : World) (B : Nat) (r : Bsl) : Prop := Rd w B 1 r.A r.len (r.b.map bv) ∧ (∀ c ∈ r.b, c < 256) ∧ r.len ≤ r.cap ∧ r.cap ≤ maxLen
def Bss (w : World) (B : Nat) (A : Option Addr) (n : Nat) (l : List Bsl) : Prop := RdS Bsl.cells w B 1 A n l ∧ ∀ r ∈ l, r.ok w B
theorem Bss.below {w w' : World} {B n : Nat} {A : Option Addr} {l : List Bsl} (h : Bss w B A n l) (hb : Below B w w') : Bss w' B A n l :=
  ⟨h.1.below hb, fun r hr => by obtain ⟨h1, h2⟩ := h.2 r hr; exact ⟨h1.below hb, h2⟩⟩
theorem bss_rows {H : Type} {enc : TypeId × Value → H} {W : World} {A : Option Addr} {len cap : Nat} {d : DataW H} {ps : List MemPlace}
    (h : DataW.Trod enc Try.prog W 0 (fun _ => true) true 29 (.slice A len cap) d ps) : ∃ l : List Bsl, Bss W W.heap.size A len l ∧ len ≤ cap ∧ cap ≤ maxLen := by
  obtain ⟨fuel, hf⟩ := h
  obtain ⟨l, h1, h2, h3⟩ := rows_of_trod Bsl.cells (fun r => r.ok W W.heap.size) Try.underlying29 (k := 1) (by kernel_rfl) (by omega) (fun _ => rfl) (fun fuel cs x hx => by
    rcases DataW.trod_slice Try.underlying23 hx with ⟨h, _⟩ | ⟨a, len, cap, _, _, _, _, h, _⟩
    · subst h
      obtain ⟨l, r1, r2, r3, r4⟩ := bytes_of_trod Try.underlying23 Try.underlying5 (by kernel_rfl) hx
      exact ⟨⟨none, 0, 0, l⟩, rfl, r1, r2, r3, r4⟩
    · subst h
      obtain ⟨l, r1, r2, r3, r4⟩ := bytes_of_trod Try.underlying23 Try.underlying5 (by kernel_rfl) hx
      exact ⟨⟨some a, len, cap, l⟩, rfl, r1, r2, r3, r4⟩) hf
  exact ⟨l, ⟨h1, h2⟩, h3⟩
theorem u16s_rows {H : Type} {enc : TypeId × Value → H} {W : World} {A : Option Addr} {len cap : Nat} {d : DataW H} {ps : List MemPlace}
    (h : DataW.Trod enc Try.prog W 0 (fun _ => true) true 39 (.slice A len cap) d ps) : ∃ l : List Int, RdS (fun z : Int => [Value.int .u16 z]) W W.heap.size 1 A len l ∧ (∀ z ∈ l, 0 ≤ z ∧ z < 65536) ∧ len ≤ cap ∧ cap ≤ maxLen := by
  obtain ⟨fuel, hf⟩ := h
  exact rows_of_trod (fun z : Int => [Value.int .u16 z]) (fun z => 0 ≤ z ∧ z < 65536) Try.underlying39 (k := 1) (by kernel_rfl) (by omega) (fun _ => rfl) (fun fuel cs x hx => by
    obtain ⟨z, e, _, w⟩ := DataW.trod_int Try.underlying40 hx
    exact ⟨z, e, wf_u16_lt w⟩) hf

/-- a list of records that a statement keeps: its own row, of slices that lie below block B0 -/
def HvOk (W : World) (base B0 : Nat) (v : Value) (l : List (List Nat)) : Prop :=
  ∃ vs : List Value, W.ownsRow base 23 1 v l.length vs ∧ ∀ (j : Nat) (r : List Nat), l[j]? = some r → ∃ A n cc, vs[j]? = some (.slice A n cc) ∧ Rd W B0 1 A n (r.map bv)
theorem hv_shape {W : World} {base B0 : Nat} {v : Value} {l : List (List Nat)} (h : HvOk W base B0 v l) : ∃ A c, v = .slice A l.length c := by
  obtain ⟨vs, h1, _⟩ := h
  exact own_shape h1
theorem HvOk.nil_ (W : World) (base B0 : Nat) : HvOk W base B0 (.slice none 0 0) [] := ⟨[], World.ownsRow_nil _ _ _ _, fun j r hj => by simp at hj⟩
theorem HvOk.ss {W : World} {base B0 n c : Nat} {A : Option Addr} {l : List (List Nat)} (h : HvOk W base B0 (.slice A n c) l) (hB : B0 ≤ W.heap.size) (hn : l.length = n) : SS W A n l := by
  obtain ⟨vs, h1, h2⟩ := h
  refine ⟨hn, fun h0 => ?_⟩
  rw [hn] at h1
  obtain ⟨_, g, rfl, _, _, hc, _⟩ := own_some h1 h0
  refine ⟨g, 0, rfl, fun j r hj => ?_⟩
  obtain ⟨A', n', c', e, hr⟩ := h2 j r hj
  exact ⟨A', n', c', by rw [Nat.zero_add]; exact hc j _ e, hr.more hB⟩
/-- a row that is owned stays where no block of its type turns -/
theorem own_chg {W W' : World} {X : Nat → Prop} {base e size n : Nat} {v : Value} {xs : List Value} (h : W.ownsRow base e size v n xs) (hc : Chg X W W') (hX : ∀ g cur fr, W.heap[g]? = some (.cells cur e fr) → base ≤ g → ¬ X g) : W'.ownsRow base e size v n xs := by
  refine ⟨h.1, ?_⟩
  rcases h.2 with h2 | ⟨g, cap, cur, hv, hb, hg, r⟩
  · exact .inl h2
  · exact .inr ⟨g, cap, cur, hv, hb, (hc.at_ (Array.getElem?_eq_some_iff.1 hg).1 (hX g cur _ hg hb)).trans hg, r⟩
theorem HvOk.chg {W W' : World} {X : Nat → Prop} {base B0 : Nat} {v : Value} {l : List (List Nat)} (h : HvOk W base B0 v l) (hc : Chg X W W') (hX : ∀ g cur fr, W.heap[g]? = some (.cells cur 23 fr) → base ≤ g → ¬ X g) (hB : B0 ≤ W.heap.size) (hXB : ∀ k, X k → B0 ≤ k) : HvOk W' base B0 v l := by
  obtain ⟨vs, h1, h2⟩ := h
  refine ⟨vs, own_chg h1 hc hX, fun j r hj => ?_⟩
  obtain ⟨A, n, cc, e, hr⟩ := h2 j r hj
  exact ⟨A, n, cc, e, hr.below (hc.below hB hXB)⟩
theorem HvOk.below {W W' : World} {base B0 : Nat} {v : Value} {l : List (List Nat)} (h : HvOk W base B0 v l) (hb : Below W.heap.size W W') (hB : B0 ≤ W.heap.size) : HvOk W' base B0 v l := by
  obtain ⟨vs, h1, h2⟩ := h
  refine ⟨vs, own_below h1 hb, fun j r hj => ?_⟩
  obtain ⟨A, n, cc, e, hr⟩ := h2 j r hj
  exact ⟨A, n, cc, e, hr.below (hb.mono hB)⟩
section
variable {w w' : World} {p q m k half turn taken lb : Nat} {l : List (List Nat)}
/-- the blocks of a log are of types of their own -/
theorem three_not (hd : DK w p q m k half turn taken l) (hl : LogAt w lb p half turn taken) {e : TypeId} (h1 : 48 ≠ e) (h2 : 73 ≠ e) (h3 : 50 ≠ e) (g : Nat) (cur : Array Value) (fr : Nat × Nat) (hg : w.heap[g]? = some (.cells cur e fr)) : ¬ three p q lb g := by
  obtain ⟨d, ⟨c, h⟩, _⟩ := hd
  rintro (rfl | rfl | rfl)
  · have := h.hp
    rw [hg] at this
    injection this with this
    injection this with _ h9
    exact h1 h9.symm
  · have := h.hq
    rw [hg] at this
    injection this with this
    injection this with _ h9
    exact h2 h9.symm
  · rw [show w.heap[g]? = _ from hl] at hg
    injection hg with hg
    injection hg with _ h9
    exact h3 h9
theorem HvOk.chg3 {base B0 : Nat} {v : Value} {x : List (List Nat)} (h : HvOk w base B0 v x) (hd : DK w p q m k half turn taken l) (hl : LogAt w lb p half turn taken) (hc : Chg (three p q lb) w w') (hp : B0 ≤ p) (hq : B0 ≤ q) (hlb : B0 ≤ lb) : HvOk w' base B0 v x :=
  h.chg hc (fun g cur fr hg _ => three_not hd hl (by decide) (by decide) (by decide) g cur fr hg) (by have := hd.pl; omega) (fun k hk => by rcases hk with rfl | rfl | rfl <;> assumption)
theorem OutOk.chg3 {base Bo : Nat} {v : Value} {x : List (List Nat)} (h : OutOk w base Bo v x) (hd : DK w p q m k half turn taken l) (hl : LogAt w lb p half turn taken) (hc : Chg (three p q lb) w w') : OutOk w' base Bo v x :=
  h.keep (fun _ _ h1 => own_chg h1 hc (fun g cur fr hg _ => three_not hd hl (by decide) (by decide) (by decide) g cur fr hg)) (fun g cur hg _ _ => hc.at_ (Array.getElem?_eq_some_iff.1 hg).1 (three_not hd hl (by decide) (by decide) (by decide) g cur _ hg))
theorem LogAt.chg3 {lx h2 t2 k2 : Nat} (h : LogAt w lx p h2 t2 k2) (hd : DK w p q m k half turn taken l) (hl : LogAt w lb p half turn taken) (hc : Chg (three p q lb) w w') (hne : lx ≠ lb) : LogAt w' lx p h2 t2 k2 := by
  refine h.keep (hc.at_ h.lt ?_)
  obtain ⟨d, ⟨c, hh⟩, _⟩ := hd
  rintro (rfl | rfl | e)
  · have := hh.hp
    rw [show w.heap[lx]? = _ from h] at this
    injection this with this
    injection this with _ h9
    exact absurd h9 (by decide)
  · have := hh.hq
    rw [show w.heap[lx]? = _ from h] at this
    injection this with this
    injection this with _ h9
    exact absurd h9 (by decide)
  · exact hne e
end
/-- what is put behind the records that are kept -/
theorem wpList_hv {w w0 : World} {ops : Array Oper} {rest : List Oper} {o : Oper} {a : Act} {Q : Exit → Act → World → Prop} (hgd : o.guard = none) (s x : Operand)
    (ho : o.op = .call { callee := .builtin .append, args := #[s, x], argTypes := #[29, 29] }) (hot : o.type = 29)
    (base B0 : Nat) (v : Value) (l : List (List Nat)) (hv : HvOk w0 base B0 v l) (hs : a.eval s = v) (A : Option Addr) (n c : Nat) (b : List Nat) (hr : Rd w0 B0 1 A n (b.map bv))
    (hx : a.eval x = .slice (some ⟨w0.heap.size, 0, none⟩) 1 1) (hw : w = w0.alloc (.cells #[.slice A n c] 23)) (hl : l.length ≤ 1000000) (hbase : base ≤ w0.heap.size) (hB : B0 ≤ base)
    (h : ∀ v' w', HvOk w' base B0 v' (l ++ [b]) → Below base w0 w' → wpList Try.prog ops Q rest (a.put o.dst v') w') : wpList Try.prog ops Q (o :: rest) a w := by
  subst hw
  obtain ⟨vs, h1, h2⟩ := hv
  obtain ⟨i0, hi, hz0, hz1, hz2⟩ := info_parts info_bs
  have hal : Below w0.heap.size w0 (w0.alloc (.cells #[.slice A n c] 23)) := (Below.refl _ _).alloc (Nat.le_refl _) _
  refine wpList_app _ hgd s x 29 ho base 23 i0 (.slice none 0 0) 1 24 (by rw [← hot] ; exact hot ▸ Try.underlying29) hi hz0 hz1 hz2 rfl (by omega) v l.length vs hs (own_below h1 hal) (w0.heap.size + 1) (some ⟨w0.heap.size, 0, none⟩) 1 1 [.slice A n c] hx ?_ ?_ ?_ ?_ ?_ ?_
  · exact rd_new w0 [.slice A n c] 23 1 1 rfl
  · intro u hu
    rw [List.mem_singleton.1 hu]; rfl
  · unfold maxLen; omega
  · omega
  · rw [World.size_alloc]; omega
  · intro v' w' hown hg _
    have hrow : ∀ g, v.ownBlock = some g → base ≤ g := fun g e => by
      rcases h1.2 with ⟨rfl, _⟩ | ⟨g', cap, cur, rfl, hb, _⟩
      · simp [Value.ownBlock] at e
      · have : g' = g := by simpa [Value.ownBlock] using e
        omega
    have hb : Below base w0 w' := (hal.mono hbase).grown hg (by rw [World.size_alloc]; omega) hrow
    refine h v' w' ⟨vs ++ [.slice A n c], by rw [List.length_append]; exact hown, fun j r hj => ?_⟩ hb
    have hvl : vs.length = l.length := by have := h1.1; omega
    rcases Nat.lt_or_ge j l.length with hlt | hge
    · rw [List.getElem?_append_left hlt] at hj
      obtain ⟨A', n', cc', e, hr'⟩ := h2 j r hj
      exact ⟨A', n', cc', by rw [List.getElem?_append_left (by omega)]; exact e, hr'.below (hb.mono hB)⟩
    · rw [List.getElem?_append_right hge] at hj
      have hj0 : j - l.length = 0 := by
        have := (List.getElem?_eq_some_iff.1 hj).1
        simp at this
        omega
      rw [hj0] at hj
      simp at hj
      subst hj
      exact ⟨A, n, c, by rw [List.getElem?_append_right (by omega), hvl, hj0]; rfl, hr.below (hb.mono hB)⟩
/-- a list of one record -/
theorem HvOk.one {w : World} {base B0 n c : Nat} {A : Option Addr} {b : List Nat} (hr : Rd w B0 1 A n (b.map bv)) (hB : B0 ≤ w.heap.size) (hbase : base ≤ w.heap.size) : HvOk (w.alloc (.cells #[.slice A n c] 23)) base B0 (.slice (some ⟨w.heap.size, 0, none⟩) 1 1) [b] := by
  refine ⟨[.slice A n c], ⟨rfl, .inr ⟨w.heap.size, 1, _, rfl, hbase, heap_alloc_new w _, Nat.le_refl _, by simp [maxLen], rfl, rfl⟩⟩, fun j r hj => ?_⟩
  have hj0 : j = 0 := by
    have := (List.getElem?_eq_some_iff.1 hj).1
    simp at this
    exact this
  subst hj0
  simp at hj
  subst hj
  exact ⟨A, n, c, rfl, hr.alloc hB _⟩

def GreatPost (w : World) (n : Nat) (e : Ending) (w' : World) : Prop := ∃ b : Bool, e = .returned (.bool b) ∧ (b = false → n ≤ 200) ∧ w' = w
set_option maxHeartbeats 1000000 in
theorem great_any (A : Option Addr) (n c B : Nat) (l : List Opr) (w : World) (hr : Ops w B A n l) (hn : n ≤ maxLen) :
    Calls Try.prog 9 #[.slice A n c] w (GreatPost w n) := by
  have hl : l.length = n := hr.1
  have hmax : n ≤ 9223372036854775807 := by unfold maxLen at hn; omega
  go_enter Try.func9, Try.ntmps9
  go_wp2_with fail
  go_loopg [3, 4] n (fun k s i wr => ∃ (j : Nat) (v : Int), k + j = n ∧ i = .int .i64 j ∧ s = .int .i64 v ∧ 0 ≤ v ∧ v ≤ 9223372036854775807 ∧ wr = w)
  case atStart => exact ⟨0, n, by omega, rfl, rfl, by omega, by omega, rfl⟩
  case round =>
    obtain ⟨j, v, hj, rfl, rfl, hv0, hv1, rfl⟩ := hrel
    by_cases hlt : j < n
    · have hi0 : (0 : Int) ≤ (j : Int) := by omega
      have hi1 : (j : Int) < (n : Int) := by omega
      obtain ⟨b, o, rfl, hbB, hc⟩ := hr.2.2 (by omega)
      obtain ⟨r, hr1⟩ : ∃ r, l[j]? = some r := ⟨_, List.getElem?_eq_getElem (by omega)⟩
      obtain ⟨_, _, _, c3⟩ := hc j r hr1
      have hc' := Lib.hid hc
      clear hc hr1
      by_cases hv : v < 30000
      · go_wp2_with fail
        all_goals
          go_roundg (gk - 1)
          case measure => omega
          case rel => exact ⟨j + 1, _, by omega, by go_num, rfl, by omega, by omega, rfl⟩
      · go_wp2_with fail
        go_ret
        exact ⟨_, rfl, fun h => by simp at h, rfl⟩
    · go_wp2_with fail
      all_goals
        go_ret
        exact ⟨_, rfl, fun h => by simp at h <;> omega, rfl⟩
end Go.Proofs.Ytefmeifamapdcaa
