/- Package store: bytes of a record. -/
import Derived.Test.YtcdgaeenfhpnkaaPk15
set_option linter.unusedVariables false
set_option linter.unusedSimpArgs false
set_option maxRecDepth 100000
namespace Go.Proofs.Ytcdgaeenfhpnkaa
open Go Go.RowKit
attribute [local go_sem] Oper.semAt_some

/-- a state's three slices -/
structure StV where
  A1 : Option Addr
  n1 : Nat
  c1 : Nat
  A2 : Option Addr
  n2 : Nat
  c2 : Nat
  A3 : Option Addr
  n3 : Nat
  c3 : Nat
structure StR (w : World) (B : Nat) (v : StV) (s : St) : Prop where
  r1 : RdS Lt.cells w B 3 v.A1 v.n1 s.causes
  r2 : RdS Lt.cells w B 3 v.A2 v.n2 s.effects
  r3 : RdS ivw w B 1 v.A3 v.n3 s.ends
  k1 : v.n1 ≤ v.c1 ∧ v.c1 ≤ maxLen
  k2 : v.n2 ≤ v.c2 ∧ v.c2 ≤ maxLen
  k3 : v.n3 ≤ v.c3 ∧ v.c3 ≤ maxLen
theorem StR.below {w w' : World} {B : Nat} {v : StV} {s : St} (h : StR w B v s) (hb : Below B w w') : StR w' B v s :=
  ⟨h.r1.below hb, h.r2.below hb, h.r3.below hb, h.k1, h.k2, h.k3⟩
theorem StR.more {w : World} {B B' : Nat} {v : StV} {s : St} (h : StR w B v s) (hB : B ≤ B') : StR w B' v s :=
  ⟨h.r1.more hB, h.r2.more hB, h.r3.more hB, h.k1, h.k2, h.k3⟩
set_option maxHeartbeats 4000000 in
theorem rightState_any (v : StV) (s : St) (B : Nat) (w : World) (h : StR w B v s) (hB : B ≤ w.heap.size) :
    Calls Try.prog 38 #[.agg #[.slice v.A1 v.n1 v.c1, .slice v.A2 v.n2 v.c2, .slice v.A3 v.n3 v.c3]] w fun e w' => e = .returned (.bool (decide (okS s))) ∧ Below w.heap.size w w' := by
  obtain ⟨A1, n1, c1, A2, n2, c2, A3, n3, c3⟩ := v
  have l1 : s.causes.length = n1 := h.r1.1
  have l2 : s.effects.length = n2 := h.r2.1
  have l3 : s.ends.length = n3 := h.r3.1
  have hk1 := h.k1
  have hk2 := h.k2
  have hk3 := h.k3
  dsimp only at hk1 hk2 hk3
  have m1 : n1 ≤ 9223372036854775807 := by have := hk1.2; unfold maxLen at this; omega
  have m2 : n2 ≤ 9223372036854775807 := by have := hk2.2; unfold maxLen at this; omega
  have m3 : n3 ≤ 9223372036854775807 := by have := hk3.2; unfold maxLen at this; omega
  have x1 : n1 ≤ maxLen := by omega
  have x2 : n2 ≤ maxLen := by omega
  have x3 : n3 ≤ maxLen := by omega
  have ok : decide (okS s) = (decide (n1 ≤ 8) && decide (n3 = n1) && decide (n2 ≤ 8) && decide (∀ l ∈ s.causes, okL l) && decide (∀ l ∈ s.effects, okL l) && decide (∀ t ∈ s.ends, okT t)) := by
    rw [Bool.eq_iff_iff]
    simp only [Bool.and_eq_true, decide_eq_true_eq, okS, l1, l2, l3, and_assoc]
  have hb1 : Below w.heap.size w (w.alloc (.cells #[.slice A1 n1 c1, .slice A2 n2 c2, .slice A3 n3 c3] 25)) := (Below.refl _ _).alloc (Nat.le_refl _) _
  have Hb1 := Lib.hid hb1
  have H := Lib.hid (h.below (hb1.mono hB))
  have Ok := Lib.hid ok
  clear ok h hb1 l1 l2 l3 hk1 hk2 hk3
  have go : ¬ (n1 : Int) ≤ 8 ∨ (n1 : Int) ≤ 8 ∧ ((n3 : Int) == (n1 : Int)) = false ∨ (n1 : Int) ≤ 8 ∧ ((n3 : Int) == (n1 : Int)) = true ∧ ¬ (n2 : Int) ≤ 8 ∨ (n1 : Int) ≤ 8 ∧ ((n3 : Int) == (n1 : Int)) = true ∧ (n2 : Int) ≤ 8 := by
    simp only [beq_iff_eq, beq_eq_false_iff_ne]; omega
  rcases go with t1 | ⟨t1, t2⟩ | ⟨t1, t2, t3⟩ | ⟨t1, t2, t3⟩
  · go_enter Try.func38, Try.ntmps38
    go_wp2_with fail
    go_ret
    refine ⟨ret_bool2 ?_, Hb1.out⟩
    rw [Ok.out, decide_eq_false (by omega : ¬ n1 ≤ 8)]
    simp
  · go_enter Try.func38, Try.ntmps38
    go_wp2_with fail
    go_ret
    refine ⟨ret_bool2 ?_, Hb1.out⟩
    rw [Ok.out, decide_eq_false (by rw [beq_eq_false_iff_ne] at t2; omega : ¬ n3 = n1)]
    simp
  · go_enter Try.func38, Try.ntmps38
    go_wp2_with fail
    go_ret
    refine ⟨ret_bool2 ?_, Hb1.out⟩
    rw [Ok.out, decide_eq_false (by omega : ¬ n2 ≤ 8)]
    simp
  · have e1 : decide (n1 ≤ 8) = true := decide_eq_true (by omega)
    have e2 : decide (n3 = n1) = true := decide_eq_true (by rw [beq_iff_eq] at t2; omega)
    have e3 : decide (n2 ≤ 8) = true := decide_eq_true (by omega)
    have Ok2 : Hid (decide (okS s) = (decide (∀ l ∈ s.causes, okL l) && decide (∀ l ∈ s.effects, okL l) && decide (∀ t ∈ s.ends, okT t))) := by
      show _ = _
      rw [Ok.out, e1, e2, e3]; simp
    clear e1 e2 e3
    cases d1 : decide (∀ l ∈ s.causes, okL l) <;> cases d2 : decide (∀ l ∈ s.effects, okL l) <;> cases d3 : decide (∀ t ∈ s.ends, okT t)
    all_goals
      have D1 := Lib.hid d1
      have D2 := Lib.hid d2
      have D3 := Lib.hid d3
      clear d1 d2 d3
      go_enter Try.func38, Try.ntmps38
      go_wp2_with (first
        | (go_at_call 64; (with_reducible refine (all_lt A1 n1 c1 B s.causes _ H.out.r1 (by rw [World.size_alloc]; omega) x1).mono ?_)
           rintro e w1 ⟨he, hb1⟩
           rw [D1.out] at he
           subst he
           rw [World.size_alloc] at hb1
           have HB1 := Lib.hid hb1
           have z0 := hb1.cell (p := ⟨w.heap.size, 1, none⟩) (Nat.lt_succ_self _)
           have z1 := hb1.cell (p := ⟨w.heap.size, 2, none⟩) (Nat.lt_succ_self _)
           rw [cell_of_row _ w.heap.size _ _ _ _ (heap_alloc_new w _)] at z0 z1
           simp at z0 z1
           clear hb1)
        | (go_at_call 64; (with_reducible refine (all_lt A2 n2 c2 B s.effects w1 (H.out.r2.below (HB1.out.mono (by omega))) (by have := HB1.out.size; rw [World.size_alloc] at this; omega) x2).mono ?_)
           rintro e w2 ⟨he, hb2⟩
           rw [D2.out] at he
           subst he
           have HB2 : Hid (Below (w.heap.size + 1) (w.alloc (.cells #[.slice A1 n1 c1, .slice A2 n2 c2, .slice A3 n3 c3] 25)) w2) := HB1.out.trans (hb2.mono (by have := HB1.out.size; rwa [World.size_alloc] at this))
           have y1 := (hb2.cell (p := ⟨w.heap.size, 2, none⟩) (by have := HB1.out.size; rw [World.size_alloc] at this; exact this)).trans z1
           clear hb2)
        | (go_at_call 65; (with_reducible refine (all_time A3 n3 c3 B s.ends w2 (H.out.r3.below (HB2.out.mono (by omega))) (by have := HB2.out.size; rw [World.size_alloc] at this; omega) x3).mono ?_)
           rintro e w3 ⟨he, hb3⟩
           rw [D3.out] at he
           subst he
           have HB3 : Hid (Below (w.heap.size + 1) (w.alloc (.cells #[.slice A1 n1 c1, .slice A2 n2 c2, .slice A3 n3 c3] 25)) w3) := HB2.out.trans (hb3.mono (by have := HB2.out.size; rwa [World.size_alloc] at this))
           clear hb3))
      go_ret
      refine ⟨ret_bool2 ?_, ?_⟩
      · rw [Ok2.out, D1.out, D2.out, D3.out]; rfl
      · first
          | exact Hb1.out.trans (HB3.out.mono (by omega))
          | exact Hb1.out.trans (HB2.out.mono (by omega))
          | exact Hb1.out.trans (HB1.out.mono (by omega))
/-! ### bytes -/
def byteAt (t s : Nat) : Nat := t / s % 256
def six (t : Nat) : List Nat := [t / 1099511627776 % 256, t / 4294967296 % 256, t / 16777216 % 256, t / 65536 % 256, t / 256 % 256, t % 256]
/-- of the blocks that are there no other one turned than the row's own -/
def RowFr (v : Value) (w : World) (v' : Value) (w' : World) : Prop := Chg (fun g => v.ownBlock = some g) w w' ∧ (v'.ownBlock = v.ownBlock ∨ ∃ g, v'.ownBlock = some g ∧ w.heap.size ≤ g)
theorem RowFr.refl (v : Value) (w : World) : RowFr v w v w := ⟨Chg.refl _ _, .inl rfl⟩
theorem RowFr.of {v : Value} {w w' : World} (hb : Below w.heap.size w w') : RowFr v w v w' := ⟨Chg.of hb, .inl rfl⟩
theorem RowFr.trans {v v1 v2 : Value} {a b c : World} (h : RowFr v a v1 b) (k : RowFr v1 b v2 c) : RowFr v a v2 c := by
  have hs := h.1.size
  refine ⟨⟨k.1.os.trans h.1.os, k.1.tape.trans h.1.tape, k.1.output.trans h.1.output, Nat.le_trans hs k.1.size, fun i hi => ?_⟩, ?_⟩
  · refine (k.1.block i ⟨Nat.lt_of_lt_of_le hi.1 hs, fun e => ?_⟩).trans (h.1.block i hi)
    rcases h.2 with h2 | ⟨g, h2, h3⟩
    · exact hi.2 (h2.symm.trans e)
    · have e' : v1.ownBlock = some i := e
      rw [h2] at e'
      injection e' with e'
      have := hi.1
      omega
  · rcases k.2 with k2 | ⟨g, k2, k3⟩
    · rcases h.2 with h2 | ⟨g, h2, h3⟩
      · exact .inl (k2.trans h2)
      · exact .inr ⟨g, k2.trans h2, h3⟩
    · exact .inr ⟨g, k2, Nat.le_trans hs k3⟩
theorem own_at {w : World} {base e size n : Nat} {v : Value} {xs : List Value} (h : w.ownsRow base e size v n xs) : ∀ g, v.ownBlock = some g → base ≤ g ∧ g < w.heap.size := by
  intro g e'
  rcases h.2 with ⟨rfl, _⟩ | ⟨g', cap, cur, rfl, hb, hg, _⟩
  · simp [Value.ownBlock] at e'
  · have : g' = g := by simpa [Value.ownBlock] using e'
    subst this
    exact ⟨hb, (Array.getElem?_eq_some_iff.1 hg).1⟩
theorem RowFr.below {v v' : Value} {w w' : World} {base e size n B : Nat} {xs : List Value} (h : RowFr v w v' w') (ho : w.ownsRow base e size v n xs) (hB : B ≤ base) (hBw : B ≤ w.heap.size) : Below B w w' :=
  h.1.below hBw (fun k hk => Nat.le_trans hB (own_at ho k hk).1)
/-- a row of bytes that the call owns is given back longer -/
def RowPost (base : Nat) (v : Value) (w : World) (xs : List Nat) (e : Ending) (w' : World) : Prop := ∃ v', e = .returned v' ∧ w'.ownsRow base 5 1 v' xs.length (xs.map bv) ∧ RowFr v w v' w'
theorem info_u8r : (Try.prog.info? 5).map (fun i => (i.zero, i.size, i.bytes)) = some (some (.int .u8 0), 1, 1) := by kernel_rfl
/-- bytes of a literal are put behind a row of the call's own -/
theorem wp_bytes {w w0 : World} {o : Oper} {a : Act} {K : Act → World → Prop} {Q : Exit → Act → World → Prop} (s x : Operand)
    (ho : o.op = .call { callee := .builtin .append, args := #[s, x], argTypes := #[27, 27] })
    (base : Nat) (v : Value) (k : Nat) (xs : List Nat) (hown : w0.ownsRow base 5 1 v k (xs.map bv)) (hs : a.eval s = v) (cs : Array Value) (bs : List Nat) (n : Nat) (hw : w = w0.alloc (.cells cs 5)) (hcs : cs = (bs.map bv).toArray) (hn : bs.length = n)
    (hx : a.eval x = .slice (some ⟨w0.heap.size, 0, none⟩) n n) (hl : k + n ≤ 1000000) (hbase : base ≤ w0.heap.size)
    (h : ∀ v' w', w'.ownsRow base 5 1 v' (k + n) ((xs ++ bs).map bv) → RowFr v w0 v' w' → K (a.put o.dst v') w') : o.wp Try.prog a w K Q := by
  subst hw hcs hn
  obtain ⟨i0, hi, hz0, hz1, hz2⟩ := info_parts info_u8r
  have hal : Below w0.heap.size w0 (w0.alloc (.cells (bs.map bv).toArray 5)) := (Below.refl _ _).alloc (Nat.le_refl _) _
  refine wp_app _ s x 27 ho base 5 i0 (.int .u8 0) 1 1 Try.underlying27 hi hz0 hz1 hz2 rfl (by omega) v k (xs.map bv) hs (own_below hown hal) (w0.heap.size + 1) (some ⟨w0.heap.size, 0, none⟩) bs.length bs.length (bs.map bv) hx ?_ (bv_one bs) ?_ ?_ ?_ ?_
  · exact rd_new w0 (bs.map bv) 5 bs.length bs.length (by simp)
  · unfold maxLen; omega
  · omega
  · rw [World.size_alloc]; omega
  · intro v' w' hown' hg hat
    refine h v' w' (by rw [List.map_append]; exact hown') ?_
    refine (RowFr.of (v := v) hal).trans ⟨Chg.grown hg (fun g e => e), ?_⟩
    rcases hat with h2 | h2
    · exact .inl h2
    · exact .inr ⟨_, h2, by rw [World.size_alloc]; omega⟩
theorem wpList_bytes {w w0 : World} {ops : Array Oper} {rest : List Oper} {o : Oper} {a : Act} {Q : Exit → Act → World → Prop} (hgd : o.guard = none) (s x : Operand)
    (ho : o.op = .call { callee := .builtin .append, args := #[s, x], argTypes := #[27, 27] })
    (base : Nat) (v : Value) (k : Nat) (xs : List Nat) (hown : w0.ownsRow base 5 1 v k (xs.map bv)) (hs : a.eval s = v) (cs : Array Value) (bs : List Nat) (n : Nat) (hw : w = w0.alloc (.cells cs 5)) (hcs : cs = (bs.map bv).toArray) (hn : bs.length = n)
    (hx : a.eval x = .slice (some ⟨w0.heap.size, 0, none⟩) n n) (hl : k + n ≤ 1000000) (hbase : base ≤ w0.heap.size)
    (h : ∀ v' w', w'.ownsRow base 5 1 v' (k + n) ((xs ++ bs).map bv) → RowFr v w0 v' w' → wpList Try.prog ops Q rest (a.put o.dst v') w') : wpList Try.prog ops Q (o :: rest) a w :=
  wpList_plain hgd fun _ hK => wp_bytes s x ho base v k xs hown hs cs bs n hw hcs hn hx hl hbase fun v' w' h1 h2 => hK _ _ (h v' w' h1 h2)
set_option maxHeartbeats 2000000 in
theorem putTime_any (base : Nat) (v : Value) (xs : List Nat) (t : Nat) (w : World) (ho : w.ownsRow base 5 1 v xs.length (xs.map bv)) (hb : base ≤ w.heap.size) (ht : t ≤ 2199023255552) (hx : xs.length ≤ 100000) :
    Calls Try.prog 41 #[v, .int .i64 t] w (RowPost base v w (xs ++ six t)) := by
  obtain ⟨A0, c0, rfl⟩ := own_shape ho
  obtain ⟨i0, hi, hz0, hz1, hz2⟩ := info_parts info_u8r
  have ht0 : (0 : Int) ≤ (t : Int) := by omega
  have ht1 : (t : Int) ≤ 2199023255552 := by omega
  have Ho := Lib.hid ho
  clear ho
  go_enter Try.func41, Try.ntmps41
  go_wp2_with fail
  go_loopg [0, 5] 6 (fun k s i wr => ∃ (j : Nat) (A : Option Addr) (c : Nat), k + j = 6 ∧ i = .int .i64 (40 - 8 * (j : Int)) ∧ s = .slice A (xs.length + j) c ∧ wr.ownsRow base 5 1 (.slice A (xs.length + j) c) (xs.length + j) ((xs ++ (six t).take j).map bv) ∧ RowFr (.slice A0 xs.length c0) w (.slice A (xs.length + j) c) wr)
  case atStart => exact ⟨0, A0, c0, rfl, rfl, rfl, by simpa using Ho.out, RowFr.refl _ _⟩
  case round =>
    obtain ⟨j, A, c, hj, rfl, rfl, hown, hbel⟩ := hrel
    have go : j = 0 ∨ j = 1 ∨ j = 2 ∨ j = 3 ∨ j = 4 ∨ j = 5 ∨ j = 6 := by omega
    rcases go with rfl | rfl | rfl | rfl | rfl | rfl | rfl
    · have hown' : wr.ownsRow base 5 1 (.slice A xs.length c) xs.length (xs.map bv) := by simpa using hown
      have hbs : base ≤ wr.heap.size := Nat.le_trans hb hbel.1.size
      have hcs : (#[Value.int .u8 ((t : Int) / 1099511627776)] : Array Value) = (([t / 1099511627776 % 256] : List Nat).map bv).toArray := by
        simp only [bv, List.map_cons, List.map_nil]
        first | (congr 3; done) | (congr 3; omega)
      have Hown := Lib.hid hown'
      have Hcs := Lib.hid hcs
      clear hown hown' hcs
      go_wp2_with (first
        | (with_reducible refine wpList_bytes (w0 := wr) rfl (.tmp 10) (.tmp 15) rfl base (.slice A xs.length c) xs.length xs Hown.out rfl #[.int .u8 ((t : Int) / 1099511627776)] [t / 1099511627776 % 256] 1 rfl Hcs.out rfl rfl (by omega) hbs ?_
           intro v1 w1 hown1 hb1
           obtain ⟨A1, c1, rfl⟩ := own_shape hown1
           have Hown1 := Lib.hid hown1
           clear hown1))
      go_roundg (gk - 1)
      case measure => omega
      case rel => exact ⟨1, A1, c1, by omega, by go_num, rfl, by simpa [six] using Hown1.out, hbel.trans hb1⟩
    · have hown' : wr.ownsRow base 5 1 (.slice A (xs.length + 1) c) (xs.length + 1) ((xs ++ (six t).take 1).map bv) := by simpa using hown
      have hbs : base ≤ wr.heap.size := Nat.le_trans hb hbel.1.size
      have hcs : (#[Value.int .u8 ((t : Int) / 4294967296 % 256)] : Array Value) = (([t / 4294967296 % 256] : List Nat).map bv).toArray := by
        simp only [bv, List.map_cons, List.map_nil]
        first | (congr 3; done) | (congr 3; omega)
      have Hown := Lib.hid hown'
      have Hcs := Lib.hid hcs
      clear hown hown' hcs
      go_wp2_with (first
        | (with_reducible refine wpList_bytes (w0 := wr) rfl (.tmp 10) (.tmp 15) rfl base (.slice A (xs.length + 1) c) (xs.length + 1) (xs ++ (six t).take 1) Hown.out rfl #[.int .u8 ((t : Int) / 4294967296 % 256)] [t / 4294967296 % 256] 1 rfl Hcs.out rfl rfl (by omega) hbs ?_
           intro v1 w1 hown1 hb1
           obtain ⟨A1, c1, rfl⟩ := own_shape hown1
           have Hown1 := Lib.hid hown1
           clear hown1))
      go_roundg (gk - 1)
      case measure => omega
      case rel => exact ⟨2, A1, c1, by omega, by go_num, rfl, by simpa [six] using Hown1.out, hbel.trans hb1⟩
    · have hown' : wr.ownsRow base 5 1 (.slice A (xs.length + 2) c) (xs.length + 2) ((xs ++ (six t).take 2).map bv) := by simpa using hown
      have hbs : base ≤ wr.heap.size := Nat.le_trans hb hbel.1.size
      have hcs : (#[Value.int .u8 ((t : Int) / 16777216 % 256)] : Array Value) = (([t / 16777216 % 256] : List Nat).map bv).toArray := by
        simp only [bv, List.map_cons, List.map_nil]
        first | (congr 3; done) | (congr 3; omega)
      have Hown := Lib.hid hown'
      have Hcs := Lib.hid hcs
      clear hown hown' hcs
      go_wp2_with (first
        | (with_reducible refine wpList_bytes (w0 := wr) rfl (.tmp 10) (.tmp 15) rfl base (.slice A (xs.length + 2) c) (xs.length + 2) (xs ++ (six t).take 2) Hown.out rfl #[.int .u8 ((t : Int) / 16777216 % 256)] [t / 16777216 % 256] 1 rfl Hcs.out rfl rfl (by omega) hbs ?_
           intro v1 w1 hown1 hb1
           obtain ⟨A1, c1, rfl⟩ := own_shape hown1
           have Hown1 := Lib.hid hown1
           clear hown1))
      go_roundg (gk - 1)
      case measure => omega
      case rel => exact ⟨3, A1, c1, by omega, by go_num, rfl, by simpa [six] using Hown1.out, hbel.trans hb1⟩
    · have hown' : wr.ownsRow base 5 1 (.slice A (xs.length + 3) c) (xs.length + 3) ((xs ++ (six t).take 3).map bv) := by simpa using hown
      have hbs : base ≤ wr.heap.size := Nat.le_trans hb hbel.1.size
      have hcs : (#[Value.int .u8 ((t : Int) / 65536 % 256)] : Array Value) = (([t / 65536 % 256] : List Nat).map bv).toArray := by
        simp only [bv, List.map_cons, List.map_nil]
        first | (congr 3; done) | (congr 3; omega)
      have Hown := Lib.hid hown'
      have Hcs := Lib.hid hcs
      clear hown hown' hcs
      go_wp2_with (first
        | (with_reducible refine wpList_bytes (w0 := wr) rfl (.tmp 10) (.tmp 15) rfl base (.slice A (xs.length + 3) c) (xs.length + 3) (xs ++ (six t).take 3) Hown.out rfl #[.int .u8 ((t : Int) / 65536 % 256)] [t / 65536 % 256] 1 rfl Hcs.out rfl rfl (by omega) hbs ?_
           intro v1 w1 hown1 hb1
           obtain ⟨A1, c1, rfl⟩ := own_shape hown1
           have Hown1 := Lib.hid hown1
           clear hown1))
      go_roundg (gk - 1)
      case measure => omega
      case rel => exact ⟨4, A1, c1, by omega, by go_num, rfl, by simpa [six] using Hown1.out, hbel.trans hb1⟩
    · have hown' : wr.ownsRow base 5 1 (.slice A (xs.length + 4) c) (xs.length + 4) ((xs ++ (six t).take 4).map bv) := by simpa using hown
      have hbs : base ≤ wr.heap.size := Nat.le_trans hb hbel.1.size
      have hcs : (#[Value.int .u8 ((t : Int) / 256 % 256)] : Array Value) = (([t / 256 % 256] : List Nat).map bv).toArray := by
        simp only [bv, List.map_cons, List.map_nil]
        first | (congr 3; done) | (congr 3; omega)
      have Hown := Lib.hid hown'
      have Hcs := Lib.hid hcs
      clear hown hown' hcs
      go_wp2_with (first
        | (with_reducible refine wpList_bytes (w0 := wr) rfl (.tmp 10) (.tmp 15) rfl base (.slice A (xs.length + 4) c) (xs.length + 4) (xs ++ (six t).take 4) Hown.out rfl #[.int .u8 ((t : Int) / 256 % 256)] [t / 256 % 256] 1 rfl Hcs.out rfl rfl (by omega) hbs ?_
           intro v1 w1 hown1 hb1
           obtain ⟨A1, c1, rfl⟩ := own_shape hown1
           have Hown1 := Lib.hid hown1
           clear hown1))
      go_roundg (gk - 1)
      case measure => omega
      case rel => exact ⟨5, A1, c1, by omega, by go_num, rfl, by simpa [six] using Hown1.out, hbel.trans hb1⟩
    · have hown' : wr.ownsRow base 5 1 (.slice A (xs.length + 5) c) (xs.length + 5) ((xs ++ (six t).take 5).map bv) := by simpa using hown
      have hbs : base ≤ wr.heap.size := Nat.le_trans hb hbel.1.size
      have hcs : (#[Value.int .u8 ((t : Int) % 256)] : Array Value) = (([t % 256] : List Nat).map bv).toArray := by
        simp only [bv, List.map_cons, List.map_nil]
        first | (congr 3; done) | (congr 3; omega)
      have Hown := Lib.hid hown'
      have Hcs := Lib.hid hcs
      clear hown hown' hcs
      go_wp2_with (first
        | (with_reducible refine wpList_bytes (w0 := wr) rfl (.tmp 10) (.tmp 15) rfl base (.slice A (xs.length + 5) c) (xs.length + 5) (xs ++ (six t).take 5) Hown.out rfl #[.int .u8 ((t : Int) % 256)] [t % 256] 1 rfl Hcs.out rfl rfl (by omega) hbs ?_
           intro v1 w1 hown1 hb1
           obtain ⟨A1, c1, rfl⟩ := own_shape hown1
           have Hown1 := Lib.hid hown1
           clear hown1))
      go_roundg (gk - 1)
      case measure => omega
      case rel => exact ⟨6, A1, c1, by omega, by go_num, rfl, by simpa [six] using Hown1.out, hbel.trans hb1⟩
    · have hown' : wr.ownsRow base 5 1 (.slice A (xs.length + 6) c) (xs ++ six t).length ((xs ++ six t).map bv) := by simpa [six] using hown
      have Hown := Lib.hid hown'
      clear hown hown'
      go_wp2_with fail
      go_ret
      exact ⟨_, rfl, Hown.out, hbel⟩
end Go.Proofs.Ytcdgaeenfhpnkaa
/- Package store: bytes of a latch, of a note. -/
set_option linter.unusedVariables false
set_option linter.unusedSimpArgs false
set_option maxRecDepth 100000
namespace Go.Proofs.Ytcdgaeenfhpnkaa
open Go Go.RowKit
attribute [local go_sem] Oper.semAt_some

def b2 (b : Bool) : Nat := if b then 1 else 0
def encL (x : Lt) : List Nat := (b2 x.set + 2 * b2 x.first) :: six x.at_.toNat
def encN (x : Nt) : List Nat := [x.kind.toNat, x.who.toNat] ++ six x.at_.toNat
theorem six_len (t : Nat) : (six t).length = 6 := rfl
theorem encL_len (x : Lt) : (encL x).length = 7 := rfl
theorem encN_len (x : Nt) : (encN x).length = 8 := rfl
theorem box_ne {w : World} {base e size n : Nat} {v : Value} {xs : List Value} (h : w.ownsRow base e size v n xs) : some w.heap.size ≠ v.ownBlock := fun e' => by
  have := own_at h _ e'.symm
  omega
theorem RowFr.size {v v' : Value} {w w' : World} (h : RowFr v w v' w') : w.heap.size ≤ w'.heap.size := h.1.size
set_option maxHeartbeats 4000000 in
theorem putLatch_any (base : Nat) (v : Value) (xs : List Nat) (x : Lt) (w : World) (ho : w.ownsRow base 5 1 v xs.length (xs.map bv)) (hb : base ≤ w.heap.size) (ht : okT x.at_) (hx : xs.length ≤ 10000) :
    Calls Try.prog 40 #[v, .agg #[.bool x.set, .int .i64 x.at_, .bool x.first]] w (RowPost base v w (xs ++ encL x)) := by
  obtain ⟨s, t, f⟩ := x
  obtain ⟨A, c, rfl⟩ := own_shape ho
  obtain ⟨tn, rfl⟩ : ∃ tn : Nat, t = (tn : Int) := ⟨t.toNat, by unfold okT at ht; dsimp only at ht; omega⟩
  have ht1 : tn ≤ 2199023255552 := by unfold okT at ht; dsimp only at ht; omega
  have al : Below w.heap.size w (w.alloc (.cells #[.bool s, .int .i64 tn, .bool f] 61)) := (Below.refl _ _).alloc (Nat.le_refl _) _
  obtain ⟨w1, hw1⟩ : ∃ x, x = w.alloc (.cells #[.bool s, .int .i64 tn, .bool f] 61) := ⟨_, rfl⟩
  rw [← hw1] at al
  have hbx : w1.heap[w.heap.size]? = some (.cells #[.bool s, .int .i64 tn, .bool f] 61) := by rw [hw1]; exact heap_alloc_new _ _
  have hz1 : w1.heap.size = w.heap.size + 1 := by rw [hw1]; simp
  have c1 := cell_of_row w1 w.heap.size 1 _ _ _ hbx
  simp at c1
  have Ho := Lib.hid (own_below ho al)
  have Al := Lib.hid al
  have Hz1 := Lib.hid hz1
  have Hw1 := Lib.hid hw1
  have Hne := Lib.hid (box_ne ho)
  obtain ⟨R, hR⟩ : ∃ R, R = RowPost base (.slice A xs.length c) w (xs ++ encL ⟨s, tn, f⟩) := ⟨_, rfl⟩
  rw [← hR]
  have HR := Lib.hid hR
  obtain ⟨M, hK0⟩ : ∃ M, M = b2 s + 2 * b2 f := ⟨_, rfl⟩
  have hE : encL ⟨s, tn, f⟩ = [M] ++ six tn := by rw [hK0]; rfl
  have HK0 := Lib.hid hK0
  have HE := Lib.hid hE
  have Hnb : Hid (∀ {v' : Value} {w' : World}, RowFr (.slice A xs.length c) w1 v' w' → w'.cell? ⟨w.heap.size, 1, none⟩ = some (.int .i64 tn)) := fun hf => by
    have h1 := hf.1.at_ (i := w.heap.size) (by rw [hw1]; simp) (fun e => box_ne ho e.symm)
    exact (World.cell?_of_block h1).trans c1
  have Hca : Hid (∀ o, (w1.alloc o).cell? ⟨w.heap.size, 1, none⟩ = some (.int .i64 tn)) := fun o => (World.cell?_alloc_lt w1 o ⟨w.heap.size, 1, none⟩ (by rw [hw1]; simp)).trans c1
  clear ho al hbx hz1 hw1 hR ht hK0 hE
  cases s <;> cases f
  all_goals
    go_enter Try.func40, Try.ntmps40
    go_wp2_with fail
    rw [← Hw1.out]
    refine sk (fun w' => w'.cell? ⟨w.heap.size, 1, none⟩ = some (.int .i64 tn)) 8 ?_ (fun hHeld => ?_)
    · (first | exact c1 | exact Hca.out _ | exact hc3 | exact hc6)
    refine tk 0 14 hHeld ?_
    refine tk 1 15 hHeld ?_
    refine tk 4 18 hHeld ?_
    refine tk 5 19 hHeld ?_
    refine bk 2 16 (fun K hK => ?_)
    go_simp
    refine hK.out _ _ ?_ (fun hHeld' => ?_)
    · (first | exact c1 | exact Hca.out _ | exact hc3 | exact hc6)
    clear hK K hHeld
    have hHeld := hHeld'
    clear hHeld'
    simp only [List.set_cons_zero, List.set_cons_succ]
    refine bk 3 17 (fun K hK => ?_)
    refine wp_bytes (w0 := w1.drew) (.tmp 14) (.tmp 16) rfl base (.slice A xs.length c) xs.length xs Ho.out rfl _ [M] 1 rfl (by rw [HK0.out]; rfl) rfl rfl (by omega) (by have := Hz1.out; show base ≤ w1.heap.size; omega) ?_
    intro v3 w3 hown3 hf3
    have hf3 := (RowFr.of (v := .slice A xs.length c) ((Below.refl _ w1).drew)).trans hf3
    have hc3 := Hnb.out hf3
    obtain ⟨A3, c3, rfl⟩ := own_shape hown3
    have Hown3 : Hid (w3.ownsRow base 5 1 (.slice A3 (xs.length + 1) c3) (xs ++ [M]).length ((xs ++ [M]).map bv)) := by
      show World.ownsRow _ _ _ _ _ _ _
      rw [List.length_append, List.length_singleton]; exact hown3
    have Hf3 := Lib.hid hf3
    clear hown3 hf3
    refine hK.out _ _ ?_ (fun hHeld' => ?_)
    · (first | exact c1 | exact Hca.out _ | exact hc3 | exact hc6)
    clear hK K hHeld
    have hHeld := hHeld'
    clear hHeld'
    simp only [List.set_cons_zero, List.set_cons_succ]
    refine bk 6 20 (fun K hK => ?_)
    go_simp
    (go_at_call 41; (with_reducible refine (putTime_any base (.slice A3 (xs.length + 1) c3) (xs ++ [M]) tn _ Hown3.out (Nat.le_trans (by have := Hz1.out; show base ≤ w1.heap.size; omega) (RowFr.size Hf3.out)) ht1 (by rw [List.length_append, List.length_singleton]; omega)).mono ?_))
    rintro e w6 ⟨v6, rfl, hown6, hf6⟩
    have hf16 := Hf3.out.trans hf6
    have hc6 := Hnb.out hf16
    refine hK.out _ _ ?_ (fun hHeld' => ?_)
    · (first | exact c1 | exact Hca.out _ | exact hc3 | exact hc6)
    clear hK K hHeld
    have hHeld := hHeld'
    clear hHeld'
    simp only [List.set_cons_zero, List.set_cons_succ]
    refine tk 7 4 hHeld ?_
    refine wpAnyH_done (by kernel_rfl) ?_ _
    refine NoPanic.normal ?_
    go_wp2_with fail
    rw [HR.out, HE.out, ← List.append_assoc]
    exact ⟨_, rfl, hown6, (RowFr.of Al.out).trans hf16⟩
set_option maxHeartbeats 4000000 in
theorem putNote_any (base : Nat) (v : Value) (xs : List Nat) (x : Nt) (w : World) (ho : w.ownsRow base 5 1 v xs.length (xs.map bv)) (hb : base ≤ w.heap.size) (ht : okN x) (hx : xs.length ≤ 10000) :
    Calls Try.prog 42 #[v, .agg #[.int .i64 x.kind, .int .i64 x.who, .int .i64 x.at_]] w (RowPost base v w (xs ++ encN x)) := by
  obtain ⟨k, o, t⟩ := x
  obtain ⟨A, c, rfl⟩ := own_shape ho
  unfold okN okT at ht
  dsimp only at ht
  obtain ⟨tn, rfl⟩ : ∃ tn : Nat, t = (tn : Int) := ⟨t.toNat, by omega⟩
  obtain ⟨kn, rfl⟩ : ∃ kn : Nat, k = (kn : Int) := ⟨k.toNat, by omega⟩
  obtain ⟨on, rfl⟩ : ∃ on : Nat, o = (on : Int) := ⟨o.toNat, by omega⟩
  have ht1 : tn ≤ 2199023255552 := by omega
  have hk0 : (0 : Int) ≤ (kn : Int) := by omega
  have hk7 : (kn : Int) ≤ 7 := by omega
  have ho0 : (0 : Int) ≤ (on : Int) := by omega
  have ho7 : (on : Int) ≤ 255 := by omega
  have al : Below w.heap.size w (w.alloc (.cells #[.int .i64 kn, .int .i64 on, .int .i64 tn] 54)) := (Below.refl _ _).alloc (Nat.le_refl _) _
  obtain ⟨w1, hw1⟩ : ∃ x, x = w.alloc (.cells #[.int .i64 kn, .int .i64 on, .int .i64 tn] 54) := ⟨_, rfl⟩
  rw [← hw1] at al
  have hbx : w1.heap[w.heap.size]? = some (.cells #[.int .i64 kn, .int .i64 on, .int .i64 tn] 54) := by rw [hw1]; exact heap_alloc_new _ _
  have hz1 : w1.heap.size = w.heap.size + 1 := by rw [hw1]; simp
  have c0 := cell_of_row w1 w.heap.size 0 _ _ _ hbx
  have c1 := cell_of_row w1 w.heap.size 1 _ _ _ hbx
  have c2 := cell_of_row w1 w.heap.size 2 _ _ _ hbx
  simp at c0 c1 c2
  have hS : w1.cell? ⟨w.heap.size, 0, none⟩ = some (.int .i64 kn) ∧ w1.cell? ⟨w.heap.size, 1, none⟩ = some (.int .i64 on) ∧ w1.cell? ⟨w.heap.size, 2, none⟩ = some (.int .i64 tn) := ⟨c0, c1, c2⟩
  have Ho := Lib.hid (own_below ho al)
  have Al := Lib.hid al
  have Hz1 := Lib.hid hz1
  have Hw1 := Lib.hid hw1
  obtain ⟨R, hR⟩ : ∃ R, R = RowPost base (.slice A xs.length c) w (xs ++ encN ⟨kn, on, tn⟩) := ⟨_, rfl⟩
  rw [← hR]
  have HR := Lib.hid hR
  have hE : encN ⟨kn, on, tn⟩ = [kn, on] ++ six tn := rfl
  have HE := Lib.hid hE
  have Hnb : Hid (∀ {v' : Value} {w' : World}, RowFr (.slice A xs.length c) w1 v' w' → w'.cell? ⟨w.heap.size, 0, none⟩ = some (.int .i64 kn) ∧ w'.cell? ⟨w.heap.size, 1, none⟩ = some (.int .i64 on) ∧ w'.cell? ⟨w.heap.size, 2, none⟩ = some (.int .i64 tn)) := fun hf => by
    have h1 := hf.1.at_ (i := w.heap.size) (by rw [hw1]; simp) (fun e => box_ne ho e.symm)
    exact ⟨(World.cell?_of_block h1).trans c0, (World.cell?_of_block h1).trans c1, (World.cell?_of_block h1).trans c2⟩
  have Hca : Hid (∀ o, (w1.alloc o).cell? ⟨w.heap.size, 0, none⟩ = some (.int .i64 kn) ∧ (w1.alloc o).cell? ⟨w.heap.size, 1, none⟩ = some (.int .i64 on) ∧ (w1.alloc o).cell? ⟨w.heap.size, 2, none⟩ = some (.int .i64 tn)) := fun o =>
    ⟨(World.cell?_alloc_lt w1 o ⟨w.heap.size, 0, none⟩ (by rw [hw1]; simp)).trans c0, (World.cell?_alloc_lt w1 o ⟨w.heap.size, 1, none⟩ (by rw [hw1]; simp)).trans c1, (World.cell?_alloc_lt w1 o ⟨w.heap.size, 2, none⟩ (by rw [hw1]; simp)).trans c2⟩
  have HWk : Hid (IntKind.u8.wrap (kn : Int) = (kn : Int)) := by show _ = _; rw [IntKind.wrap_u8]; omega
  have HWo : Hid (IntKind.u8.wrap (on : Int) = (on : Int)) := by show _ = _; rw [IntKind.wrap_u8]; omega
  have HS := Lib.hid hS
  clear ho al hbx hz1 hw1 hR ht hE c0 c1 c2 hS
  go_enter Try.func42, Try.ntmps42
  go_wp2_with fail
  rw [← Hw1.out]
  refine sk (fun w' => w'.cell? ⟨w.heap.size, 0, none⟩ = some (.int .i64 kn) ∧ w'.cell? ⟨w.heap.size, 1, none⟩ = some (.int .i64 on) ∧ w'.cell? ⟨w.heap.size, 2, none⟩ = some (.int .i64 tn)) 13 ?_ (fun hHeld => ?_)
  · (first | exact HS.out | exact Hca.out _ | exact hc3 | exact hc6)
  refine tk 0 5 hHeld ?_
  refine tk 1 6 hHeld ?_
  refine tk 2 7 hHeld ?_
  refine tk 3 8 hHeld ?_
  refine tk 4 9 hHeld ?_
  refine tk 5 10 hHeld ?_
  refine tk 6 11 hHeld ?_
  refine tk 9 14 hHeld ?_
  refine tk 10 15 hHeld ?_
  refine bk 7 12 (fun K hK => ?_)
  go_simp
  refine hK.out _ _ ?_ (fun hHeld' => ?_)
  · (first | exact HS.out | exact Hca.out _ | exact hc3 | exact hc6)
  clear hK K hHeld
  have hHeld := hHeld'
  clear hHeld'
  simp only [List.set_cons_zero, List.set_cons_succ]
  refine bk 8 13 (fun K hK => ?_)
  refine wp_bytes (w0 := w1.drew) (.tmp 5) (.tmp 12) rfl base (.slice A xs.length c) xs.length xs Ho.out rfl _ [kn, on] 2 rfl (by rw [HWk.out, HWo.out]; rfl) rfl rfl (by omega) (by have := Hz1.out; show base ≤ w1.heap.size; omega) ?_
  intro v3 w3 hown3 hf3
  have hf3 := (RowFr.of (v := .slice A xs.length c) ((Below.refl _ w1).drew)).trans hf3
  have hc3 := Hnb.out hf3
  obtain ⟨A3, c3, rfl⟩ := own_shape hown3
  have Hown3 : Hid (w3.ownsRow base 5 1 (.slice A3 (xs.length + 2) c3) (xs ++ [kn, on]).length ((xs ++ [kn, on]).map bv)) := by
    show World.ownsRow _ _ _ _ _ _ _
    rw [List.length_append]; exact hown3
  have Hf3 := Lib.hid hf3
  clear hown3 hf3
  refine hK.out _ _ ?_ (fun hHeld' => ?_)
  · (first | exact HS.out | exact Hca.out _ | exact hc3 | exact hc6)
  clear hK K hHeld
  have hHeld := hHeld'
  clear hHeld'
  simp only [List.set_cons_zero, List.set_cons_succ]
  refine bk 11 16 (fun K hK => ?_)
  go_simp
  (go_at_call 41; (with_reducible refine (putTime_any base (.slice A3 (xs.length + 2) c3) (xs ++ [kn, on]) tn _ Hown3.out (Nat.le_trans (by have := Hz1.out; show base ≤ w1.heap.size; omega) (RowFr.size Hf3.out)) ht1 (by rw [List.length_append]; simp only [List.length_cons, List.length_nil]; omega)).mono ?_))
  rintro e w6 ⟨v6, rfl, hown6, hf6⟩
  have hf16 := Hf3.out.trans hf6
  have hc6 := Hnb.out hf16
  refine hK.out _ _ ?_ (fun hHeld' => ?_)
  · (first | exact HS.out | exact Hca.out _ | exact hc3 | exact hc6)
  clear hK K hHeld
  have hHeld := hHeld'
  clear hHeld'
  simp only [List.set_cons_zero, List.set_cons_succ]
  refine tk 12 4 hHeld ?_
  refine wpAnyH_done (by kernel_rfl) ?_ _
  refine NoPanic.normal ?_
  go_wp2_with fail
  rw [HR.out, HE.out, ← List.append_assoc]
  exact ⟨_, rfl, hown6, (RowFr.of Al.out).trans hf16⟩
end Go.Proofs.Ytcdgaeenfhpnkaa
