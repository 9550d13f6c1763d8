/- Package log: the pieces of a record: slices.Chunk. -/
import Derived.Test.YtcdgaeenfhpnkaaPk03
import Derived.Test.YtcdgaeenfhpnkaaPk09
import Derived.Sort.QuietIn
set_option linter.unusedVariables false
set_option linter.unusedSimpArgs false
set_option maxRecDepth 100000
namespace Go.Proofs.Ytcdgaeenfhpnkaa
open Go Go.RowKit CrcMath
attribute [local go_sem] Oper.semAt_some

theorem chunk_any (A : Option Addr) (n c : Nat) (w : World) :
    Calls Try.prog 84 #[.slice A n c, .int .i64 56] w fun e w' =>
      e = .returned (.func (.func 95) #[] #[.pointer (some ⟨w.heap.size, 0, none⟩), .pointer (some ⟨w.heap.size + 1, 0, none⟩)]) ∧
      w' = (w.alloc (.cells #[.slice A n c] 27)).alloc (.cells #[.int .i64 56] 3) := by
  go_enter Try.func84, Try.ntmps84
  go_wp2_with fail
  go_ret
  exact ⟨rfl, rfl⟩

/-- the i-th piece of n bytes at o -/
def chE (g o n i : Nat) : Array Value := #[.slice (some ⟨g, o + 56 * i, none⟩) (min 56 (n - 56 * i)) (min 56 (n - 56 * i))]
def chR (n : Nat) (pre : List Nat) (x : Nat) (W : World) : Prop := pre = List.range x ∧ 56 * x < n
structure ChI (W : World) (B g o n c : Nat) : Prop where
  b0 : W.heap[B]? = some (.cells #[.slice (some ⟨g, o, none⟩) n c] 27)
  b1 : W.heap[B + 1]? = some (.cells #[.int .i64 56] 3)
def chK (B k : Nat) : Prop := k = B ∨ k = B + 1
theorem ChI.kept {W W' : World} {B g o n c : Nat} (h : ChI W B g o n c) (hk : Kept (chK B) W W') : ChI W' B g o n c :=
  ⟨(hk.block _ (.inl rfl)).trans h.b0, (hk.block _ (.inr rfl)).trans h.b1⟩
theorem ChI.below {W W' : World} {B g o n c : Nat} (h : ChI W B g o n c) (hb : Below W.heap.size W W') : ChI W' B g o n c :=
  ⟨(hb.block _ (Array.getElem?_eq_some_iff.1 h.b0).1).trans h.b0, (hb.block _ (Array.getElem?_eq_some_iff.1 h.b1).1).trans h.b1⟩
theorem range_snoc (k : Nat) : List.range k ++ [k] = List.range (k + 1) := List.range_succ.symm
set_option maxHeartbeats 4000000 in
theorem chunks_in (m l : Nat) (J Jx : List Nat → World → Prop) (W : World) (B g o n c : Nat) (hI : ChI W B g o n c) (hn : n ≤ c) (hn2 : n ≤ 448) (hc : c ≤ maxLen)
    (hJ : ∀ pre A B, J pre A → Below A.heap.size A B → J pre B) (hY : Round (m - 1) Try.prog l (chE g o n) (chR n) (Kept (chK B)) J Jx) (h0 : J [] W) :
    CallsIn Fence.wide m Try.prog 95 #[.func (.yield l) #[] #[], .pointer (some ⟨B, 0, none⟩), .pointer (some ⟨B + 1, 0, none⟩)] W fun e W' => (∃ v, e = .returned v) ∧
      ((∃ xs : List Nat, xs = List.range ((n + 55) / 56) ∧ J xs W') ∨ (∃ pre : List Nat, (∃ k, 56 * k < n ∧ pre = List.range (k + 1)) ∧ Jx pre W')) := by
  refine callsIn_of_wp Try.func95 rfl trivial ?_ rfl
  simp only [Try.ntmps95, List.size_toArray, List.length_cons, List.length_nil, Nat.reduceAdd, Nat.reduceSub, Array.replicate_succ, Array.replicate_zero, List.push_toArray, List.append_toArray, List.nil_append, List.cons_append]
  gi_wp2
  gi_loopw [4, 5] (fun i e wr => ∃ k : Nat, i = .int .i64 (56 * k : Nat) ∧ 56 * k < n + 56 ∧ J (List.range k) wr ∧ ChI wr B g o n c) (fun i _ _ => (n + 56) - (intOf i).toNat)
  case atStart => exact ⟨0, rfl, by omega, h0, hI⟩
  case round =>
    obtain ⟨k, rfl, hk, hJs, hP⟩ := hrel
    have m0 := cell_of_row wr B 0 _ _ _ hP.b0
    have m1 := cell_of_row wr (B + 1) 0 _ _ _ hP.b1
    simp at m0 m1
    have HP := Lib.hid hP
    clear hP
    by_cases hlt : 56 * k < n
    · have hi0 : ((56 * k : Nat) : Int) < (n : Int) := by omega
      gi_wp2_with fail
      gi_quiet (fail)
      obtain ⟨W2, hW2⟩ : ∃ X, X = wr.drewN nq := ⟨_, rfl⟩
      have HB2 : Hid (Below wr.heap.size wr W2) := by rw [hW2]; exact ⟨rfl, rfl, rfl, Nat.le_refl _, fun _ _ => rfl⟩
      rw [← hW2]
      obtain ⟨mm, hmm⟩ : ∃ mm, mm = min 56 (n - 56 * k) := ⟨_, rfl⟩
      have hd : (if ((n - 56 * k : Nat) : Int) < 56 then ((n - 56 * k : Nat) : Int) else 56) = ((mm : Nat) : Int) := by
        rw [hmm]
        split <;> omega
      rw [hd]
      have hP2 := HP.out.below HB2.out
      have q0 := cell_of_row W2 B 0 _ _ _ hP2.b0
      have q1 := cell_of_row W2 (B + 1) 0 _ _ _ hP2.b1
      simp at q0 q1
      have HP2 := Lib.hid hP2
      have HJ2 : Hid (J (List.range k) W2) := hJ _ _ _ hJs HB2.out
      have hm1 : 0 < mm := by omega
      have hm2 : 56 * k + mm ≤ n := by omega
      have hm56 : mm ≤ 56 := by omega
      have Hmm := Lib.hid hmm
      clear hW2 hd hP2 m0 m1 hi0 hmm hJs
      have hlo : ((56 * k : Nat) : Int) ≤ ((56 * k : Nat) : Int) + (mm : Int) := by omega
      have hhi : ((56 * k : Nat) : Int) + (mm : Int) ≤ (c : Int) := by omega
      obtain ⟨fn, tmps, assign, body, hy, hR⟩ := hY (List.range k) k W2 HJ2.out ⟨rfl, hlt⟩
      unfold chE at hy
      rw [← Hmm.out] at hy
      have HRd2 := Lib.hid hR
      clear hR
      gi_wp2
      refine ⟨(fun h => by cases h), ?_⟩
      refine HRd2.out.mono ?_
      rintro e W3 (⟨rfl, hJ3, hk3⟩ | ⟨rfl, hJx3⟩)
      · have hP3 := HP2.out.kept hk3
        have z1 := cell_of_row W3 (B + 1) 0 _ _ _ hP3.b1
        simp at z1
        have HP3 := Lib.hid hP3
        have HJ3 : Hid (J (List.range (k + 1)) W3) := by show J _ _; rw [← range_snoc]; exact hJ3
        clear hJ3 hk3 hy hP3
        gi_wp2
        go_roundw
        case rel => exact ⟨k + 1, by go_num, by omega, HJ3.out, HP3.out⟩
        case measure => simp [intOf]; omega
      · have HJx3 : Hid (Jx (List.range (k + 1)) W3) := by show Jx _ _; rw [← range_snoc]; exact hJx3
        clear hJx3 hy
        gi_wp2
        refine bodyPost_ret (results_none rfl _ _ _) rfl ?_
        exact ⟨⟨_, rfl⟩, .inr ⟨_, ⟨k, hlt, rfl⟩, HJx3.out⟩⟩
    · have hi0 : ¬ ((56 * k : Nat) : Int) < (n : Int) := by omega
      gi_wp2_with fail
      go_end0
      have hkk : k = (n + 55) / 56 := by omega
      subst hkk
      exact ⟨⟨_, rfl⟩, .inl hJs⟩
end Go.Proofs.Ytcdgaeenfhpnkaa
/- Package log: what write does to a disk, plain; words on the disk in memory. -/
set_option linter.unusedVariables false
set_option linter.unusedSimpArgs false
set_option maxRecDepth 100000
namespace Go.Proofs.Ytcdgaeenfhpnkaa
open Go Go.RowKit CrcMath
attribute [local go_sem] Oper.semAt_some

/-- the sectors of a record, written one by one until one fails -/
def wrF (fr turn : Nat) (b : List Nat) : DD → List Nat → Nat × DD
  | d, [] => (0, d)
  | d, i :: r => if (d.write ((fr : Int) + (i : Int)) (secP turn i (needsN b) (chunkN b i))).1 = 0 then wrF fr turn b (d.write ((fr : Int) + (i : Int)) (secP turn i (needsN b) (chunkN b i))).2 r
    else d.write ((fr : Int) + (i : Int)) (secP turn i (needsN b) (chunkN b i))
theorem wrF_app (fr turn : Nat) (b : List Nat) : ∀ (pre rest : List Nat) (d d' : DD), wrF fr turn b d pre = (0, d') → wrF fr turn b d (pre ++ rest) = wrF fr turn b d' rest
  | [], rest, d, d', h => by
    simp only [wrF] at h
    injection h with _ h
    subst h
    rfl
  | i :: r, rest, d, d', h => by
    unfold wrF at h
    split at h
    · rename_i h0
      rw [List.cons_append, wrF, if_pos h0]
      exact wrF_app fr turn b r rest _ d' h
    · rename_i h0
      exact absurd (by rw [h]) h0
theorem write_writes (d : DD) (i : Int) (b : List Nat) : (d.write i b).2.writes ≤ d.writes + 1 := by
  unfold DD.write
  split
  · show d.writes ≤ _; omega
  split
  · split
    · simp
    · simp
    · simp
  · show d.writes ≤ _; omega
/-- the disk in memory: every block but its own is left alone -/
theorem HD.turnU {w : World} {U U' : Nat → Prop} {p q : Nat} {d : DD} (h : HD w U p q d) (hu : ∀ k, U' k → U k) : HD w U' p q d := by
  obtain ⟨c, h⟩ := h
  refine ⟨c, ⟨h.ok, fun k hk => h.old k (hu k hk), h.pq, fun hk => h.up (hu _ hk), fun hk => h.uq (hu _ hk), h.hp, h.hq, fun a b e => ?_⟩⟩
  obtain ⟨h1, h2, h3, h4⟩ := h.hc a b e
  exact ⟨h1, h2, fun hk => h3 (hu _ hk), h4⟩
theorem HD.wide {w : World} {U : Nat → Prop} {p q : Nat} {d : DD} (h : HD w U p q d) : ∃ V : Nat → Prop, (∀ k, U k → V k) ∧ HD w V p q d ∧ ∀ k o, w.heap[k]? = some o → o.isCells = false → V k := by
  obtain ⟨c, h⟩ := h
  have lt : ∀ {k : Nat} {o : Obj}, w.heap[k]? = some o → k < w.heap.size := fun h => (Array.getElem?_eq_some_iff.1 h).1
  have ne : ∀ {k j : Nat} {o o' : Obj}, w.heap[k]? = some o → o.isCells = false → w.heap[j]? = some o' → o'.isCells = true → k ≠ j := fun h1 h2 h3 h4 e => by
    subst e
    rw [h1] at h3
    injection h3 with h3
    subst h3
    rw [h2] at h4
    cases h4
  cases hcut : d.cut with
  | none =>
    refine ⟨fun k => k < w.heap.size ∧ k ≠ p ∧ k ≠ q, fun k hk => ⟨h.old k hk, fun e => h.up (e ▸ hk), fun e => h.uq (e ▸ hk)⟩, ⟨c, ⟨h.ok, fun k hk => hk.1, h.pq, fun hk => hk.2.1 rfl, fun hk => hk.2.2 rfl, h.hp, h.hq, fun a b e => by rw [hcut] at e; cases e⟩⟩,
      fun k o hk ho => ⟨lt hk, ne hk ho h.hp rfl, ne hk ho h.hq rfl⟩⟩
  | some ab =>
    obtain ⟨a, b⟩ := ab
    obtain ⟨h1, h2, h3, h4⟩ := h.hc a b hcut
    refine ⟨fun k => k < w.heap.size ∧ k ≠ p ∧ k ≠ q ∧ k ≠ c, fun k hk => ⟨h.old k hk, fun e => h.up (e ▸ hk), fun e => h.uq (e ▸ hk), fun e => h3 (e ▸ hk)⟩, ⟨c, ⟨h.ok, fun k hk => hk.1, h.pq, fun hk => hk.2.1 rfl, fun hk => hk.2.2.1 rfl, h.hp, h.hq, fun a' b' e => ?_⟩⟩,
      fun k o hk ho => ⟨lt hk, ne hk ho h.hp rfl, ne hk ho h.hq rfl, ne hk ho h4 rfl⟩⟩
    obtain ⟨g1, g2, g3, g4⟩ := h.hc a' b' e
    exact ⟨g1, g2, fun hk => hk.2.2.2 rfl, g4⟩
theorem HD.put {w : World} {U : Nat → Prop} {p q k : Nat} {d : DD} {o : Obj} (o' : Obj) (h : HD w U p q d) (hk : w.heap[k]? = some o) (ho : o.isCells = false) : HD (w.putObj k o') U p q d := by
  obtain ⟨c, h⟩ := h
  refine ⟨c, ⟨h.ok, fun x hx => Nat.lt_of_lt_of_le (h.old x hx) (grownBy_putObj' w k o').size, h.pq, h.up, h.uq, heap_put_other o' h.hp rfl hk ho, heap_put_other o' h.hq rfl hk ho, fun a b e => ?_⟩⟩
  obtain ⟨h1, h2, h3, h4⟩ := h.hc a b e
  exact ⟨h1, h2, h3, heap_put_other o' h4 rfl hk ho⟩
theorem HD.set {w : World} {U : Nat → Prop} {p q b : Nat} {d : DD} (u : Value) (h : HD w U p q d) (hb : U b) : HD (w.setCell ⟨b, 0, none⟩ u) U p q d := by
  obtain ⟨c, h⟩ := h
  refine ⟨c, ⟨h.ok, fun x hx => by rw [size_set]; exact h.old x hx, h.pq, h.up, h.uq, heap_set_other u h.hp (fun e => h.up (e ▸ hb)), heap_set_other u h.hq (fun e => h.uq (e ▸ hb)), fun a c' e => ?_⟩⟩
  obtain ⟨h1, h2, h3, h4⟩ := h.hc a c' e
  exact ⟨h1, h2, h3, heap_set_other u h4 (fun e => h3 (e ▸ hb))⟩
theorem HD.plus8 {w w' : World} {U : Nat → Prop} {p q : Nat} {d : DD} (h : HD w U p q d) (hb : Below w.heap.size w w') : HD w' (fun k => U k ∨ w.heap.size ≤ k ∧ k < w'.heap.size) p q d := by
  obtain ⟨c, h⟩ := h
  have hp := (Array.getElem?_eq_some_iff.1 h.hp).1
  have hq := (Array.getElem?_eq_some_iff.1 h.hq).1
  have h' := h.below hb
  refine ⟨c, ⟨h.ok, fun k hk => ?_, h.pq, fun hk => ?_, fun hk => ?_, h'.hp, h'.hq, fun a b e => ?_⟩⟩
  · rcases hk with hk | hk
    · exact h'.old k hk
    · exact hk.2
  · rcases hk with hk | hk
    · exact h.up hk
    · omega
  · rcases hk with hk | hk
    · exact h.uq hk
    · omega
  · obtain ⟨h1, h2, h3, h4⟩ := h'.hc a b e
    have hc := (Array.getElem?_eq_some_iff.1 (h.hc a b e).2.2.2).1
    refine ⟨h1, h2, fun hk => ?_, h4⟩
    rcases hk with hk | hk
    · exact h3 hk
    · omega

/-- what write leaves alone; what its variables hold -/
def wrN (U : Nat → Prop) (w : World) (k : Nat) : Prop := U k ∨ w.heap.size ≤ k ∧ k < w.heap.size + 1 + 1 + 1 + 1 ∨ w.heap.size + 1 + 1 + 1 + 1 + 1 + 1 ≤ k ∧ k < w.heap.size + 1 + 1 + 1 + 1 + 1 + 1 + 1 + 1
def wrV (U : Nat → Prop) (w : World) (k : Nat) : Prop := U k ∨ w.heap.size ≤ k ∧ k < w.heap.size + 1 + 1 + 1 + 1 + 1 + 1 + 1 + 1
structure WrI (U : Nat → Prop) (p q : Nat) (w w1 W : World) (d : DD) (m e : Nat) : Prop where
  hd : HD W (wrV U w) p q d
  kp : Kept (wrN U w) w1 W
  x8 : Boxed W (w.heap.size + 1 + 1 + 1 + 1) 39 (.int .i64 e)
  x9 : Boxed W (w.heap.size + 1 + 1 + 1 + 1 + 1) 3 (.int .i64 m)
theorem WrI.below {U : Nat → Prop} {p q m e : Nat} {w w1 A B : World} {d : DD} (h : WrI U p q w w1 A d m e) (hb : Below A.heap.size A B) (h1 : ∀ k, wrN U w k → k < w1.heap.size) : WrI U p q w w1 B d m e :=
  ⟨h.hd.below hb, h.kp.trans (Kept.of hb (fun k hk => Nat.lt_of_lt_of_le (h1 k hk) h.kp.size)), boxed_below h.x8 hb, boxed_below h.x9 hb⟩
theorem WrI.put {U : Nat → Prop} {p q m e k : Nat} {w w1 A : World} {d : DD} {o : Obj} (o' : Obj) (h : WrI U p q w w1 A d m e) (hk : A.heap[k]? = some o) (ho : o.isCells = false) (hn : ¬ wrN U w k) : WrI U p q w w1 (A.putObj k o') d m e :=
  ⟨h.hd.put o' hk ho, h.kp.trans (kept_put o' hn), boxed_put o' h.x8 hk ho, boxed_put o' h.x9 hk ho⟩
theorem wrN_gap {U : Nat → Prop} {w : World} {k : Nat} (hU : ∀ k, U k → k < w.heap.size) (h1 : w.heap.size + 1 + 1 + 1 + 1 ≤ k) (h2 : k < w.heap.size + 1 + 1 + 1 + 1 + 1 + 1 ∨ w.heap.size + 1 + 1 + 1 + 1 + 1 + 1 + 1 + 1 ≤ k) : ¬ wrN U w k := by
  rintro (h | h | h)
  · have := hU k h; omega
  · omega
  · omega
theorem WrI.set8 {U : Nat → Prop} {p q m e : Nat} {w w1 A : World} {d : DD} (h : WrI U p q w w1 A d m e) (hU : ∀ k, U k → k < w.heap.size) (e' : Nat) : WrI U p q w w1 (A.setCell ⟨w.heap.size + 1 + 1 + 1 + 1, 0, none⟩ (.int .i64 e')) d m e' :=
  ⟨h.hd.set _ (.inr ⟨by omega, by omega⟩), h.kp.setCell (p := ⟨w.heap.size + 1 + 1 + 1 + 1, 0, none⟩) (wrN_gap hU (by simp) (.inl (by simp))) _, Boxed.set _ h.x8, Boxed.other h.x9 (by omega) _⟩
theorem WrI.set9 {U : Nat → Prop} {p q m e : Nat} {w w1 A : World} {d : DD} (h : WrI U p q w w1 A d m e) (hU : ∀ k, U k → k < w.heap.size) (m' : Nat) : WrI U p q w w1 (A.setCell ⟨w.heap.size + 1 + 1 + 1 + 1 + 1, 0, none⟩ (.int .i64 m')) d m' e :=
  ⟨h.hd.set _ (.inr ⟨by omega, by omega⟩), h.kp.setCell (p := ⟨w.heap.size + 1 + 1 + 1 + 1 + 1, 0, none⟩) (wrN_gap hU (Nat.le_succ _) (.inl (by simp))) _, Boxed.other h.x8 (by omega) _, Boxed.set _ h.x9⟩
theorem WrI.post {U : Nat → Prop} {p q m e : Nat} {w w1 A : World} {d : DD} (h : WrI U p q w w1 A d m e) (hU : ∀ k, U k → k < w.heap.size) (hb : Below w.heap.size w w1) : HD A U p q d ∧ Kept U w A :=
  ⟨h.hd.turnU (fun k hk => .inl hk), (Kept.of hb hU).trans ⟨h.kp.os, h.kp.tape, h.kp.output, h.kp.size, fun k hk => h.kp.block k (.inl hk)⟩⟩
def z62 : List Nat := List.replicate 62 0
theorem z62_made : madeCells (Value.int .u8 0).cells (62 * 1) = (z62.map bv).toArray := by
  apply Array.ext'
  have e : (madeCells (Value.int .u8 0).cells (62 * 1)).toList = List.replicate 62 (.int .u8 0) := toList_madeCells_one _ _
  rw [e]
  unfold z62
  rw [List.map_replicate]
  rfl
theorem listIn_mk62 {n l : Nat} {w : World} {ops : Array Oper} {rest : List Oper} {o : Oper} {a : Act} {Q : Exit → Act → World → Prop}
    (hg : o.guard = none) (x c : Operand) (hop : o.op = Op.makeSlice 27 x c) (hl : a.eval x = .int .i64 62) (hc : a.eval c = .int .i64 62)
    (hK : wpListIn (Fence.wide.inRound l) n Try.prog ops Q rest (a.put o.dst (.slice (some ⟨w.heap.size, 0, none⟩) 62 62)) (w.alloc (.cells (z62.map bv).toArray 5))) :
    wpListIn (Fence.wide.inRound l) n Try.prog ops Q (o :: rest) a w := by
  refine list_in hg (fun c e => by rw [hop] at e; cases e) fun K hK' => ?_
  obtain ⟨i0, hi, hz0, hz1, hz2⟩ := info_parts info_u8
  have hrun := run_make (P := Try.prog) w 27 5 i0 (.int .u8 0) Try.underlying27 hi hz0 .i64 .i64 62 62 (by omega) (by omega) (by rw [hz2]; omega) (by omega)
  unfold Oper.wp
  simp [execOp, hop, hl, hc, hrun, Result.andThen, hz1]
  have h := hK' _ _ hK
  rw [← z62_made] at h
  exact h
theorem row_set {w : World} {r j : Nat} {L : List Nat} (u : Nat) (h : w.heap[r]? = some (.cells (L.map bv).toArray 5)) (v : Value) (hv : v = bv u) : (w.setCell ⟨r, j, none⟩ v).heap[r]? = some (.cells ((L.set j u).map bv).toArray 5) := by
  subst hv
  have h2 := heap_set_same (j := j) (bv u) h
  rw [h2]
  simp [List.map_set]
theorem row_cell {w : World} {r j : Nat} {L : List Nat} {x : Nat} (h : w.heap[r]? = some (.cells (L.map bv).toArray 5)) (hx : L[j]? = some x) : w.cell? ⟨r, j, none⟩ = some (.int .u8 x) := by
  rw [cell_of_row w r j _ _ _ h]
  simp [hx, bv]
theorem enc_row (h cs : List Nat) (hl : h.length = 6) (hc : cs.length ≤ 56) :
    (h ++ cs ++ List.replicate (56 - cs.length) 0).map bv = ((h ++ List.replicate 56 0).map bv).take 6 ++ (cs.map bv ++ ((h ++ List.replicate 56 0).map bv).drop (6 + cs.length)) := by
  have e1 : (h ++ List.replicate 56 0).take 6 = h := by rw [← hl, List.take_left]
  have e2 : (h ++ List.replicate 56 0).drop (6 + cs.length) = List.replicate (56 - cs.length) 0 := by
    rw [← hl, ← List.drop_drop, List.drop_left, List.drop_replicate]
  rw [← List.map_take, ← List.map_drop, e1, e2, ← List.map_append, ← List.map_append, List.append_assoc]
theorem keeps_below {A B : World} (h : Below A.heap.size A B) : KeepsOthers A B := ⟨h.size, fun k o hk _ => (h.block k (Array.getElem?_eq_some_iff.1 hk).1).trans hk⟩
theorem rd_row {w : World} {r n : Nat} {L : List Nat} (h : w.heap[r]? = some (.cells (L.map bv).toArray 5)) (hn : L.length = n) : Rd w w.heap.size 1 (some ⟨r, 0, none⟩) n (L.map bv) :=
  ⟨by simp [hn], fun _ => ⟨r, 0, rfl, (Array.getElem?_eq_some_iff.1 h).1, fun j u hu => by
    rw [List.getElem?_map] at hu
    cases hx : L[j]? with
    | none => rw [hx] at hu; cases hu
    | some x =>
      rw [hx] at hu
      injection hu with hu
      subst hu
      rw [Nat.zero_add]
      exact row_cell h hx⟩⟩
theorem chunk_len (b : List Nat) (n x : Nat) (hb : b.length = n) : (chunkN b x).length = min 56 (n - 56 * x) := by rw [chunkN, List.length_take, List.length_drop, hb]
end Go.Proofs.Ytcdgaeenfhpnkaa
