/- A store on a disk whose power may fail: the log's steps, whatever the disk does; what Put does, plain. -/
import Derived.Test.YtcdgaeenfhpnkaaPk33
set_option linter.unusedVariables false
set_option linter.unusedSimpArgs false
set_option maxRecDepth 100000
namespace Go.Proofs.Ytcdgaeenfhpnkaa.Cr
open Go Go.RowKit CrcMath
attribute [local go_sem] Oper.semAt_some

/-- blocks that a step may turn: the disk's, a cut, the log's -/
def XT (B : Nat) (w : World) (p q lb : Nat) (j : Nat) : Prop := j = p ∨ j = q ∨ j = lb ∨ B ≤ j ∧ ∃ cur fr, w.heap[j]? = some (.cells cur 101 fr)
def Un (B : Nat) (w : World) (p q : Nat) (j : Nat) : Prop := j < w.heap.size ∧ j ≠ p ∧ j ≠ q ∧ ¬ (B ≤ j ∧ ∃ cur fr, w.heap[j]? = some (.cells cur 101 fr))
section
variable {w w' w2 W : World} {p q k half turn taken b j lb n c B g : Nat} {L : List (List Nat)} {T : TypeId} {fr : Nat × Nat} {cur : Array Value} {u : Value} {d d7 : DD} {A : Option Addr} {bs : List Nat}
theorem HD.un (h : HD w (Lo B) p q d) : HD w (Un B w p q) p q d := by
  obtain ⟨c, h⟩ := h
  refine ⟨c, h.ok, fun k hk => hk.1, h.pq, fun hk => hk.2.1 rfl, fun hk => hk.2.2.1 rfl, h.hp, h.hq, fun a b e => ?_⟩
  obtain ⟨g1, g2, g3, g4⟩ := h.hc a b e
  exact ⟨g1, g2, fun hk => hk.2.2.2 ⟨Nat.le_of_not_lt g3, _, _, g4⟩, g4⟩
theorem HD.lo (h : HD w (Lo B) p q d) : B ≤ p ∧ B ≤ q ∧ B ≤ w.heap.size := by
  obtain ⟨c, h⟩ := h
  refine ⟨Nat.le_of_not_lt h.up, Nat.le_of_not_lt h.uq, ?_⟩
  have h1 := h.up
  have h2 := (Array.getElem?_eq_some_iff.1 h.hp).1
  have h3 : B ≤ p := Nat.le_of_not_lt h1
  omega
theorem HD.fa (h0 : HD w (Lo B) p q d) (h : HD w' (Un B w p q) p q d7) : HD w' (Lo B) p q d7 := by
  obtain ⟨hp, hq, hs⟩ := HD.lo h0
  obtain ⟨c, h⟩ := h
  have ho : ∀ k, Un B w p q k → k < w'.heap.size := h.old
  have hpl := (Array.getElem?_eq_some_iff.1 h.hp).1
  refine ⟨c, h.ok, fun k hk => by have hk' : k < B := hk; omega, h.pq, fun hk => by have hk' : p < B := hk; omega, fun hk => by have hk' : q < B := hk; omega, h.hp, h.hq, fun a b e => ⟨(h.hc a b e).1, (h.hc a b e).2.1, fun hk => (h.hc a b e).2.2.1 ?_, (h.hc a b e).2.2.2⟩⟩
  have hk' : c < B := hk
  exact ⟨by omega, by omega, by omega, fun hx => by have := hx.1; omega⟩
theorem HD.lts (h : HD w (Lo B) p q d) : p < w.heap.size ∧ q < w.heap.size := by
  obtain ⟨c, h⟩ := h
  exact ⟨(Array.getElem?_eq_some_iff.1 h.hp).1, (Array.getElem?_eq_some_iff.1 h.hq).1⟩
theorem un_of (h : HD w (Lo B) p q d) (hg : w.heap[g]? = some (.cells cur T fr)) (h1 : T ≠ 82 ∧ T ≠ 150 ∧ T ≠ 101) : Un B w p q g := by
  obtain ⟨c, h⟩ := h
  refine ⟨(Array.getElem?_eq_some_iff.1 hg).1, fun e => ?_, fun e => ?_, fun ⟨_, cur', fr', e⟩ => ?_⟩
  · have := h.hp
    rw [← e, hg] at this
    injection this with this
    injection this with _ h9
    exact h1.1 h9
  · have := h.hq
    rw [← e, hg] at this
    injection this with this
    injection this with _ h9
    exact h1.2.1 h9
  · rw [hg] at e
    injection e with e
    injection e with _ h9
    exact h1.2.2 h9
theorem x_not (h : HD w (Lo B) p q d) (hl : LogAt w lb p half turn taken) (hg : w.heap[g]? = some (.cells cur T fr)) (h1 : T ≠ 82 ∧ T ≠ 150 ∧ T ≠ 101 ∧ T ≠ 109) : ¬ XT B w p q lb g := by
  have h2 := un_of h hg ⟨h1.1, h1.2.1, h1.2.2.1⟩
  rintro (e | e | e | e)
  · exact h2.2.1 e
  · exact h2.2.2.1 e
  · subst e
    rw [show w.heap[g]? = _ from hl] at hg
    injection hg with hg
    injection hg with _ h9
    exact h1.2.2.2 h9.symm
  · exact h2.2.2.2 e
theorem Chg.xt (hb : Below w.heap.size w w') (hc : Chg (XT B w' p q lb) w' w2) : Chg (XT B w p q lb) w w2 := by
  refine ⟨hc.os.trans hb.os, hc.tape.trans hb.tape, hc.output.trans hb.output, Nat.le_trans hb.size hc.size, fun i hi => (hc.at_ (Nat.lt_of_lt_of_le hi.1 hb.size) (fun hx => hi.2 ?_)).trans (hb.block i hi.1)⟩
  rcases hx with e | e | e | ⟨eb, cur, fr, e⟩
  · exact .inl e
  · exact .inr (.inl e)
  · exact .inr (.inr (.inl e))
  · exact .inr (.inr (.inr ⟨eb, cur, fr, (hb.block i hi.1).symm.trans e⟩))
theorem Chg.xt2 (hb : Chg (XT B w p q lb) w w') (hc : Chg (XT B w' p q lb) w' w2) : Chg (XT B w p q lb) w w2 := by
  refine ⟨hc.os.trans hb.os, hc.tape.trans hb.tape, hc.output.trans hb.output, Nat.le_trans hb.size hc.size, fun i hi => (hc.at_ (Nat.lt_of_lt_of_le hi.1 hb.size) (fun hx => hi.2 ?_)).trans (hb.at_ hi.1 hi.2)⟩
  rcases hx with e | e | e | ⟨eb, cur, fr, e⟩
  · exact .inl e
  · exact .inr (.inl e)
  · exact .inr (.inr (.inl e))
  · exact .inr (.inr (.inr ⟨eb, cur, fr, (hb.at_ hi.1 hi.2).symm.trans e⟩))
theorem kept_xt (h : Kept (fun k => Un B w p q k ∧ k ≠ lb) w w') : Chg (XT B w p q lb) w w' :=
  ⟨h.os, h.tape, h.output, h.size, fun i hi => h.block i ⟨⟨hi.1, fun e => hi.2 (.inl e), fun e => hi.2 (.inr (.inl e)), fun e => hi.2 (.inr (.inr (.inr e)))⟩, fun e => hi.2 (.inr (.inr (.inl e)))⟩⟩
def StepX (B p q lb : Nat) (d' : DD) (half turn taken : Nat) (w : World) (en : Nat) (e : Ending) (w' : World) : Prop :=
  e = .returned (.int .i64 en) ∧ HD w' (Lo B) p q d' ∧ LogAt w' lb p half turn taken ∧ Chg (XT B w p q lb) w w'
theorem lb_un (h : HD w (Lo B) p q d) (hl : LogAt w lb p half turn taken) : Un B w p q lb := un_of h (show w.heap[lb]? = _ from hl) (by decide)
theorem row_un (h : HD w (Lo B) p q d) {base : Nat} {v : Value} {xs : List Value} (ho : w.ownsRow base 5 1 v n xs) (hg : v.ownBlock = some g) : Un B w p q g := by
  rcases ho.2 with ⟨rfl, _⟩ | ⟨g', cap, cur, rfl, _, hc, _⟩
  · simp [Value.ownBlock] at hg
  · simp [Value.ownBlock] at hg
    subst hg
    exact un_of h hc (by decide)
theorem x_add_full (hd : HD w (Lo B) p q d) (hl : LogAt w lb p half turn taken) (ht : taken ≤ 1000) (hn : 1 ≤ n ∧ n ≤ 448) (hf : d.L.length / 2 < taken + (n + 55) / 56) :
    Calls Try.prog 51 #[.pointer (some ⟨lb, 0, none⟩), .slice A n c] w (StepX B p q lb d half turn taken w 5) := by
  refine (add_full _ p q lb half turn taken n c A d w (HD.un hd) hl ht hn hf).mono ?_
  rintro e w' ⟨he, hd', hl', hk⟩
  exact ⟨he, HD.fa hd hd', hl', kept_xt hk⟩
theorem x_add (hd : HD w (Lo B) p q d) (hl : LogAt w lb p half turn taken) (ht : taken ≤ 1000) (hh : half ≤ 1) (htu : turn < 65536) (hn : 1 ≤ n ∧ n ≤ 448) {base : Nat} (ho : w.ownsRow base 5 1 (.slice A n c) n (bs.map bv)) (hb : ∀ x ∈ bs, x < 256)
    (hw8 : d.writes + 8 < 1000000) (hf : ¬ d.L.length / 2 < taken + (n + 55) / 56) (en : Nat) (hwr : wrF (half * (d.L.length / 2) + taken) turn bs d (List.range (needsN bs)) = (en, d7)) :
    Calls Try.prog 51 #[.pointer (some ⟨lb, 0, none⟩), .slice A n c] w (StepX B p q lb d7 half turn (if en = 0 then taken + needsN bs else taken) w en) := by
  obtain ⟨g, o, rfl, hg, _⟩ := (Rd.of_own ho).2 (by omega)
  have hx := own_max ho
  refine (add_go _ p q lb half turn taken g o n c bs d w (HD.un hd) hl (lb_un hd hl) ht hh htu hn (Rd.of_own ho) (row_un hd ho rfl) hb hx.1 hx.2 hw8 hf en d7 hwr).mono ?_
  rintro e w' ⟨he, hd', hl', hk⟩
  by_cases h0 : en = 0
  · subst h0
    exact ⟨he, HD.fa hd hd', hl', kept_xt hk⟩
  · rw [if_neg h0] at he hd' hl' ⊢
    exact ⟨he, HD.fa hd hd', hl', kept_xt hk⟩
theorem x_comp_full (hd : HD w (Lo B) p q d) (hl : LogAt w lb p half turn taken) (hn : 1 ≤ n ∧ n ≤ 448) (hf : d.L.length / 2 < (n + 55) / 56) :
    Calls Try.prog 52 #[.pointer (some ⟨lb, 0, none⟩), .slice A n c] w (StepX B p q lb d half turn taken w 5) := by
  refine (comp_full _ p q lb half turn taken n c A d w (HD.un hd) hl hn (.inl hf)).mono ?_
  rintro e w' ⟨he, hd', hl', hk⟩
  exact ⟨he, HD.fa hd hd', hl', kept_xt hk⟩
theorem x_comp (hd : HD w (Lo B) p q d) (hl : LogAt w lb p half turn taken) (hh : half ≤ 1) (htu : turn < 65535) (hn : 1 ≤ n ∧ n ≤ 448) {base : Nat} (ho : w.ownsRow base 5 1 (.slice A n c) n (bs.map bv)) (hb : ∀ x ∈ bs, x < 256)
    (hw8 : d.writes + 8 < 1000000) (hf : ¬ d.L.length / 2 < (n + 55) / 56) (en : Nat) (hwr : wrF ((1 - half) * (d.L.length / 2)) (turn + 1) bs d (List.range (needsN bs)) = (en, d7)) :
    Calls Try.prog 52 #[.pointer (some ⟨lb, 0, none⟩), .slice A n c] w (StepX B p q lb d7 (if en = 0 then 1 - half else half) (if en = 0 then turn + 1 else turn) (if en = 0 then needsN bs else taken) w en) := by
  obtain ⟨g, o, rfl, hg, _⟩ := (Rd.of_own ho).2 (by omega)
  have hx := own_max ho
  refine (comp_go _ p q lb half turn taken g o n c bs d w (HD.un hd) hl (lb_un hd hl) hh htu hn (Rd.of_own ho) (row_un hd ho rfl) hb hx.1 hx.2 hw8 hf en d7 hwr).mono ?_
  rintro e w' ⟨he, hd', hl', hk⟩
  by_cases h0 : en = 0
  · subst h0
    exact ⟨he, HD.fa hd hd', hl', kept_xt hk⟩
  · rw [if_neg h0] at he hd' hl' ⊢
    simp only [if_neg h0]
    exact ⟨he, HD.fa hd hd', hl', kept_xt hk⟩
end
/-- a disk, its log, the notes of its store -/
structure PS where
  d : DD
  half : Nat
  turn : Nat
  taken : Nat
  N : List Nt
/-- a record is put behind the others -/
def PS.add (s : PS) (b : List Nat) (N' : List Nt) : Nat × PS :=
  let r := wrF (s.half * (s.d.L.length / 2) + s.taken) s.turn b s.d (List.range (needsN b))
  if r.1 = 0 then (0, ⟨r.2, s.half, s.turn, s.taken + needsN b, N'⟩) else (r.1, ⟨r.2, s.half, s.turn, s.taken, s.N⟩)
/-- a record stands in the place of all -/
def PS.comp (s : PS) (b : List Nat) (N' : List Nt) : Nat × PS :=
  let r := wrF ((1 - s.half) * (s.d.L.length / 2)) (s.turn + 1) b s.d (List.range (needsN b))
  if r.1 = 0 then (0, ⟨r.2, 1 - s.half, s.turn + 1, needsN b, N'⟩) else (r.1, ⟨r.2, s.half, s.turn, s.taken, s.N⟩)
/-- what Put answers, and leaves -/
def PS.put (s : PS) (c e : Nat) (x : St) (l : List Nt) : Nat × PS :=
  if ¬ (okR x l ∧ x.causes.length = c ∧ x.effects.length = e) then (1, s)
  else if s.taken + needsN (bytesF x l) ≤ s.d.L.length / 2 then s.add (bytesF x l) (lastN (s.N ++ l))
  else if s.d.L.length / 2 < needsN (bytesF x (lastN (s.N ++ l))) then (5, s)
  else s.comp (bytesF x (lastN (s.N ++ l))) (lastN (s.N ++ l))
theorem wrF_code (fr turn : Nat) (b : List Nat) : ∀ (r : List Nat) (d : DD), (wrF fr turn b d r).1 = 0 ∨ (wrF fr turn b d r).1 = 1 ∨ (wrF fr turn b d r).1 = 101
  | [], d => .inl rfl
  | i :: r, d => by
    unfold wrF
    split
    · exact wrF_code fr turn b r _
    · unfold DD.write
      split
      · exact .inr (.inr rfl)
      · split
        · split
          · exact .inl rfl
          · exact .inr (.inr rfl)
          · exact .inl rfl
        · exact .inr (.inl rfl)
end Go.Proofs.Ytcdgaeenfhpnkaa.Cr
