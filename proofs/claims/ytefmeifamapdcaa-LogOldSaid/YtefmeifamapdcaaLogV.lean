/- Package log: the state of a statement's loop that keeps no records of its own. -/
import Derived.Test.YtefmeifamapdcaaLogU
set_option linter.unusedVariables false
set_option linter.unusedSimpArgs false
set_option maxRecDepth 100000
namespace Go.Proofs.Ytefmeifamapdcaa
open Go Go.RowKit CrcMath

structure LgT (w wr : World) (p q lb m k half turn taken : Nat) (L : List (List Nat)) : Prop where
  bel : Below w.heap.size w wr
  dk : DK wr p q m k half turn taken L
  at_ : LogAt wr lb p half turn taken
  bp : w.heap.size ≤ p ∧ w.heap.size ≤ q ∧ w.heap.size ≤ lb
section
variable {w wr w' : World} {p q lb m k half turn taken k' half' turn' taken' : Nat} {L L' : List (List Nat)}
theorem LgT.three (h : LgT w wr p q lb m k half turn taken L) (hc : Chg (three p q lb) wr w') : Below w.heap.size wr w' := hc.below h.bel.size (three_new h.bp.1 h.bp.2.1 h.bp.2.2)
theorem LgT.step (h : LgT w wr p q lb m k half turn taken L) (hd : DK w' p q m k' half' turn' taken' L') (hl : LogAt w' lb p half' turn' taken') (hc : Chg (Proofs.Ytefmeifamapdcaa.three p q lb) wr w') : LgT w w' p q lb m k' half' turn' taken' L' :=
  ⟨h.bel.trans (h.three hc), hd, hl, h.bp⟩
theorem LgT.below (h : LgT w wr p q lb m k half turn taken L) (hb : Below wr.heap.size wr w') : LgT w w' p q lb m k half turn taken L :=
  ⟨h.bel.trans (hb.mono h.bel.size), h.dk.below hb, h.at_.below hb, h.bp⟩
end
theorem lg_start {w w1 w2 w3 : World} {m : Nat} (hb1 : Below w.heap.size w w1) (hb2 : Below w1.heap.size w1 w2) (hd2 : DK w2 (w1.heap.size + 1) w1.heap.size m 0 0 1 0 []) (hb3 : Below w2.heap.size w2 w3) (hl3 : LogAt w3 w2.heap.size (w1.heap.size + 1) 0 1 0) :
    LgT w w3 (w1.heap.size + 1) w1.heap.size w2.heap.size m 0 0 1 0 [] := by
  have h1 := hb1.size
  have h2 := hb2.size
  exact ⟨(hb1.trans (hb2.mono h1)).trans (hb3.mono (by omega)), hd2.below hb3, hl3, ⟨by omega, by omega, by omega⟩⟩
end Go.Proofs.Ytefmeifamapdcaa
