/- The live question ahead of each statement on panels is answered as it says. -/
import Derived.Test.YtphghclkfbhagaaPanelG
set_option linter.unusedVariables false
set_option linter.unusedSimpArgs false
set_option maxRecDepth 100000
namespace Go.Proofs.Ytphghclkfbhagaa
open Go Go.RowKit

/-- a panel of the call's own -/
structure St (W w : World) (p q : Nat) (d : PD) : Prop where
  h : HP w p q d
  b : Below W.heap.size W w
  lp : W.heap.size ≤ p
  lq : W.heap.size ≤ q
section
variable {W w w' : World} {p q n : Nat} {d d' : PD} {A : Option Addr} {xs : List Value}
theorem St.next (s : St W w p q d) (h : HP w' p q d') (k : Kept (Off p q w) w w') : St W w' p q d' := ⟨h, Off.below s.b k s.lp s.lq, s.lp, s.lq⟩
theorem St.below (s : St W w p q d) (b : Below w.heap.size w w') : St W w' p q d := ⟨s.h.below b, s.b.trans (b.mono s.b.size), s.lp, s.lq⟩
theorem HP.lp (h : HP w p q d) : p < w.heap.size := by obtain ⟨A, c, h⟩ := h; exact h.lp
theorem HP.lq (h : HP w p q d) : q < w.heap.size := by obtain ⟨A, c, h⟩ := h; exact h.lq
theorem RdU.next (h : RdU (Off p q w) w A n xs) (k : Kept (Off p q w) w w') : RdU (Off p q w') w' A n xs :=
  (h.kept k).mono fun x hx => ⟨Nat.lt_of_lt_of_le hx.1 k.size, hx.2⟩
theorem RdU.rd (h : RdU (Off p q w) w A n xs) : Rd w w.heap.size 1 A n xs := ⟨by have := h.1; omega, fun hn => by
  obtain ⟨b, o, e, hb, hc⟩ := h.2 hn
  exact ⟨b, o, e, hb.1, hc⟩⟩
theorem RdU.of_old {B : Nat} (h : Rd w B 1 A n xs) (hB : B ≤ w.heap.size) (hp : B ≤ p) (hq : B ≤ q) : RdU (Off p q w) w A n xs :=
  RdU.of h fun k hk => ⟨by omega, by omega, by omega⟩
theorem RdU.of_own {base e c : Nat} (h : w'.ownsRow base e 1 (.slice A n c) n xs) (hp : p < base) (hq : q < base) : RdU (Off p q w') w' A n xs := by
  refine ⟨by have := h.1; omega, fun hn => ?_⟩
  obtain ⟨_, g, e, hb, hg, hc, _⟩ := own_some h hn
  exact ⟨g, 0, e, ⟨hg, by omega, by omega⟩, fun j u hj => by rw [Nat.zero_add]; exact hc j u hj⟩
end
theorem litb (w : World) (p q : Nat) (hp : p < w.heap.size) (hq : q < w.heap.size) (a b : Bool) (e : TypeId) (fr : Nat × Nat) :
    RdU (Off p q (w.alloc (.cells #[.bool a, .bool b] e fr))) (w.alloc (.cells #[.bool a, .bool b] e fr)) (some ⟨w.heap.size, 0, none⟩) 2 (([a, b] : List Bool).map bo) := by
  refine ⟨rfl, fun _ => ⟨w.heap.size, 0, rfl, ⟨by rw [World.size_alloc]; omega, by omega, by omega⟩, fun j u hu => ?_⟩⟩
  have := (rd_new w (([a, b] : List Bool).map bo) e 2 2 rfl fr).2 (by omega)
  obtain ⟨b', o', e', _, hc⟩ := this
  injection e' with e'
  injection e' with e1 e2
  subst e1 e2
  exact hc j u hu
theorem rdu_nil (U : Nat → Prop) (w : World) : RdU U w none 0 (([] : List Bool).map bo) := ⟨rfl, fun h => absurd h (by omega)⟩
def hK : List Int := [1, 2]
def e0 : PD := ⟨hK, [0, 0], false, false⟩
def e1 : PD := ⟨hK, [1, 0], false, false⟩
def e2 : PD := ⟨hK, [1, 0], true, false⟩
def e3 : PD := ⟨hK, [1, 1], false, false⟩
def e4 : PD := ⟨hK, [2, 2], false, false⟩
def e5 : PD := ⟨hK, [0, 4], false, false⟩
def e6 : PD := ⟨hK, [0, 0], false, false⟩
def e7 : PD := ⟨hK, [0, 0], false, true⟩
theorem ke1 : e0.see [true, false] [false, false] = (true, e1) := rfl
theorem kh1 : e1.horn = 1 := rfl
theorem kh2 : e2.horn = 0 := rfl
theorem ke3 : e2.see [true, true] [false, false] = (true, e3) := rfl
theorem kh3 : e3.horn = 1 := rfl
theorem kl3 : e3.looks = [2, 2] := rfl
theorem ke4 : e3.ack = e4 := rfl
theorem ke5 : e4.see [false, false] [false, false] = (true, e5) := rfl
theorem ks5 : e5.S = [0, 4] := rfl
theorem ke6 : e5.reset = e6 := rfl
theorem kl7 : e7.looks = [1, 1] := rfl
theorem ks7 : e7.S = [0, 0] := rfl
theorem ke8 : e7.see [] [] = (false, e7) := rfl
theorem kh7 : e7.horn = 1 := rfl
theorem kload : ¬ okS e7.K.length [0, 9] := fun h => by have := (h.2 9 (by simp)).2; omega
theorem ok12 : okK [1, 2] := ⟨by decide, by intro k hk; simp at hk; omega⟩
theorem no0 : ¬ okK [0] := fun h => by have := (h.2 0 (by simp)).1; omega
end Go.Proofs.Ytphghclkfbhagaa
