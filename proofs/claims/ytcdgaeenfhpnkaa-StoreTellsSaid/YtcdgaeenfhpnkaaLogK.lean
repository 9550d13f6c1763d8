/- Package log: Compact. -/
import Derived.Test.YtcdgaeenfhpnkaaLogJ
set_option linter.unusedVariables false
set_option linter.unusedSimpArgs false
set_option maxRecDepth 100000
namespace Go.Proofs.Ytcdgaeenfhpnkaa
open Go Go.RowKit CrcMath
attribute [local go_sem] Oper.semAt_some

/-- what Compact answers, and what it leaves: errno, disk, half, turn, taken -/
structure CF where
  en : Nat
  d : DD
  half : Nat
  turn : Nat
  taken : Nat
def compF (d : DD) (half turn taken : Nat) (b : List Nat) : CF :=
  if ¬ (1 ≤ b.length ∧ b.length ≤ 448) then ⟨1, d, half, turn, taken⟩
  else if d.L.length / 2 < needsN b ∨ turn = 65535 then ⟨5, d, half, turn, taken⟩
  else if (wrF ((1 - half) * (d.L.length / 2)) (turn + 1) b d (List.range (needsN b))).1 = 0 then ⟨0, (wrF ((1 - half) * (d.L.length / 2)) (turn + 1) b d (List.range (needsN b))).2, 1 - half, turn + 1, needsN b⟩
  else ⟨(wrF ((1 - half) * (d.L.length / 2)) (turn + 1) b d (List.range (needsN b))).1, (wrF ((1 - half) * (d.L.length / 2)) (turn + 1) b d (List.range (needsN b))).2, half, turn, taken⟩
def CompPost (U : Nat → Prop) (p q lb : Nat) (w : World) (r : CF) (e : Ending) (w' : World) : Prop :=
  e = .returned (.int .i64 r.en) ∧ HD w' U p q r.d ∧ LogAt w' lb p r.half r.turn r.taken ∧ Kept (fun k => U k ∧ k ≠ lb) w w'
theorem CompPost.still {U : Nat → Prop} {p q lb half turn en taken : Nat} {w w' : World} {d : DD} (hd : HD w U p q d) (hl : LogAt w lb p half turn taken) (hb : Below w.heap.size w w') : CompPost U p q lb w ⟨en, d, half, turn, taken⟩ (.returned (.int .i64 en)) w' :=
  ⟨rfl, hd.below hb, hl.below hb, Kept.of hb (fun k hk => hd.old k hk.1)⟩
set_option maxHeartbeats 2000000 in
theorem comp_arg (U : Nat → Prop) (p q lb half turn taken n c : Nat) (A : Option Addr) (d : DD) (w : World) (hd : HD w U p q d) (hl : LogAt w lb p half turn taken) (hn : ¬ (1 ≤ n ∧ n ≤ 448)) (hn2 : n ≤ 9223372036854775807) :
    Calls Try.prog 52 #[.pointer (some ⟨lb, 0, none⟩), .slice A n c] w (CompPost U p q lb w ⟨1, d, half, turn, taken⟩) := by
  have hdec : decide (1 ≤ n ∧ n ≤ 448) = false := decide_eq_false hn
  have Hd := Lib.hid hd
  have Hl := Lib.hid hl
  have Hdec := Lib.hid hdec
  clear hd hl hdec hn
  go_enter Try.func52, Try.ntmps52
  go_wp2_with (first
    | (go_at_call 71; (with_reducible refine (right_any A n c w hn2).mono ?_)
       rintro e w1 ⟨he, hw⟩
       obtain rfl := hw.symm
       rw [Hdec.out] at he
       subst he))
  go_ret
  exact CompPost.still Hd.out Hl.out (Below.refl _ _)
set_option maxHeartbeats 2000000 in
theorem comp_full (U : Nat → Prop) (p q lb half turn taken n c : Nat) (A : Option Addr) (d : DD) (w : World) (hd : HD w U p q d) (hl : LogAt w lb p half turn taken) (hn : 1 ≤ n ∧ n ≤ 448) (hf : d.L.length / 2 < (n + 55) / 56 ∨ turn = 65535) :
    Calls Try.prog 52 #[.pointer (some ⟨lb, 0, none⟩), .slice A n c] w (CompPost U p q lb w ⟨5, d, half, turn, taken⟩) := by
  have hdec : decide (1 ≤ n ∧ n ≤ 448) = true := decide_eq_true hn
  have c2 := cell_of_row w lb 2 _ _ _ hl
  simp at c2
  have Hd := Lib.hid hd
  have Hl := Lib.hid hl
  have Hdec := Lib.hid hdec
  clear hd hl hdec
  by_cases hf1 : d.L.length / 2 < (n + 55) / 56
  all_goals
    first
    | (have t1 : decide (((d.L.length / 2 : Nat) : Int) < (((n + 55) / 56 : Nat) : Int)) = true := decide_eq_true (by omega))
    | (have t1 : decide (((d.L.length / 2 : Nat) : Int) < (((n + 55) / 56 : Nat) : Int)) = false := decide_eq_false (by omega)
       have t2 : ((turn : Int) == 65535) = true := by rw [beq_iff_eq]; omega)
    have t1' : decide ((d.L.length : Int) / 2 < ((n : Int) + 55) / 56) = _ := t1
    clear hf hf1
    go_enter Try.func52, Try.ntmps52
    go_wp2_with (first
      | (go_at_call 71; (with_reducible refine (right_any A n c w (by omega)).mono ?_)
         rintro e w1 ⟨he, hw⟩
         obtain rfl := hw.symm
         rw [Hdec.out] at he
         subst he)
      | (go_at_call 72; (with_reducible refine (needs_any A n c _ (by omega)).mono ?_)
         rintro e w1 ⟨rfl, hw⟩
         obtain rfl := hw.symm)
      | (go_at_call 69; (with_reducible refine (size_any U p q lb half turn taken d _ Hd.out Hl.out).mono ?_)
         rintro e w1 ⟨rfl, hw⟩
         obtain rfl := hw.symm))
    go_ret
    exact CompPost.still Hd.out Hl.out (Below.refl _ _)
end Go.Proofs.Ytcdgaeenfhpnkaa
