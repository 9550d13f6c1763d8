/- Package log: size, Room, Turn. -/
import Derived.Test.YtcdgaeenfhpnkaaLogH
set_option linter.unusedVariables false
set_option linter.unusedSimpArgs false
set_option maxRecDepth 100000
namespace Go.Proofs.Ytcdgaeenfhpnkaa
open Go Go.RowKit CrcMath
attribute [local go_sem] Oper.semAt_some

/-- a log in memory -/
def LogAt (w : World) (lb p half turn taken : Nat) : Prop := w.heap[lb]? = some (.cells #[.pointer (some ⟨p, 0, none⟩), .int .i64 half, .int .i64 turn, .int .i64 taken] 109)
theorem LogAt.below {w w' : World} {lb p half turn taken : Nat} (h : LogAt w lb p half turn taken) (hb : Below w.heap.size w w') : LogAt w' lb p half turn taken :=
  (hb.block lb (Array.getElem?_eq_some_iff.1 h).1).trans h
theorem size_any (U : Nat → Prop) (p q lb half turn taken : Nat) (d : DD) (w : World) (hd : HD w U p q d) (hl : LogAt w lb p half turn taken) :
    Calls Try.prog 69 #[.pointer (some ⟨lb, 0, none⟩)] w fun e w' => e = .returned (.int .i64 (d.L.length / 2 : Nat)) ∧ w' = w := by
  have c0 := cell_of_row w lb 0 _ _ _ hl
  simp at c0
  have hlen : d.L.length ≤ 256 := by obtain ⟨c, h⟩ := hd; exact h.ok.2.1
  have Hd := Lib.hid hd
  clear hd hl
  go_enter Try.func69, Try.ntmps69
  go_wp2_with (first
    | (go_at_call 82; (with_reducible refine (many_any U p q d w Hd.out).mono ?_)
       rintro e w1 ⟨rfl, rfl⟩))
  go_ret
  exact ⟨by simp, rfl⟩
theorem room_any (U : Nat → Prop) (p q lb half turn taken : Nat) (d : DD) (w : World) (hd : HD w U p q d) (hl : LogAt w lb p half turn taken) (ht : taken ≤ 1000) :
    Calls Try.prog 73 #[.pointer (some ⟨lb, 0, none⟩)] w fun e w' => e = .returned (.int .i64 ((d.L.length / 2 : Nat) - (taken : Int))) ∧ Below w.heap.size w w' := by
  have c3 := cell_of_row w lb 3 _ _ _ hl
  simp at c3
  have hlen : d.L.length ≤ 256 := by obtain ⟨c, h⟩ := hd; exact h.ok.2.1
  have Hd := Lib.hid hd
  have Hl := Lib.hid hl
  clear hd hl
  go_enter Try.func73, Try.ntmps73
  go_wp2_with fail
  refine startH (fun w' => w'.cell? ⟨lb, 3, none⟩ = some (.int .i64 taken)) 8 #[false, false, false, false, false, false, false, false] rfl rfl (by kernel_rfl) ?_ (fun hHeld => ?_)
  · (first | exact c3 | exact hHeld)
  refine takeH 0 3 #[true, false, false, false, false, false, false, false] (v := ?_) rfl rfl rfl (by kernel_rfl) (by kernel_rfl) (by kernel_rfl) (fun _ _ _ h => h) (Or.inl ⟨by rfl, ?_⟩) hHeld ?_
  rotate_left
  · (intro w' hSw; (try dsimp only at hSw); go_simp; (try with_reducible rfl))
  simp only [List.set_cons_zero, List.set_cons_succ]
  refine takeH 2 5 #[true, false, true, false, false, false, false, false] (v := ?_) rfl rfl rfl (by kernel_rfl) (by kernel_rfl) (by kernel_rfl) (fun _ _ _ h => h) (Or.inl ⟨by rfl, ?_⟩) hHeld ?_
  rotate_left
  · (intro w' hSw; (try dsimp only at hSw); go_simp; (try with_reducible rfl))
  simp only [List.set_cons_zero, List.set_cons_succ]
  refine takeH 3 6 #[true, false, true, true, false, false, false, false] (v := ?_) rfl rfl rfl (by kernel_rfl) (by kernel_rfl) (by kernel_rfl) (fun _ _ _ h => h) (Or.inl ⟨by rfl, ?_⟩) hHeld ?_
  rotate_left
  · (intro w' hSw; (try dsimp only at hSw); go_simp; (try with_reducible rfl))
  simp only [List.set_cons_zero, List.set_cons_succ]
  refine takeH 4 7 #[true, false, true, true, true, false, false, false] (v := ?_) rfl rfl rfl (by kernel_rfl) (by kernel_rfl) (by kernel_rfl) (fun _ _ _ h => h) (Or.inl ⟨by rfl, ?_⟩) hHeld ?_
  rotate_left
  · (intro w' hSw; (try dsimp only at hSw); go_simp; (try with_reducible rfl))
  simp only [List.set_cons_zero, List.set_cons_succ]
  refine takeH 5 8 #[true, false, true, true, true, true, false, false] (v := ?_) rfl rfl rfl (by kernel_rfl) (by kernel_rfl) (by kernel_rfl) (fun _ _ _ h => h) (Or.inl ⟨by rfl, ?_⟩) hHeld ?_
  rotate_left
  · (intro w' hSw; (try dsimp only at hSw); go_simp; (try with_reducible rfl))
  simp only [List.set_cons_zero, List.set_cons_succ]
  refine branchH 1 4 #[true, true, true, true, true, true, false, false] (by kernel_rfl) rfl rfl rfl (by rfl) (fun K hK => ?_)
  go_simp
  (go_at_call 69; (with_reducible refine (size_any U p q lb half turn taken d _ (Hd.out.below (Below.refl _ _).drew) (Hl.out.below (Below.refl _ _).drew)).mono ?_))
  rintro e w1 ⟨rfl, rfl⟩
  refine hK.out _ _ ?_ (fun hHeld' => ?_)
  · (first | exact c3 | exact hHeld)
  clear hK K hHeld
  have hHeld := hHeld'
  clear hHeld'
  simp only [List.set_cons_zero, List.set_cons_succ]
  refine takeH 6 9 #[true, true, true, true, true, true, true, false] (v := ?_) rfl rfl rfl (by kernel_rfl) (by kernel_rfl) (by kernel_rfl) (fun _ _ _ h => h) (Or.inl ⟨by rfl, ?_⟩) hHeld ?_
  rotate_left
  · (intro w' hSw; (try dsimp only at hSw); go_simp; (try with_reducible rfl))
  simp only [List.set_cons_zero, List.set_cons_succ]
  refine takeH 7 2 #[true, true, true, true, true, true, true, true] (v := ?_) rfl rfl rfl (by kernel_rfl) (by kernel_rfl) (by kernel_rfl) (fun _ _ _ h => h) (Or.inl ⟨by rfl, ?_⟩) hHeld ?_
  rotate_left
  · (intro w' hSw; (try dsimp only at hSw); go_simp; (try with_reducible rfl))
  simp only [List.set_cons_zero, List.set_cons_succ]
  refine wpAnyH_done (by kernel_rfl) ?_ _
  refine NoPanic.normal ?_
  go_wp2_with fail
  go_ret
  have hw : IntKind.i64.wrap ((d.L.length : Int) / 2 - (taken : Int)) = (d.L.length : Int) / 2 - (taken : Int) := IntWalk.i64_in _ (by omega)
  refine ⟨?_, (Below.refl _ _).drew⟩
  simp [hw]
end Go.Proofs.Ytcdgaeenfhpnkaa
