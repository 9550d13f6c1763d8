/- The statements on logs: what they are handed in, told as lists; Same, count. -/
import Derived.Test.YtefmeifamapdcaaLogQ
set_option linter.unusedVariables false
set_option linter.unusedSimpArgs false
set_option maxRecDepth 100000
namespace Go.Proofs.Ytefmeifamapdcaa
open Go Go.RowKit Go.ChangeShapes Go.WideShapes Go.ChangeAt CrcMath

/-- a slice of slices of bytes reads as a list of lists -/
def SS (w : World) (A : Option Addr) (n : Nat) (l : List (List Nat)) : Prop :=
  l.length = n ∧ (0 < n → ∃ g o, A = some ⟨g, o, none⟩ ∧ ∀ (j : Nat) (r : List Nat), l[j]? = some r → ∃ A' n' c', w.cell? ⟨g, o + j, none⟩ = some (.slice A' n' c') ∧ Rd w w.heap.size 1 A' n' (r.map bv))
theorem OutOk.ss {W : World} {base Bo n c : Nat} {A : Option Addr} {l : List (List Nat)} (h : OutOk W base Bo (.slice A n c) l) (hB : Bo ≤ W.heap.size) (hn : l.length = n) : SS W A n l := by
  obtain ⟨vs, h1, h2⟩ := h
  refine ⟨hn, fun h0 => ?_⟩
  rw [hn] at h1
  obtain ⟨_, g, rfl, _, _, hc, _⟩ := own_some h1 h0
  refine ⟨g, 0, rfl, fun j r hj => ?_⟩
  obtain ⟨A', n', c', e, _, _, hr⟩ := h2 j r hj
  exact ⟨A', n', c', by rw [Nat.zero_add]; exact hc j _ e, hr.1.more hB⟩
theorem out_shape {W : World} {base Bo : Nat} {v : Value} {l : List (List Nat)} (h : OutOk W base Bo v l) : ∃ A c, v = .slice A l.length c := by
  obtain ⟨vs, h1, _⟩ := h
  exact own_shape h1
theorem kcvL (w' : World) (A : Option Addr) (n c B : Nat) (l : List Nat) (h : Rd w' B 1 A n (l.map bv)) : (convert 23 9 (.slice A n c)).run Try.prog w' = .ok (.string (bstr l)) w' :=
  run_str h 23 9 5 Try.underlying23 Try.underlying5 Try.underlying9
set_option maxHeartbeats 2000000 in
theorem same_yes (A1 A2 : Option Addr) (n c1 c2 : Nat) (l : List (List Nat)) (w : World) (h1 : SS w A1 n l) (h2 : SS w A2 n l) (hn : n ≤ 1000000) :
    Calls Try.prog 13 #[.slice A1 n c1, .slice A2 n c2] w fun e w' => e = .returned (.bool true) ∧ Below w.heap.size w w' := by
  have H1 := Lib.hid h1
  have H2 := Lib.hid h2
  clear h1 h2
  go_enter Try.func13, Try.ntmps13
  go_wp2_with fail
  go_loopg [5] n (fun k i wr => ∃ (j : Nat), k + j = n ∧ i = .int .i64 j ∧ Below w.heap.size w wr ∧ SS wr A1 n l ∧ SS wr A2 n l)
  case atStart => exact ⟨0, by omega, rfl, Below.refl _ _, H1.out, H2.out⟩
  case round =>
    obtain ⟨j, hj, rfl, hb, s1, s2⟩ := hrel
    by_cases hlt : j < n
    · have hi0 : (0 : Int) ≤ (j : Int) := by omega
      have hi1 : (j : Int) < (n : Int) := by omega
      obtain ⟨g1, o1, rfl, k1⟩ := s1.2 (by omega)
      obtain ⟨g2, o2, rfl, k2⟩ := s2.2 (by omega)
      obtain ⟨r, hr⟩ : ∃ r, l[j]? = some r := ⟨_, List.getElem?_eq_getElem (by have := s1.1; omega)⟩
      obtain ⟨A1', n1', c1', e1, r1⟩ := k1 j r hr
      obtain ⟨A2', n2', c2', e2, r2⟩ := k2 j r hr
      have hlt' : wr.drew.heap.size = wr.heap.size := rfl
      have HQ : Hid (wr.drew.cell? ⟨g1, o1 + j, none⟩ = some (.slice A1' n1' c1') ∧ wr.drew.cell? ⟨g2, o2 + j, none⟩ = some (.slice A2' n2' c2') ∧ (convert 23 9 (.slice A1' n1' c1')).run Try.prog wr.drew = .ok (.string (bstr r)) wr.drew ∧ (convert 23 9 (.slice A2' n2' c2')).run Try.prog wr.drew = .ok (.string (bstr r)) wr.drew) :=
        ⟨e1, e2, kcvL _ _ _ c1' _ _ (r1.below (Below.refl _ _).drew), kcvL _ _ _ c2' _ _ (r2.below (Below.refl _ _).drew)⟩
      have hnx : Below w.heap.size w wr.drew := hb.drew
      have hs1' : SS wr.drew (some ⟨g1, o1, none⟩) n l := s1
      have hs2' : SS wr.drew (some ⟨g2, o2, none⟩) n l := s2
      have HN := Lib.hid hnx
      have HS1 := Lib.hid hs1'
      have HS2 := Lib.hid hs2'
      clear s1 s2 hb k1 k2 r1 r2 hr hnx hs1' hs2' hlt'
      go_wp2_with fail
      refine startH (fun w' => w'.cell? ⟨g1, o1 + j, none⟩ = some (.slice A1' n1' c1') ∧ w'.cell? ⟨g2, o2 + j, none⟩ = some (.slice A2' n2' c2') ∧ (convert 23 9 (.slice A1' n1' c1')).run Try.prog w' = .ok (.string (bstr r)) w' ∧ (convert 23 9 (.slice A2' n2' c2')).run Try.prog w' = .ok (.string (bstr r)) w') 11 #[false, false, false, false, false, false, false, false, false, false, false] rfl rfl (by kernel_rfl) ?_ (fun hHeld => ?_)
      · (exact HQ.out)
      refine takeH 0 17 #[true, false, false, false, false, false, false, false, false, false, false] (v := ?_) rfl rfl rfl (by kernel_rfl) (by kernel_rfl) (by kernel_rfl) (fun _ _ _ h => h) (Or.inl ⟨by rfl, ?_⟩) hHeld ?_
      rotate_left
      · (intro w' hSw; (try dsimp only at hSw); go_simp; (try with_reducible rfl))
      simp only [List.set_cons_zero, List.set_cons_succ]
      refine takeH 1 18 #[true, true, false, false, false, false, false, false, false, false, false] (v := ?_) rfl rfl rfl (by kernel_rfl) (by kernel_rfl) (by kernel_rfl) (fun _ _ _ h => h) (Or.inl ⟨by rfl, ?_⟩) hHeld ?_
      rotate_left
      · (intro w' hSw; (try dsimp only at hSw); go_simp; (try with_reducible rfl))
      simp only [List.set_cons_zero, List.set_cons_succ]
      refine takeH 2 19 #[true, true, true, false, false, false, false, false, false, false, false] (v := ?_) rfl rfl rfl (by kernel_rfl) (by kernel_rfl) (by kernel_rfl) (fun _ _ _ h => h) (Or.inl ⟨by rfl, ?_⟩) hHeld ?_
      rotate_left
      · (intro w' hSw; (try dsimp only at hSw); go_simp; (try with_reducible rfl))
      simp only [List.set_cons_zero, List.set_cons_succ]
      refine takeH 3 20 #[true, true, true, true, false, false, false, false, false, false, false] (v := ?_) rfl rfl rfl (by kernel_rfl) (by kernel_rfl) (by kernel_rfl) (fun _ _ _ h => h) (Or.inl ⟨by rfl, ?_⟩) hHeld ?_
      rotate_left
      · (intro w' hSw; (try dsimp only at hSw); go_simp; (try with_reducible rfl))
      simp only [List.set_cons_zero, List.set_cons_succ]
      refine takeH 4 21 #[true, true, true, true, true, false, false, false, false, false, false] (v := ?_) rfl rfl rfl (by kernel_rfl) (by kernel_rfl) (by kernel_rfl) (fun _ _ _ h => h) (Or.inl ⟨by rfl, ?_⟩) hHeld ?_
      rotate_left
      · (intro w' hSw; (try dsimp only at hSw); go_simp; (try with_reducible rfl))
      simp only [List.set_cons_zero, List.set_cons_succ]
      refine takeH 5 22 #[true, true, true, true, true, true, false, false, false, false, false] (v := ?_) rfl rfl rfl (by kernel_rfl) (by kernel_rfl) (by kernel_rfl) (fun _ _ _ h => h) (Or.inl ⟨by rfl, ?_⟩) hHeld ?_
      rotate_left
      · (intro w' hSw; (try dsimp only at hSw); go_simp; (try with_reducible rfl))
      simp only [List.set_cons_zero, List.set_cons_succ]
      refine takeH 6 23 #[true, true, true, true, true, true, true, false, false, false, false] (v := ?_) rfl rfl rfl (by kernel_rfl) (by kernel_rfl) (by kernel_rfl) (fun _ _ _ h => h) (Or.inl ⟨by rfl, ?_⟩) hHeld ?_
      rotate_left
      · (intro w' hSw; (try dsimp only at hSw); go_simp; (try with_reducible rfl))
      simp only [List.set_cons_zero, List.set_cons_succ]
      refine takeH 7 24 #[true, true, true, true, true, true, true, true, false, false, false] (v := ?_) rfl rfl rfl (by kernel_rfl) (by kernel_rfl) (by kernel_rfl) (fun _ _ _ h => h) (Or.inl ⟨by rfl, ?_⟩) hHeld ?_
      rotate_left
      · (intro w' hSw; (try dsimp only at hSw); go_simp; (try with_reducible rfl))
      simp only [List.set_cons_zero, List.set_cons_succ]
      refine takeH 8 25 #[true, true, true, true, true, true, true, true, true, false, false] (v := ?_) rfl rfl rfl (by kernel_rfl) (by kernel_rfl) (by kernel_rfl) (fun _ _ _ h => h) (Or.inl ⟨by rfl, ?_⟩) hHeld ?_
      rotate_left
      · (intro w' hSw; (try dsimp only at hSw); go_simp; (try with_reducible rfl))
      simp only [List.set_cons_zero, List.set_cons_succ]
      refine takeH 9 26 #[true, true, true, true, true, true, true, true, true, true, false] (v := ?_) rfl rfl rfl (by kernel_rfl) (by kernel_rfl) (by kernel_rfl) (fun _ _ _ h => h) (Or.inl ⟨by rfl, ?_⟩) hHeld ?_
      rotate_left
      · (intro w' hSw; (try dsimp only at hSw); go_simp; (try with_reducible rfl))
      simp only [List.set_cons_zero, List.set_cons_succ]
      refine takeH 10 27 #[true, true, true, true, true, true, true, true, true, true, true] (v := ?_) rfl rfl rfl (by kernel_rfl) (by kernel_rfl) (by kernel_rfl) (fun _ _ _ h => h) (Or.inl ⟨by rfl, ?_⟩) hHeld ?_
      rotate_left
      · (intro w' hSw; (try dsimp only at hSw); go_simp; (try with_reducible rfl))
      simp only [List.set_cons_zero, List.set_cons_succ]
      refine wpAnyH_done (by kernel_rfl) ?_ _
      refine NoPanic.normal ?_
      go_wp2_with fail
      go_roundg (gk - 1)
      case measure => omega
      case rel => exact ⟨j + 1, by omega, by go_num, HN.out, HS1.out, HS2.out⟩
    · go_wp2_with fail
      go_ret
      exact ⟨rfl, hb⟩
theorem count_any (b : Bool) (w : World) : Calls Try.prog 16 #[.bool b] w fun e w' => e = .returned (.int .i64 (if b then 1 else 0 : Nat)) ∧ w' = w := by
  cases b
  · go_enter Try.func16, Try.ntmps16
    go_wp2_with fail
    go_ret
    exact ⟨rfl, rfl⟩
  · go_enter Try.func16, Try.ntmps16
    go_wp2_with fail
    go_ret
    exact ⟨rfl, rfl⟩
end Go.Proofs.Ytefmeifamapdcaa
