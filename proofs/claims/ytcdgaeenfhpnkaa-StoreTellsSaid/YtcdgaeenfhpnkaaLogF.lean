/- Package log: the pieces of a record: slices.Chunk. -/
import Derived.Test.YtcdgaeenfhpnkaaLogE
import Derived.Sort.QuietIn
set_option linter.unusedVariables false
set_option linter.unusedSimpArgs false
set_option maxRecDepth 100000
namespace Go.Proofs.Ytcdgaeenfhpnkaa
open Go Go.RowKit CrcMath
attribute [local go_sem] Oper.semAt_some

theorem chunk_any (A : Option Addr) (n c : Nat) (w : World) :
    Calls Try.prog 84 #[.slice A n c, .int .i64 56] w fun e w' =>
      e = .returned (.func (.func 95) #[] #[.pointer (some ⟨w.heap.size, 0, none⟩), .pointer (some ⟨w.heap.size + 1, 0, none⟩)]) ∧
      w' = (w.alloc (.cells #[.slice A n c] 27)).alloc (.cells #[.int .i64 56] 3) := by
  go_enter Try.func84, Try.ntmps84
  go_wp2_with fail
  go_ret
  exact ⟨rfl, rfl⟩

/-- the i-th piece of n bytes at o -/
def chE (g o n i : Nat) : Array Value := #[.slice (some ⟨g, o + 56 * i, none⟩) (min 56 (n - 56 * i)) (min 56 (n - 56 * i))]
def chR (n : Nat) (pre : List Nat) (x : Nat) (W : World) : Prop := pre = List.range x ∧ 56 * x < n
structure ChI (W : World) (B g o n c : Nat) : Prop where
  b0 : W.heap[B]? = some (.cells #[.slice (some ⟨g, o, none⟩) n c] 27)
  b1 : W.heap[B + 1]? = some (.cells #[.int .i64 56] 3)
def chK (B k : Nat) : Prop := k = B ∨ k = B + 1
theorem ChI.kept {W W' : World} {B g o n c : Nat} (h : ChI W B g o n c) (hk : Kept (chK B) W W') : ChI W' B g o n c :=
  ⟨(hk.block _ (.inl rfl)).trans h.b0, (hk.block _ (.inr rfl)).trans h.b1⟩
theorem ChI.below {W W' : World} {B g o n c : Nat} (h : ChI W B g o n c) (hb : Below W.heap.size W W') : ChI W' B g o n c :=
  ⟨(hb.block _ (Array.getElem?_eq_some_iff.1 h.b0).1).trans h.b0, (hb.block _ (Array.getElem?_eq_some_iff.1 h.b1).1).trans h.b1⟩
theorem range_snoc (k : Nat) : List.range k ++ [k] = List.range (k + 1) := List.range_succ.symm
set_option maxHeartbeats 4000000 in
theorem chunks_in (m l : Nat) (J Jx : List Nat → World → Prop) (W : World) (B g o n c : Nat) (hI : ChI W B g o n c) (hn : n ≤ c) (hn2 : n ≤ 448) (hc : c ≤ maxLen)
    (hJ : ∀ pre A B, J pre A → Below A.heap.size A B → J pre B) (hY : Round (m - 1) Try.prog l (chE g o n) (chR n) (Kept (chK B)) J Jx) (h0 : J [] W) :
    CallsIn Fence.wide m Try.prog 95 #[.func (.yield l) #[] #[], .pointer (some ⟨B, 0, none⟩), .pointer (some ⟨B + 1, 0, none⟩)] W fun e W' => (∃ v, e = .returned v) ∧
      ((∃ xs : List Nat, xs = List.range ((n + 55) / 56) ∧ J xs W') ∨ (∃ pre : List Nat, (∃ k, 56 * k < n ∧ pre = List.range (k + 1)) ∧ Jx pre W')) := by
  refine callsIn_of_wp Try.func95 rfl trivial ?_ rfl
  simp only [Try.ntmps95, List.size_toArray, List.length_cons, List.length_nil, Nat.reduceAdd, Nat.reduceSub, Array.replicate_succ, Array.replicate_zero, List.push_toArray, List.append_toArray, List.nil_append, List.cons_append]
  gi_wp2
  gi_loopw [4, 5] (fun i e wr => ∃ k : Nat, i = .int .i64 (56 * k : Nat) ∧ 56 * k < n + 56 ∧ J (List.range k) wr ∧ ChI wr B g o n c) (fun i _ _ => (n + 56) - (intOf i).toNat)
  case atStart => exact ⟨0, rfl, by omega, h0, hI⟩
  case round =>
    obtain ⟨k, rfl, hk, hJs, hP⟩ := hrel
    have m0 := cell_of_row wr B 0 _ _ _ hP.b0
    have m1 := cell_of_row wr (B + 1) 0 _ _ _ hP.b1
    simp at m0 m1
    have HP := Lib.hid hP
    clear hP
    by_cases hlt : 56 * k < n
    · have hi0 : ((56 * k : Nat) : Int) < (n : Int) := by omega
      gi_wp2_with fail
      gi_quiet (fail)
      obtain ⟨W2, hW2⟩ : ∃ X, X = wr.drewN nq := ⟨_, rfl⟩
      have HB2 : Hid (Below wr.heap.size wr W2) := by rw [hW2]; exact ⟨rfl, rfl, rfl, Nat.le_refl _, fun _ _ => rfl⟩
      rw [← hW2]
      obtain ⟨mm, hmm⟩ : ∃ mm, mm = min 56 (n - 56 * k) := ⟨_, rfl⟩
      have hd : (if ((n - 56 * k : Nat) : Int) < 56 then ((n - 56 * k : Nat) : Int) else 56) = ((mm : Nat) : Int) := by
        rw [hmm]
        split <;> omega
      rw [hd]
      have hP2 := HP.out.below HB2.out
      have q0 := cell_of_row W2 B 0 _ _ _ hP2.b0
      have q1 := cell_of_row W2 (B + 1) 0 _ _ _ hP2.b1
      simp at q0 q1
      have HP2 := Lib.hid hP2
      have HJ2 : Hid (J (List.range k) W2) := hJ _ _ _ hJs HB2.out
      have hm1 : 0 < mm := by omega
      have hm2 : 56 * k + mm ≤ n := by omega
      have hm56 : mm ≤ 56 := by omega
      have Hmm := Lib.hid hmm
      clear hW2 hd hP2 m0 m1 hi0 hmm hJs
      have hlo : ((56 * k : Nat) : Int) ≤ ((56 * k : Nat) : Int) + (mm : Int) := by omega
      have hhi : ((56 * k : Nat) : Int) + (mm : Int) ≤ (c : Int) := by omega
      obtain ⟨fn, tmps, assign, body, hy, hR⟩ := hY (List.range k) k W2 HJ2.out ⟨rfl, hlt⟩
      unfold chE at hy
      rw [← Hmm.out] at hy
      have HRd2 := Lib.hid hR
      clear hR
      gi_wp2
      refine ⟨(fun h => by cases h), ?_⟩
      refine HRd2.out.mono ?_
      rintro e W3 (⟨rfl, hJ3, hk3⟩ | ⟨rfl, hJx3⟩)
      · have hP3 := HP2.out.kept hk3
        have z1 := cell_of_row W3 (B + 1) 0 _ _ _ hP3.b1
        simp at z1
        have HP3 := Lib.hid hP3
        have HJ3 : Hid (J (List.range (k + 1)) W3) := by show J _ _; rw [← range_snoc]; exact hJ3
        clear hJ3 hk3 hy hP3
        gi_wp2
        go_roundw
        case rel => exact ⟨k + 1, by go_num, by omega, HJ3.out, HP3.out⟩
        case measure => simp [intOf]; omega
      · have HJx3 : Hid (Jx (List.range (k + 1)) W3) := by show Jx _ _; rw [← range_snoc]; exact hJx3
        clear hJx3 hy
        gi_wp2
        refine bodyPost_ret (results_none rfl _ _ _) rfl ?_
        exact ⟨⟨_, rfl⟩, .inr ⟨_, ⟨k, hlt, rfl⟩, HJx3.out⟩⟩
    · have hi0 : ¬ ((56 * k : Nat) : Int) < (n : Int) := by omega
      gi_wp2_with fail
      go_end0
      have hkk : k = (n + 55) / 56 := by omega
      subst hkk
      exact ⟨⟨_, rfl⟩, .inl hJs⟩
end Go.Proofs.Ytcdgaeenfhpnkaa
