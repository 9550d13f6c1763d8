/- The live question ahead of each statement on stores: its parts. -/
import Derived.Test.YtcdgaeenfhpnkaaStR
set_option linter.unusedVariables false
set_option linter.unusedSimpArgs false
set_option maxRecDepth 100000
namespace Go.Proofs.Ytcdgaeenfhpnkaa
open Go Go.RowKit
attribute [local go_sem] Oper.semAt_some

def oneS (t : Int) : St := ⟨[⟨true, t, true⟩], [⟨false, 0, false⟩], [7]⟩
def StP (w : World) (s : St) (e : Ending) (w' : World) : Prop := ∃ v : StV, e = .returned (.agg #[.slice v.A1 v.n1 v.c1, .slice v.A2 v.n2 v.c2, .slice v.A3 v.n3 v.c3]) ∧ StO w' w.heap.size v s ∧ Below w.heap.size w w'
theorem own_new (w : World) (e k n : Nat) (cs : List Value) (hc : n ≤ maxLen) (h1 : cs.length = n * k) : (w.alloc (.cells cs.toArray e)).ownsRow w.heap.size e k (.slice (some ⟨w.heap.size, 0, none⟩) n n) n cs :=
  ⟨h1, .inr ⟨w.heap.size, n, cs.toArray, rfl, Nat.le_refl _, heap_alloc_new w _, Nat.le_refl _, hc, by simpa using h1, by rw [← h1]; simp⟩⟩
theorem al_ (w : World) (o : Obj) : Below w.heap.size w (w.alloc o) := (Below.refl _ _).alloc (Nat.le_refl _) _
theorem one_st (t : Int) (w : World) :
    Calls Try.prog 25 #[.int .i64 t] w (StP w (oneS t)) := by
  have hza : (w.alloc (.cells #[.slice none 0 0, .slice none 0 0, .slice none 0 0] 25)).heap.size = w.heap.size + 1 := World.size_alloc _ _
  go_enter Try.func25, Try.ntmps25
  go_wp2_with fail
  obtain ⟨w1, hw1⟩ : ∃ x, x = w.alloc (.cells #[.slice (some ⟨w.heap.size + 1, 0, none⟩) 1 1, .slice (some ⟨w.heap.size + 1 + 1, 0, none⟩) 1 1, .slice (some ⟨w.heap.size + 1 + 1 + 1, 0, none⟩) 1 1] 25) := ⟨_, rfl⟩
  have hz1 : w1.heap.size = w.heap.size + 1 := by rw [hw1]; exact World.size_alloc _ _
  have hb1 : Below w.heap.size w w1 := by rw [hw1]; exact al_ _ _
  have hc1 := heap_alloc_new w (.cells #[.slice (some ⟨w.heap.size + 1, 0, none⟩) 1 1, .slice (some ⟨w.heap.size + 1 + 1, 0, none⟩) 1 1, .slice (some ⟨w.heap.size + 1 + 1 + 1, 0, none⟩) 1 1] 25)
  rw [← hw1] at hc1
  rw [← hw1]
  have o1 := own_new w1 61 3 1 [.bool true, .int .i64 t, .bool true] (by unfold maxLen; omega) rfl
  have b2 := al_ w1 (.cells #[.bool true, .int .i64 t, .bool true] 61)
  obtain ⟨w2, hw2⟩ : ∃ x, x = w1.alloc (.cells #[.bool true, .int .i64 t, .bool true] 61) := ⟨_, rfl⟩
  have hz2 : w2.heap.size = w.heap.size + 1 + 1 := by rw [hw2, World.size_alloc, hz1]
  change (w1.alloc (.cells #[.bool true, .int .i64 t, .bool true] 61)).ownsRow _ _ _ _ _ _ at o1
  rw [← hw2] at b2 o1 ⊢
  have o2 := own_new w2 61 3 1 [.bool false, .int .i64 0, .bool false] (by unfold maxLen; omega) rfl
  have b3 := al_ w2 (.cells #[.bool false, .int .i64 0, .bool false] 61)
  obtain ⟨w3, hw3⟩ : ∃ x, x = w2.alloc (.cells #[.bool false, .int .i64 0, .bool false] 61) := ⟨_, rfl⟩
  have hz3 : w3.heap.size = w.heap.size + 1 + 1 + 1 := by rw [hw3, World.size_alloc, hz2]
  change (w2.alloc (.cells #[.bool false, .int .i64 0, .bool false] 61)).ownsRow _ _ _ _ _ _ at o2
  rw [← hw3] at b3 o2 ⊢
  have o3 := own_new w3 2 1 1 [.int .i64 7] (by unfold maxLen; omega) rfl
  have b4 := al_ w3 (.cells #[.int .i64 7] 2)
  obtain ⟨w4, hw4⟩ : ∃ x, x = w3.alloc (.cells #[.int .i64 7] 2) := ⟨_, rfl⟩
  change (w3.alloc (.cells #[.int .i64 7] 2)).ownsRow _ _ _ _ _ _ at o3
  rw [← hw4] at b4 o3 ⊢
  have p1 := own_below (own_below o1 b3) b4
  have p2 := own_below o2 b4
  rw [hz1] at p1
  rw [hz2] at p2
  rw [hz3] at o3
  have h4 := ((b2.trans ((b3.trans (b4.mono b3.size)).mono b2.size)).block w.heap.size (by omega)).trans hc1
  refine bodyPost_ret (results_cell_row rfl _ _ w.heap.size 25 _ (0, 0) _ rfl h4 Try.underlying25 rfl (by kernel_rfl)) rfl ?_
  refine ⟨⟨some ⟨w.heap.size + 1, 0, none⟩, 1, 1, some ⟨w.heap.size + 1 + 1, 0, none⟩, 1, 1, some ⟨w.heap.size + 1 + 1 + 1, 0, none⟩, 1, 1⟩, rfl, ⟨own_base p1 (by omega), own_base p2 (by omega), own_base o3 (by omega), rfl, rfl, rfl⟩, ?_⟩
  exact hb1.trans ((b2.trans ((b3.trans (b4.mono b3.size)).mono b2.size)).mono hb1.size)
theorem greatState_any (v : StV) (A : Option Addr) (n c : Nat) (w : World) (h1 : v.n1 ≤ 140737488351232) (h2 : v.n2 ≤ 140737488351232) (h3 : v.n3 ≤ 140737488351232) (hn : n ≤ 140737488351232) :
    Calls Try.prog 9 #[.agg #[.slice v.A1 v.n1 v.c1, .slice v.A2 v.n2 v.c2, .slice v.A3 v.n3 v.c3], .slice A n c] w fun e w' => e = .returned (.bool (decide (500 < v.n1 + v.n2 + v.n3 + n))) ∧ Below w.heap.size w w' := by
  obtain ⟨A1, n1, c1, A2, n2, c2, A3, n3, c3⟩ := v
  dsimp only at h1 h2 h3
  go_enter Try.func9, Try.ntmps9
  go_wp2_with fail
  go_ret
  refine ⟨ret_bool2 ?_, (Below.refl _ _).alloc (Nat.le_refl _) _⟩
  rw [decide_eq_decide]
  omega
end Go.Proofs.Ytcdgaeenfhpnkaa
