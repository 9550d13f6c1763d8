/- Lamps: Look, Horn. -/
import Derived.Test.YtphghclkfbhagaaLampD
set_option linter.unusedVariables false
set_option linter.unusedSimpArgs false
set_option maxRecDepth 100000
namespace Go.Proofs.Ytphghclkfbhagaa
open Go Go.RowKit

def horn1 : List Int := toL zr 1 [1, 3, 6, 8]
def hornL : List Int := toL horn1 2 [5]
def hornI (s : Int) : Int := hornL.getD s.toNat 0
theorem horn1_9 : horn1.length = 9 := rfl
theorem hornL_9 : hornL.length = 9 := rfl
theorem rowA_at (L : List Int) (s : Int) (h : L.length = 9) (s1 : 0 ≤ s) (s2 : s < 9) : (rowA L)[s.toNat]? = some (.int .i64 (L.getD s.toNat 0)) := by
  have hl : s.toNat < L.length := by omega
  simp [rowA, hl, iv]
theorem lit2a (w : World) (o : Obj) (a b : Int) (e : TypeId) (fr : Nat × Nat) : Rd ((w.alloc o).alloc (.cells #[.int .i64 a, .int .i64 b] e fr)) ((w.alloc o).alloc (.cells #[.int .i64 a, .int .i64 b] e fr)).heap.size 1 (some ⟨w.heap.size + 1, 0, none⟩) 2 (([a, b] : List Int).map iv) := by
  have h := lit2 (w.alloc o) a b e fr
  have e1 : (w.alloc o).heap.size = w.heap.size + 1 := by simp
  rw [← e1]
  exact h
theorem lit4a (w : World) (o : Obj) (a b c d : Int) (e : TypeId) (fr : Nat × Nat) : Rd ((w.alloc o).alloc (.cells #[.int .i64 a, .int .i64 b, .int .i64 c, .int .i64 d] e fr)) ((w.alloc o).alloc (.cells #[.int .i64 a, .int .i64 b, .int .i64 c, .int .i64 d] e fr)).heap.size 1 (some ⟨w.heap.size + 1, 0, none⟩) 4 (([a, b, c, d] : List Int).map iv) := by
  have h := lit4 (w.alloc o) a b c d e fr
  have e1 : (w.alloc o).heap.size = w.heap.size + 1 := by simp
  rw [← e1]
  exact h
set_option maxHeartbeats 2000000 in
theorem lhorn_any (s : Int) (w : World) (s1 : 0 ≤ s) (s2 : s < 9) :
    Calls Try.prog 29 #[.int .i64 s] w fun e w' => e = .returned (.int .i64 (hornI s)) ∧ Below w.heap.size w w' := by
  go_enter Try.func29, Try.ntmps29
  go_wp2_with (first
    | (with_reducible refine wpList_load_row rfl 49 (.tmp 3) rfl w.heap.size rfl 49 (rowA zr) (0, 0) _ (zr_new w) Try.underlying49 rfl (by rw [rowA_9 _ zr_9]; exact info_row) ?_)
    | (go_at_call 36; (with_reducible refine (to_any zr 1 _ 4 4 _ [1, 3, 6, 8] _ zr_9 (lit4a w _ 1 3 6 8 _ _) (Nat.le_refl _) (by decide) (by omega)).mono ?_); rintro e w2 ⟨he, hb2⟩
       rw [show toL zr 1 [1, 3, 6, 8] = horn1 from rfl] at he
       subst he
       have h2 := (hb2.block w.heap.size (by simp only [World.size_alloc]; omega)).trans (heap_alloc_keep _ (zr_new w))
       have hw2 : Below w.heap.size w w2 := (((Below.refl _ w).alloc (Nat.le_refl _) _).alloc (by simp only [World.size_alloc]; omega) _).trans (hb2.mono (by simp only [World.size_alloc]; omega))
       have l2 : w.heap.size < w2.heap.size := (Array.getElem?_eq_some_iff.1 h2).1
       clear hb2)
    | (go_at_call 36; (with_reducible refine (to_any horn1 2 _ 1 1 _ [5] _ horn1_9 (lit1 w2 5 _ _) (Nat.le_refl _) (by decide) (by omega)).mono ?_); rintro e w3 ⟨he, hb3⟩
       rw [show toL horn1 2 [5] = hornL from rfl] at he
       subst he
       have h3 := (hb3.block w.heap.size (by simp only [World.size_alloc]; omega)).trans (heap_alloc_keep _ h2)
       have hw3 : Below w.heap.size w w3 := (hw2.alloc hw2.size _).trans (hb3.mono (by simp only [World.size_alloc]; omega))
       clear hb3 h2 hw2)
    | (with_reducible refine wpList_put_all rfl 49 (.tmp 3) (.tmp 14) rfl w.heap.size hornL zr 49 rfl rfl h3 hornL_9 zr_9 info_row ?_
       intro w5 h5 hb5
       have hw5 := hw3.trans (hb5.below (Nat.le_refl _))
       have c5 : w5.cell? ⟨w.heap.size, s.toNat, none⟩ = some (.int .i64 (hornI s)) := (cell_of_row _ _ _ _ _ _ h5).trans (rowA_at hornL s hornL_9 s1 s2)
       clear h5 hb5 h3 hw3)
    | fail)
  go_ret
  exact ⟨rfl, hw5⟩

def look1 : List Int := toL zr 2 [1, 3]
def look2 : List Int := toL look1 4 [6, 8]
def look3 : List Int := toL look2 1 [2, 7, 4]
def lookL : List Int := toL look3 3 [5]
def lookI (s : Int) : Int := lookL.getD s.toNat 0
theorem look1_9 : look1.length = 9 := rfl
theorem look2_9 : look2.length = 9 := rfl
theorem look3_9 : look3.length = 9 := rfl
theorem lookL_9 : lookL.length = 9 := rfl
set_option maxHeartbeats 2000000 in
theorem llook_any (s : Int) (w : World) (s1 : 0 ≤ s) (s2 : s < 9) :
    Calls Try.prog 30 #[.int .i64 s] w fun e w' => e = .returned (.int .i64 (lookI s)) ∧ Below w.heap.size w w' := by
  go_enter Try.func30, Try.ntmps30
  go_wp2_with (first
    | (with_reducible refine wpList_load_row rfl 49 (.tmp 3) rfl w.heap.size rfl 49 (rowA zr) (0, 0) _ (zr_new w) Try.underlying49 rfl (by rw [rowA_9 _ zr_9]; exact info_row) ?_)
    | (go_at_call 36; (with_reducible refine (to_any zr 2 _ 2 2 _ [1, 3] _ zr_9 (lit2a w _ 1 3 _ _) (Nat.le_refl _) (by decide) (by omega)).mono ?_); rintro e w2 ⟨he, hb2⟩
       rw [show toL zr 2 [1, 3] = look1 from rfl] at he
       subst he
       have h2 := (hb2.block w.heap.size (by simp only [World.size_alloc]; omega)).trans (heap_alloc_keep _ (zr_new w))
       have hw2 : Below w.heap.size w w2 := (((Below.refl _ w).alloc (Nat.le_refl _) _).alloc (by simp only [World.size_alloc]; omega) _).trans (hb2.mono (by simp only [World.size_alloc]; omega))
       have l2 : w.heap.size < w2.heap.size := (Array.getElem?_eq_some_iff.1 h2).1
       clear hb2)
    | (go_at_call 36; (with_reducible refine (to_any look1 4 _ 2 2 _ [6, 8] _ look1_9 (lit2 w2 6 8 _ _) (Nat.le_refl _) (by decide) (by omega)).mono ?_); rintro e w3 ⟨he, hb3⟩
       rw [show toL look1 4 [6, 8] = look2 from rfl] at he
       subst he
       have h3 := (hb3.block w.heap.size (by simp only [World.size_alloc]; omega)).trans (heap_alloc_keep _ h2)
       have hw3 : Below w.heap.size w w3 := (hw2.alloc hw2.size _).trans (hb3.mono (by simp only [World.size_alloc]; omega))
       clear hb3 h2 hw2)
    | (with_reducible refine wpList_put_all rfl 49 (.tmp 3) (.tmp 14) rfl w.heap.size look2 zr 49 rfl rfl h3 look2_9 zr_9 info_row ?_
       intro w5 h5 hb5
       have hw5 := hw3.trans (hb5.below (Nat.le_refl _))
       have l5 : w.heap.size < w5.heap.size := (Array.getElem?_eq_some_iff.1 h5).1
       clear hb5 h3 hw3)
    | (with_reducible refine wpList_load_row rfl 49 (.tmp 3) rfl w.heap.size rfl 49 (rowA look2) (0, 0) _ h5 Try.underlying49 rfl (by rw [rowA_9 _ look2_9]; exact info_row) ?_)
    | (go_at_call 36; (with_reducible refine (to_any look2 1 _ 3 3 _ [2, 7, 4] _ look2_9 (lit3 w5 2 7 4 _ _) (Nat.le_refl _) (by decide) (by omega)).mono ?_); rintro e w6 ⟨he, hb6⟩
       rw [show toL look2 1 [2, 7, 4] = look3 from rfl] at he
       subst he
       have h6 := (hb6.block w.heap.size (by simp only [World.size_alloc]; omega)).trans (heap_alloc_keep _ h5)
       have hw6 : Below w.heap.size w w6 := (hw5.alloc hw5.size _).trans (hb6.mono (by simp only [World.size_alloc]; omega))
       have l6 : w.heap.size < w6.heap.size := (Array.getElem?_eq_some_iff.1 h6).1
       clear hb6 h5 hw5)
    | (go_at_call 36; (with_reducible refine (to_any look3 3 _ 1 1 _ [5] _ look3_9 (lit1 w6 5 _ _) (Nat.le_refl _) (by decide) (by omega)).mono ?_); rintro e w7 ⟨he, hb7⟩
       rw [show toL look3 3 [5] = lookL from rfl] at he
       subst he
       have h7 := (hb7.block w.heap.size (by simp only [World.size_alloc]; omega)).trans (heap_alloc_keep _ h6)
       have hw7 : Below w.heap.size w w7 := (hw6.alloc hw6.size _).trans (hb7.mono (by simp only [World.size_alloc]; omega))
       clear hb7 h6 hw6)
    | (with_reducible refine wpList_put_all rfl 49 (.tmp 3) (.tmp 19) rfl w.heap.size lookL look2 49 rfl rfl h7 lookL_9 look2_9 info_row ?_
       intro w8 h8 hb8
       have hw8 := hw7.trans (hb8.below (Nat.le_refl _))
       have c8 : w8.cell? ⟨w.heap.size, s.toNat, none⟩ = some (.int .i64 (lookI s)) := (cell_of_row _ _ _ _ _ _ h8).trans (rowA_at lookL s lookL_9 s1 s2)
       clear h8 hb8 h7 hw7)
    | fail)
  go_ret
  exact ⟨rfl, hw8⟩
end Go.Proofs.Ytphghclkfbhagaa
