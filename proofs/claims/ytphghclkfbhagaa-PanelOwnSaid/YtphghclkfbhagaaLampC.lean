/- Lamps: rows: what the states come to, by what happens. -/
import Derived.Test.YtphghclkfbhagaaLampB
set_option linter.unusedVariables false
set_option linter.unusedSimpArgs false
set_option maxRecDepth 100000
namespace Go.Proofs.Ytphghclkfbhagaa
open Go Go.RowKit

def freshI (c : Bool) : Int := if c then 2 else 1
def bad1 (c : Bool) : List Int := toL sameL (freshI c) [0, 4, 5]
def bad2 (c : Bool) : List Int := toL (bad1 c) 1 [3]
def badL (c : Bool) : List Int := toL (bad2 c) 6 [8]
def frstL (c d : Bool) : List Int := if d then toL (badL c) 6 [0, 4, 5, 1, 3, 8] else badL c
def well1 : List Int := toL sameL 3 [1]
def well2 : List Int := toL well1 8 [6]
def wellL (r : Int) : List Int := toL well2 r [2, 7]
def ack1 : List Int := toL sameL 2 [1]
def ack2 : List Int := toL ack1 7 [6]
def ackL (r : Int) : List Int := toL ack2 r [3, 8]
def rstL : List Int := toL sameL 0 [4, 5]
def rowsL (a b c d : Bool) : List (List Int) := [zr, badL c, frstL c d, wellL (restI a b), ackL (restI a b), rstL]
theorem lit_new (w : World) (l : List Int) (n : Nat) (e : TypeId) (fr : Nat × Nat) (hl : l.length = n) : Rd (w.alloc (.cells (l.map iv).toArray e fr)) (w.alloc (.cells (l.map iv).toArray e fr)).heap.size 1 (some ⟨w.heap.size, 0, none⟩) n (l.map iv) := by
  rw [World.size_alloc]
  exact rd_new w (l.map iv) e n n (by simpa using hl) fr

theorem lit1 (w : World) (a : Int) (e : TypeId) (fr : Nat × Nat) : Rd (w.alloc (.cells #[.int .i64 a] e fr)) (w.alloc (.cells #[.int .i64 a] e fr)).heap.size 1 (some ⟨w.heap.size, 0, none⟩) 1 (([a] : List Int).map iv) := by
  rw [World.size_alloc]
  exact rd_new w (([a] : List Int).map iv) e 1 1 rfl fr
theorem lit2 (w : World) (a b : Int) (e : TypeId) (fr : Nat × Nat) : Rd (w.alloc (.cells #[.int .i64 a, .int .i64 b] e fr)) (w.alloc (.cells #[.int .i64 a, .int .i64 b] e fr)).heap.size 1 (some ⟨w.heap.size, 0, none⟩) 2 (([a, b] : List Int).map iv) := by
  rw [World.size_alloc]
  exact rd_new w (([a, b] : List Int).map iv) e 2 2 rfl fr
theorem lit3 (w : World) (a b c : Int) (e : TypeId) (fr : Nat × Nat) : Rd (w.alloc (.cells #[.int .i64 a, .int .i64 b, .int .i64 c] e fr)) (w.alloc (.cells #[.int .i64 a, .int .i64 b, .int .i64 c] e fr)).heap.size 1 (some ⟨w.heap.size, 0, none⟩) 3 (([a, b, c] : List Int).map iv) := by
  rw [World.size_alloc]
  exact rd_new w (([a, b, c] : List Int).map iv) e 3 3 rfl fr
theorem lit4 (w : World) (a b c d : Int) (e : TypeId) (fr : Nat × Nat) : Rd (w.alloc (.cells #[.int .i64 a, .int .i64 b, .int .i64 c, .int .i64 d] e fr)) (w.alloc (.cells #[.int .i64 a, .int .i64 b, .int .i64 c, .int .i64 d] e fr)).heap.size 1 (some ⟨w.heap.size, 0, none⟩) 4 (([a, b, c, d] : List Int).map iv) := by
  rw [World.size_alloc]
  exact rd_new w (([a, b, c, d] : List Int).map iv) e 4 4 rfl fr
theorem lit6 (w : World) (a b c d e f : Int) (e : TypeId) (fr : Nat × Nat) : Rd (w.alloc (.cells #[.int .i64 a, .int .i64 b, .int .i64 c, .int .i64 d, .int .i64 e, .int .i64 f] e fr)) (w.alloc (.cells #[.int .i64 a, .int .i64 b, .int .i64 c, .int .i64 d, .int .i64 e, .int .i64 f] e fr)).heap.size 1 (some ⟨w.heap.size, 0, none⟩) 6 (([a, b, c, d, e, f] : List Int).map iv) := by
  rw [World.size_alloc]
  exact rd_new w (([a, b, c, d, e, f] : List Int).map iv) e 6 6 rfl fr
/-- what stands in memory while the rows are made: the traits, the result, the rows so far -/
structure RS (w0 w : World) (n1 n2 n4 : Nat) (a b c d : Bool) (rows : List (List Int)) : Prop where
  bel : Below w0.heap.size w0 w
  lt : w0.heap.size ≤ n1 ∧ n1 < n2 ∧ n2 < n4 ∧ n4 < w.heap.size
  t1 : w.heap[n1]? = some (.cells #[.bool a, .bool b, .bool c, .bool d] 54 (0, 0))
  t2 : w.heap[n2]? = some (.cells (rowA (fl [zr, zr, zr, zr, zr, zr])) 51 (0, 0))
  t4 : w.heap[n4]? = some (.cells (rowA (fl rows)) 51 (0, 0))
theorem RS.below {w0 w w' : World} {n1 n2 n4 : Nat} {a b c d : Bool} {rows : List (List Int)} (h : RS w0 w n1 n2 n4 a b c d rows) (hb : Below w.heap.size w w') : RS w0 w' n1 n2 n4 a b c d rows := by
  have := h.lt
  exact ⟨h.bel.trans (hb.mono h.bel.size), ⟨this.1, this.2.1, this.2.2.1, Nat.lt_of_lt_of_le this.2.2.2 hb.size⟩, (hb.block _ (by omega)).trans h.t1, (hb.block _ (by omega)).trans h.t2, (hb.block _ (by omega)).trans h.t4⟩
theorem RS.put {w0 w w' : World} {n1 n2 n4 : Nat} {a b c d : Bool} {rows rows' : List (List Int)} (h : RS w0 w n1 n2 n4 a b c d rows) (hb : But n4 w w')
    (h4 : w'.heap[n4]? = some (.cells (rowA (fl rows')) 51 (0, 0))) : RS w0 w' n1 n2 n4 a b c d rows' := by
  have := h.lt
  refine ⟨h.bel.trans (hb.below (by omega)), ⟨this.1, this.2.1, this.2.2.1, by rw [hb.size]; exact this.2.2.2⟩, (hb.block _ (by omega)).trans h.t1, (hb.block _ (by omega)).trans h.t2, h4⟩

theorem rs_start (w : World) (a b c d : Bool) : RS w (((w.alloc (.cells #[.bool a, .bool b, .bool c, .bool d] 54)).alloc (.cells (rowA (fl [zr, zr, zr, zr, zr, zr])) 51)).alloc (.cells (rowA (fl [zr, zr, zr, zr, zr, zr])) 51)) w.heap.size (w.heap.size + 1) (w.heap.size + 1 + 1) a b c d [zr, zr, zr, zr, zr, zr] := by
  refine ⟨(((Below.refl _ w).alloc (Nat.le_refl _) _).alloc (by simp) _).alloc (by simp; omega) _, ⟨by omega, by omega, by omega, by simp⟩, ?_, ?_, ?_⟩
  · exact heap_alloc_keep _ (heap_alloc_keep _ (heap_alloc_new w _))
  · refine heap_alloc_keep _ ?_
    have := heap_alloc_new (w.alloc (.cells #[.bool a, .bool b, .bool c, .bool d] 54)) (.cells (rowA (fl [zr, zr, zr, zr, zr, zr])) 51)
    rwa [World.size_alloc] at this
  · have := heap_alloc_new ((w.alloc (.cells #[.bool a, .bool b, .bool c, .bool d] 54)).alloc (.cells (rowA (fl [zr, zr, zr, zr, zr, zr])) 51)) (.cells (rowA (fl [zr, zr, zr, zr, zr, zr])) 51)
    rwa [World.size_alloc, World.size_alloc] at this
theorem wpList_put_all {P : Program} {ops : Array Oper} {rest : List Oper} {op : Oper} {a : Act} {w : World} {Q : Exit → Act → World → Prop} (hgd : op.guard = none) (ty : TypeId) (x y : Operand) (ho : op.op = .store ty x y)
    (b : Nat) (R old : List Int) (t : TypeId) (hx : a.eval x = .pointer (some ⟨b, 0, none⟩)) (hy : a.eval y = .agg (rowA R))
    (hb : w.heap[b]? = some (.cells (rowA old) t (0, 0))) (hR : R.length = 9) (hO : old.length = 9) (hi : (P.info? ty).map (·.size) = some 9)
    (h : ∀ w', w'.heap[b]? = some (.cells (rowA R) t (0, 0)) → But b w w' → wpList P ops Q rest (a.put op.dst undef) w') : wpList P ops Q (op :: rest) a w := by
  have := wpList_put_row (P := P) (ops := ops) (rest := rest) (Q := Q) (w := w) (a := a) hgd ty x y ho b 0 [old] R t (by simpa using hx) hy (by simpa [fl] using hb) (by simpa using hO) hR (by simp) hi
    (fun w' h1 h2 => h w' (by simpa [fl] using h1) h2)
  exact this
theorem zr_new (w : World) : (w.alloc (.cells #[.int .i64 0, .int .i64 0, .int .i64 0, .int .i64 0, .int .i64 0, .int .i64 0, .int .i64 0, .int .i64 0, .int .i64 0] 49)).heap[w.heap.size]? = some (.cells (rowA zr) 49 (0, 0)) := heap_alloc_new w _
theorem info_row : (Try.prog.info? 49).map (·.size) = some 9 := by kernel_rfl
theorem rowA_9 (r : List Int) (h : r.length = 9) : (rowA r).size = 9 := by simp [rowA, h]
theorem zr_9 : zr.length = 9 := rfl
theorem k6 : (1 : Nat) < [zr, zr, zr, zr, zr, zr].length := by decide
theorem z6_9 : ∀ r ∈ [zr, zr, zr, zr, zr, zr], r.length = 9 := by decide
theorem badL_9 (c : Bool) : (badL c).length = 9 := by cases c <;> rfl
def z6b (c : Bool) : List (List Int) := [zr, badL c, zr, zr, zr, zr]
def z6c (c : Bool) : List (List Int) := [zr, badL c, badL c, zr, zr, zr]
def z6d (c d : Bool) : List (List Int) := [zr, badL c, frstL c d, zr, zr, zr]

def T10 (a b c d : Bool) (n4 : Nat) (r : Int) : List (Value ⊕ (Nat × List Int)) := [.inl (.agg (rowA sameL)), .inr (1, [1]), .inl (.agg (rowA well1)), .inr (1, [6]), .inl (.agg (rowA well2)), .inl (trV a b c d), .inl (.int .i64 r), .inr (2, [2, 7]), .inl (.agg (rowA (wellL r))), .inl (.pointer (some ⟨n4, 27, none⟩))]
def T11 (a b c d : Bool) (n4 : Nat) (r : Int) : List (Value ⊕ (Nat × List Int)) := [.inl (.agg (rowA sameL)), .inr (1, [1]), .inl (.agg (rowA ack1)), .inr (1, [6]), .inl (.agg (rowA ack2)), .inl (trV a b c d), .inl (.int .i64 r), .inr (2, [3, 8]), .inl (.agg (rowA (ackL r))), .inl (.pointer (some ⟨n4, 36, none⟩))]
theorem sameL_9 : sameL.length = 9 := rfl
theorem well1_9 : well1.length = 9 := rfl
theorem well2_9 : well2.length = 9 := rfl
theorem wellL_9 (r : Int) : (wellL r).length = 9 := rfl
theorem ack1_9 : ack1.length = 9 := rfl
theorem ack2_9 : ack2.length = 9 := rfl
theorem ackL_9 (r : Int) : (ackL r).length = 9 := rfl
theorem rstL_9 : rstL.length = 9 := rfl
def z6e (c d : Bool) (r : Int) : List (List Int) := [zr, badL c, frstL c d, wellL r, zr, zr]
def z6f (c d : Bool) (r : Int) : List (List Int) := [zr, badL c, frstL c d, wellL r, ackL r, zr]
def z6g (c d : Bool) (r : Int) : List (List Int) := [zr, badL c, frstL c d, wellL r, ackL r, rstL]
theorem z6e_9 (c d : Bool) (r : Int) : ∀ x ∈ z6e c d r, x.length = 9 := by cases c <;> cases d <;> (intro x hx; simp only [z6e, List.mem_cons, List.not_mem_nil, or_false] at hx; rcases hx with rfl | rfl | rfl | rfl | rfl | rfl <;> rfl)
theorem z6f_9 (c d : Bool) (r : Int) : ∀ x ∈ z6f c d r, x.length = 9 := by cases c <;> cases d <;> (intro x hx; simp only [z6f, List.mem_cons, List.not_mem_nil, or_false] at hx; rcases hx with rfl | rfl | rfl | rfl | rfl | rfl <;> rfl)
theorem z6g_9 (c d : Bool) (r : Int) : ∀ x ∈ z6g c d r, x.length = 9 := by cases c <;> cases d <;> (intro x hx; simp only [z6g, List.mem_cons, List.not_mem_nil, or_false] at hx; rcases hx with rfl | rfl | rfl | rfl | rfl | rfl <;> rfl)
theorem z6g_54 (c d : Bool) (r : Int) : (rowA (fl (z6g c d r))).size = 54 := by
  have := fl_len (z6g c d r) (z6g_9 c d r)
  simp only [rowA, List.size_toArray, List.length_map, this]
  rfl
theorem z6_same (c d : Bool) (r : Int) : (rowA (fl [zr, zr, zr, zr, zr, zr])).size = (rowA (fl (z6g c d r))).size := by rw [z6g_54]; rfl
theorem info_rows : (Try.prog.info? 51).map (·.size) = some 54 := by kernel_rfl
theorem z6d_k (c d : Bool) : 3 < (z6d c d).length := by cases c <;> cases d <;> decide
theorem z6e_k (c d : Bool) (r : Int) : 4 < (z6e c d r).length := by simp [z6e]
theorem z6f_k (c d : Bool) (r : Int) : 5 < (z6f c d r).length := by simp [z6f]
theorem frstL_9 (c d : Bool) : (frstL c d).length = 9 := by cases c <;> cases d <;> rfl
theorem z6b_9 (c : Bool) : ∀ r ∈ z6b c, r.length = 9 := by cases c <;> decide
theorem z6c_9 (c : Bool) : ∀ r ∈ z6c c, r.length = 9 := by cases c <;> decide
theorem z6d_9 (c d : Bool) : ∀ r ∈ z6d c d, r.length = 9 := by cases c <;> cases d <;> decide
theorem z6b_k (c : Bool) : 2 < (z6b c).length := by decide +revert
theorem z6c_k (c : Bool) : 2 < (z6c c).length := by decide +revert

set_option maxHeartbeats 4000000 in
theorem rows_ff (a b : Bool) (w : World) :
    Calls Try.prog 37 #[trV a b false false] w fun e w' => e = .returned (.agg (rowA (fl (rowsL a b false false)))) ∧ Below w.heap.size w w' := by
  obtain ⟨r, hrr⟩ : ∃ r, r = restI a b := ⟨_, rfl⟩
  have HRR := Lib.hid hrr
  clear hrr
  unfold trV
  go_enter Try.func37, Try.ntmps37
  go_wp2_with (first
    | (go_at_call 39; (with_reducible refine (same_any _).mono ?_); rintro e w1 ⟨rfl, hb1⟩
       have H1 : RS w w1 w.heap.size (w.heap.size + 1) (w.heap.size + 1 + 1) a b false false [zr, zr, zr, zr, zr, zr] := (rs_start w a b false false).below hb1
       clear hb1)
    | (go_at_call 36; (with_reducible refine (to_any sameL 1 _ 3 3 _ [0, 4, 5] _ rfl (lit3 w1 0 4 5 _ _) (Nat.le_refl _) (by decide) (by omega)).mono ?_); rintro e w2 ⟨he, hb2⟩
       rw [show toL sameL 1 [0, 4, 5] = bad1 false from rfl] at he
       subst he
       have H2 := H1.below (((Below.refl _ w1).alloc (Nat.le_refl _) _).trans (hb2.mono (by rw [World.size_alloc]; omega)))
       clear hb2)
    | (go_at_call 36; (with_reducible refine (to_any (bad1 false) 1 _ 1 1 _ [3] _ rfl (lit1 w2 3 _ _) (Nat.le_refl _) (by decide) (by omega)).mono ?_); rintro e w3 ⟨he, hb3⟩
       rw [show toL (bad1 false) 1 [3] = bad2 false from rfl] at he
       subst he
       have H3 := H2.below (((Below.refl _ w2).alloc (Nat.le_refl _) _).trans (hb3.mono (by rw [World.size_alloc]; omega)))
       clear hb3)
    | (go_at_call 36; (with_reducible refine (to_any (bad2 false) 6 _ 1 1 _ [8] _ rfl (lit1 w3 8 _ _) (Nat.le_refl _) (by decide) (by omega)).mono ?_); rintro e w4 ⟨he, hb4⟩
       rw [show toL (bad2 false) 6 [8] = badL false from rfl] at he
       subst he
       have H4 := H3.below (((Below.refl _ w3).alloc (Nat.le_refl _) _).trans (hb4.mono (by rw [World.size_alloc]; omega)))
       clear hb4)
    | (with_reducible refine wpList_put_all rfl 49 (.tmp 5) (.tmp 15) rfl w4.heap.size (badL false) zr 49 rfl rfl (zr_new w4) (badL_9 _) zr_9 info_row ?_
       intro w5 h5 hb5
       have H5 : RS w w5 w.heap.size (w.heap.size + 1) (w.heap.size + 1 + 1) a b false false [zr, zr, zr, zr, zr, zr] := H4.below (((Below.refl _ _).alloc (Nat.le_refl _) _).trans (hb5.below (Nat.le_refl _)))
       have hg5 : w.heap.size + 1 + 1 < w4.heap.size := H4.lt.2.2.2
       clear H1 H2 H3 hb5)
    | (with_reducible refine wpList_load_row rfl 49 (.tmp 5) rfl w4.heap.size rfl 49 (rowA (badL false)) (0, 0) _ h5 Try.underlying49 rfl (by rw [rowA_9 _ (badL_9 _)]; exact info_row) ?_)
    | (with_reducible refine wpList_put_row rfl 49 (.tmp 17) (.tmp 16) rfl (w.heap.size + 1 + 1) 1 [zr, zr, zr, zr, zr, zr] (badL false) 51 rfl rfl H5.t4 z6_9 (badL_9 _) k6 info_row ?_
       intro w6 h6 hb6
       have H6 : RS w w6 w.heap.size (w.heap.size + 1) (w.heap.size + 1 + 1) a b false false (z6b false) := H5.put hb6 h6
       have h56 := (hb6.block w4.heap.size (by omega)).trans h5
       clear h6 hb6 h5 H4 H5)
    | (with_reducible refine wpList_load_row rfl 49 (.tmp 5) rfl w4.heap.size rfl 49 (rowA (badL false)) (0, 0) _ h56 Try.underlying49 rfl (by rw [rowA_9 _ (badL_9 _)]; exact info_row) ?_)
    | (with_reducible refine wpList_put_row rfl 49 (.tmp 19) (.tmp 18) rfl (w.heap.size + 1 + 1) 2 (z6b false) (badL false) 51 rfl rfl H6.t4 (z6b_9 _) (badL_9 _) (z6b_k _) info_row ?_
       intro w7 h7 hb7
       have H7 : RS w w7 w.heap.size (w.heap.size + 1) (w.heap.size + 1 + 1) a b false false (z6c false) := H6.put hb7 h7
       have h57 := (hb7.block w4.heap.size (by omega)).trans h56
       have c7 : w7.cell? ⟨w.heap.size, 3, none⟩ = some (.bool false) := cell_of_row _ _ _ _ _ _ H7.t1
       clear h7 hb7 h56 H6)
    | fail)
  refine region_calls 10 [(0, 26), (1, 27), (2, 28), (3, 29), (4, 30), (5, 31), (6, 32), (7, 33), (8, 34), (9, 35)] (by kernel_rfl) (by kernel_rfl) (FT (T10 a b false false (w.heap.size + 1 + 1) r)) (FT_keep (T10 a b false false (w.heap.size + 1 + 1) r)) (fun i hi X w1 o ho hb hf K hK => ?_) (fun X w1 o ho hb hf => ?_)
  · simp only [setAll, List.set_cons_zero, List.set_cons_succ] at hK ⊢
    have hi' : i = 0 ∨ i = 1 ∨ i = 2 ∨ i = 3 ∨ i = 4 ∨ i = 5 ∨ i = 6 ∨ i = 7 ∨ i = 8 ∨ i = 9 := by omega
    rcases hi' with rfl | rfl | rfl | rfl | rfl | rfl | rfl | rfl | rfl | rfl
    · simp only [List.getElem?_toArray, List.getElem?_cons_zero, List.getElem?_cons_succ, Option.some.injEq] at ho
      subst ho
      clear hf
      go_simp
      (go_at_call 39; (with_reducible refine (same_any _).mono ?_))
      rintro e wn ⟨rfl, hbn⟩
      exact hK.out _ _ hbn rfl
    · simp only [List.getElem?_toArray, List.getElem?_cons_zero, List.getElem?_cons_succ, Option.some.injEq] at ho
      subst ho
      clear hf
      go_simp
      exact hK.out _ _ ((Below.refl _ w1).alloc (Nat.le_refl _) _) ⟨_, rfl, lit1 w1 1 _ _⟩
    · simp only [List.getElem?_toArray, List.getElem?_cons_zero, List.getElem?_cons_succ, Option.some.injEq] at ho
      subst ho
      have f0 := hf 0 (by kernel_rfl)
      simp only [FT, T10, List.getElem?_cons_zero, List.getElem?_cons_succ] at f0
      have f1 := hf 1 (by kernel_rfl)
      simp only [FT, T10, List.getElem?_cons_zero, List.getElem?_cons_succ] at f1
      clear hf
      obtain ⟨g, e1, r1⟩ := f1
      rw [f0, e1] at hK ⊢
      go_simp
      (go_at_call 36; (with_reducible refine (to_any sameL 3 _ 1 1 _ [1] _ sameL_9 r1 (Nat.le_refl _) (by decide) (by omega)).mono ?_))
      rintro e wn ⟨rfl, hbn⟩
      exact hK.out _ _ hbn rfl
    · simp only [List.getElem?_toArray, List.getElem?_cons_zero, List.getElem?_cons_succ, Option.some.injEq] at ho
      subst ho
      clear hf
      go_simp
      exact hK.out _ _ ((Below.refl _ w1).alloc (Nat.le_refl _) _) ⟨_, rfl, lit1 w1 6 _ _⟩
    · simp only [List.getElem?_toArray, List.getElem?_cons_zero, List.getElem?_cons_succ, Option.some.injEq] at ho
      subst ho
      have f2 := hf 2 (by kernel_rfl)
      simp only [FT, T10, List.getElem?_cons_zero, List.getElem?_cons_succ] at f2
      have f3 := hf 3 (by kernel_rfl)
      simp only [FT, T10, List.getElem?_cons_zero, List.getElem?_cons_succ] at f3
      clear hf
      obtain ⟨g, e1, r1⟩ := f3
      rw [f2, e1] at hK ⊢
      go_simp
      (go_at_call 36; (with_reducible refine (to_any well1 8 _ 1 1 _ [6] _ well1_9 r1 (Nat.le_refl _) (by decide) (by omega)).mono ?_))
      rintro e wn ⟨rfl, hbn⟩
      exact hK.out _ _ hbn rfl
    · simp only [List.getElem?_toArray, List.getElem?_cons_zero, List.getElem?_cons_succ, Option.some.injEq] at ho
      subst ho
      clear hf
      have Hn := H7.below hb
      refine wp_load_row 54 (.tmp 1) rfl w.heap.size rfl 54 _ (0, 0) _ Hn.t1 Try.underlying54 rfl (by kernel_rfl) ?_
      exact hK.out _ _ (Below.refl _ _) rfl
    · simp only [List.getElem?_toArray, List.getElem?_cons_zero, List.getElem?_cons_succ, Option.some.injEq] at ho
      subst ho
      have f4 := hf 4 (by kernel_rfl)
      simp only [FT, T10, List.getElem?_cons_zero, List.getElem?_cons_succ] at f4
      have f5 := hf 5 (by kernel_rfl)
      simp only [FT, T10, List.getElem?_cons_zero, List.getElem?_cons_succ] at f5
      clear hf
      rw [f5] at hK ⊢
      clear f4 f5
      go_simp
      (go_at_call 40; (with_reducible refine (rest_any a b false false _).mono ?_))
      rintro e wn ⟨rfl, hbn⟩
      exact hK.out _ _ hbn (by rw [HRR.out]; rfl)
    · simp only [List.getElem?_toArray, List.getElem?_cons_zero, List.getElem?_cons_succ, Option.some.injEq] at ho
      subst ho
      clear hf
      go_simp
      exact hK.out _ _ ((Below.refl _ w1).alloc (Nat.le_refl _) _) ⟨_, rfl, lit2 w1 2  7 _ _⟩
    · simp only [List.getElem?_toArray, List.getElem?_cons_zero, List.getElem?_cons_succ, Option.some.injEq] at ho
      subst ho
      have f4 := hf 4 (by kernel_rfl)
      simp only [FT, T10, List.getElem?_cons_zero, List.getElem?_cons_succ] at f4
      have f6 := hf 6 (by kernel_rfl)
      simp only [FT, T10, List.getElem?_cons_zero, List.getElem?_cons_succ] at f6
      have f7 := hf 7 (by kernel_rfl)
      simp only [FT, T10, List.getElem?_cons_zero, List.getElem?_cons_succ] at f7
      clear hf
      obtain ⟨g, e1, r1⟩ := f7
      rw [f4, f6, e1] at hK ⊢
      go_simp
      (go_at_call 36; (with_reducible refine (to_any well2 r _ 2 2 _ [2, 7] _ well2_9 r1 (Nat.le_refl _) (by decide) (by omega)).mono ?_))
      rintro e wn ⟨rfl, hbn⟩
      exact hK.out _ _ hbn rfl
    · simp only [List.getElem?_toArray, List.getElem?_cons_zero, List.getElem?_cons_succ, Option.some.injEq] at ho
      subst ho
      have f0 := hf 0 (by kernel_rfl)
      simp only [FT, T10, List.getElem?_cons_zero, List.getElem?_cons_succ] at f0
      have f1 := hf 1 (by kernel_rfl)
      simp only [FT, T10, List.getElem?_cons_zero, List.getElem?_cons_succ] at f1
      have f2 := hf 2 (by kernel_rfl)
      simp only [FT, T10, List.getElem?_cons_zero, List.getElem?_cons_succ] at f2
      have f3 := hf 3 (by kernel_rfl)
      simp only [FT, T10, List.getElem?_cons_zero, List.getElem?_cons_succ] at f3
      have f4 := hf 4 (by kernel_rfl)
      simp only [FT, T10, List.getElem?_cons_zero, List.getElem?_cons_succ] at f4
      have f5 := hf 5 (by kernel_rfl)
      simp only [FT, T10, List.getElem?_cons_zero, List.getElem?_cons_succ] at f5
      have f6 := hf 6 (by kernel_rfl)
      simp only [FT, T10, List.getElem?_cons_zero, List.getElem?_cons_succ] at f6
      have f7 := hf 7 (by kernel_rfl)
      simp only [FT, T10, List.getElem?_cons_zero, List.getElem?_cons_succ] at f7
      have f8 := hf 8 (by kernel_rfl)
      simp only [FT, T10, List.getElem?_cons_zero, List.getElem?_cons_succ] at f8
      clear hf
      clear f0 f1 f2 f3 f4 f5 f6 f7 f8
      go_simp
      exact hK.out _ _ (Below.refl _ _) rfl
  simp only [List.getElem?_toArray, List.getElem?_cons_zero, List.getElem?_cons_succ, Option.some.injEq] at ho
  subst ho
  simp only [setAll, List.set_cons_zero, List.set_cons_succ]
  have f0 := hf 0 (by omega)
  simp only [FT, T10, List.getElem?_cons_zero, List.getElem?_cons_succ] at f0
  have f1 := hf 1 (by omega)
  simp only [FT, T10, List.getElem?_cons_zero, List.getElem?_cons_succ] at f1
  have f2 := hf 2 (by omega)
  simp only [FT, T10, List.getElem?_cons_zero, List.getElem?_cons_succ] at f2
  have f3 := hf 3 (by omega)
  simp only [FT, T10, List.getElem?_cons_zero, List.getElem?_cons_succ] at f3
  have f4 := hf 4 (by omega)
  simp only [FT, T10, List.getElem?_cons_zero, List.getElem?_cons_succ] at f4
  have f5 := hf 5 (by omega)
  simp only [FT, T10, List.getElem?_cons_zero, List.getElem?_cons_succ] at f5
  have f6 := hf 6 (by omega)
  simp only [FT, T10, List.getElem?_cons_zero, List.getElem?_cons_succ] at f6
  have f7 := hf 7 (by omega)
  simp only [FT, T10, List.getElem?_cons_zero, List.getElem?_cons_succ] at f7
  have f8 := hf 8 (by omega)
  simp only [FT, T10, List.getElem?_cons_zero, List.getElem?_cons_succ] at f8
  have f9 := hf 9 (by omega)
  simp only [FT, T10, List.getElem?_cons_zero, List.getElem?_cons_succ] at f9
  clear hf
  have Hn := H7.below hb
  refine wp_put_row 49 (.tmp 35) (.tmp 34) rfl (w.heap.size + 1 + 1) 3 (z6d false false) (wellL r) 51 f9 f8 Hn.t4 (z6d_9 _ _) (wellL_9 _) (z6d_k _ _) info_row ?_
  intro wa h2 hb2
  have Ha : RS w wa w.heap.size (w.heap.size + 1) (w.heap.size + 1 + 1) a b false false (z6e false false r) := Hn.put hb2 h2
  clear h2 hb2 Hn hb f0 f1 f2 f3 f4 f5 f6 f7 f8 f9 H7
  go_wp2_with fail
  refine region_calls 10 [(0, 36), (1, 37), (2, 38), (3, 39), (4, 40), (5, 41), (6, 42), (7, 43), (8, 44), (9, 45)] (by kernel_rfl) (by kernel_rfl) (FT (T11 a b false false (w.heap.size + 1 + 1) r)) (FT_keep (T11 a b false false (w.heap.size + 1 + 1) r)) (fun i hi X w1 o ho hb hf K hK => ?_) (fun X w1 o ho hb hf => ?_)
  · simp only [setAll, List.set_cons_zero, List.set_cons_succ] at hK ⊢
    have hi' : i = 0 ∨ i = 1 ∨ i = 2 ∨ i = 3 ∨ i = 4 ∨ i = 5 ∨ i = 6 ∨ i = 7 ∨ i = 8 ∨ i = 9 := by omega
    rcases hi' with rfl | rfl | rfl | rfl | rfl | rfl | rfl | rfl | rfl | rfl
    · simp only [List.getElem?_toArray, List.getElem?_cons_zero, List.getElem?_cons_succ, Option.some.injEq] at ho
      subst ho
      clear hf
      go_simp
      (go_at_call 39; (with_reducible refine (same_any _).mono ?_))
      rintro e wn ⟨rfl, hbn⟩
      exact hK.out _ _ hbn rfl
    · simp only [List.getElem?_toArray, List.getElem?_cons_zero, List.getElem?_cons_succ, Option.some.injEq] at ho
      subst ho
      clear hf
      go_simp
      exact hK.out _ _ ((Below.refl _ w1).alloc (Nat.le_refl _) _) ⟨_, rfl, lit1 w1 1 _ _⟩
    · simp only [List.getElem?_toArray, List.getElem?_cons_zero, List.getElem?_cons_succ, Option.some.injEq] at ho
      subst ho
      have f0 := hf 0 (by kernel_rfl)
      simp only [FT, T11, List.getElem?_cons_zero, List.getElem?_cons_succ] at f0
      have f1 := hf 1 (by kernel_rfl)
      simp only [FT, T11, List.getElem?_cons_zero, List.getElem?_cons_succ] at f1
      clear hf
      obtain ⟨g, e1, r1⟩ := f1
      rw [f0, e1] at hK ⊢
      go_simp
      (go_at_call 36; (with_reducible refine (to_any sameL 2 _ 1 1 _ [1] _ sameL_9 r1 (Nat.le_refl _) (by decide) (by omega)).mono ?_))
      rintro e wn ⟨rfl, hbn⟩
      exact hK.out _ _ hbn rfl
    · simp only [List.getElem?_toArray, List.getElem?_cons_zero, List.getElem?_cons_succ, Option.some.injEq] at ho
      subst ho
      clear hf
      go_simp
      exact hK.out _ _ ((Below.refl _ w1).alloc (Nat.le_refl _) _) ⟨_, rfl, lit1 w1 6 _ _⟩
    · simp only [List.getElem?_toArray, List.getElem?_cons_zero, List.getElem?_cons_succ, Option.some.injEq] at ho
      subst ho
      have f2 := hf 2 (by kernel_rfl)
      simp only [FT, T11, List.getElem?_cons_zero, List.getElem?_cons_succ] at f2
      have f3 := hf 3 (by kernel_rfl)
      simp only [FT, T11, List.getElem?_cons_zero, List.getElem?_cons_succ] at f3
      clear hf
      obtain ⟨g, e1, r1⟩ := f3
      rw [f2, e1] at hK ⊢
      go_simp
      (go_at_call 36; (with_reducible refine (to_any ack1 7 _ 1 1 _ [6] _ ack1_9 r1 (Nat.le_refl _) (by decide) (by omega)).mono ?_))
      rintro e wn ⟨rfl, hbn⟩
      exact hK.out _ _ hbn rfl
    · simp only [List.getElem?_toArray, List.getElem?_cons_zero, List.getElem?_cons_succ, Option.some.injEq] at ho
      subst ho
      clear hf
      have Hn := Ha.below hb
      refine wp_load_row 54 (.tmp 1) rfl w.heap.size rfl 54 _ (0, 0) _ Hn.t1 Try.underlying54 rfl (by kernel_rfl) ?_
      exact hK.out _ _ (Below.refl _ _) rfl
    · simp only [List.getElem?_toArray, List.getElem?_cons_zero, List.getElem?_cons_succ, Option.some.injEq] at ho
      subst ho
      have f4 := hf 4 (by kernel_rfl)
      simp only [FT, T11, List.getElem?_cons_zero, List.getElem?_cons_succ] at f4
      have f5 := hf 5 (by kernel_rfl)
      simp only [FT, T11, List.getElem?_cons_zero, List.getElem?_cons_succ] at f5
      clear hf
      rw [f5] at hK ⊢
      clear f4 f5
      go_simp
      (go_at_call 40; (with_reducible refine (rest_any a b false false _).mono ?_))
      rintro e wn ⟨rfl, hbn⟩
      exact hK.out _ _ hbn (by rw [HRR.out]; rfl)
    · simp only [List.getElem?_toArray, List.getElem?_cons_zero, List.getElem?_cons_succ, Option.some.injEq] at ho
      subst ho
      clear hf
      go_simp
      exact hK.out _ _ ((Below.refl _ w1).alloc (Nat.le_refl _) _) ⟨_, rfl, lit2 w1 3  8 _ _⟩
    · simp only [List.getElem?_toArray, List.getElem?_cons_zero, List.getElem?_cons_succ, Option.some.injEq] at ho
      subst ho
      have f4 := hf 4 (by kernel_rfl)
      simp only [FT, T11, List.getElem?_cons_zero, List.getElem?_cons_succ] at f4
      have f6 := hf 6 (by kernel_rfl)
      simp only [FT, T11, List.getElem?_cons_zero, List.getElem?_cons_succ] at f6
      have f7 := hf 7 (by kernel_rfl)
      simp only [FT, T11, List.getElem?_cons_zero, List.getElem?_cons_succ] at f7
      clear hf
      obtain ⟨g, e1, r1⟩ := f7
      rw [f4, f6, e1] at hK ⊢
      go_simp
      (go_at_call 36; (with_reducible refine (to_any ack2 r _ 2 2 _ [3, 8] _ ack2_9 r1 (Nat.le_refl _) (by decide) (by omega)).mono ?_))
      rintro e wn ⟨rfl, hbn⟩
      exact hK.out _ _ hbn rfl
    · simp only [List.getElem?_toArray, List.getElem?_cons_zero, List.getElem?_cons_succ, Option.some.injEq] at ho
      subst ho
      have f0 := hf 0 (by kernel_rfl)
      simp only [FT, T11, List.getElem?_cons_zero, List.getElem?_cons_succ] at f0
      have f1 := hf 1 (by kernel_rfl)
      simp only [FT, T11, List.getElem?_cons_zero, List.getElem?_cons_succ] at f1
      have f2 := hf 2 (by kernel_rfl)
      simp only [FT, T11, List.getElem?_cons_zero, List.getElem?_cons_succ] at f2
      have f3 := hf 3 (by kernel_rfl)
      simp only [FT, T11, List.getElem?_cons_zero, List.getElem?_cons_succ] at f3
      have f4 := hf 4 (by kernel_rfl)
      simp only [FT, T11, List.getElem?_cons_zero, List.getElem?_cons_succ] at f4
      have f5 := hf 5 (by kernel_rfl)
      simp only [FT, T11, List.getElem?_cons_zero, List.getElem?_cons_succ] at f5
      have f6 := hf 6 (by kernel_rfl)
      simp only [FT, T11, List.getElem?_cons_zero, List.getElem?_cons_succ] at f6
      have f7 := hf 7 (by kernel_rfl)
      simp only [FT, T11, List.getElem?_cons_zero, List.getElem?_cons_succ] at f7
      have f8 := hf 8 (by kernel_rfl)
      simp only [FT, T11, List.getElem?_cons_zero, List.getElem?_cons_succ] at f8
      clear hf
      clear f0 f1 f2 f3 f4 f5 f6 f7 f8
      go_simp
      exact hK.out _ _ (Below.refl _ _) rfl
  simp only [List.getElem?_toArray, List.getElem?_cons_zero, List.getElem?_cons_succ, Option.some.injEq] at ho
  subst ho
  simp only [setAll, List.set_cons_zero, List.set_cons_succ]
  have f0 := hf 0 (by omega)
  simp only [FT, T11, List.getElem?_cons_zero, List.getElem?_cons_succ] at f0
  have f1 := hf 1 (by omega)
  simp only [FT, T11, List.getElem?_cons_zero, List.getElem?_cons_succ] at f1
  have f2 := hf 2 (by omega)
  simp only [FT, T11, List.getElem?_cons_zero, List.getElem?_cons_succ] at f2
  have f3 := hf 3 (by omega)
  simp only [FT, T11, List.getElem?_cons_zero, List.getElem?_cons_succ] at f3
  have f4 := hf 4 (by omega)
  simp only [FT, T11, List.getElem?_cons_zero, List.getElem?_cons_succ] at f4
  have f5 := hf 5 (by omega)
  simp only [FT, T11, List.getElem?_cons_zero, List.getElem?_cons_succ] at f5
  have f6 := hf 6 (by omega)
  simp only [FT, T11, List.getElem?_cons_zero, List.getElem?_cons_succ] at f6
  have f7 := hf 7 (by omega)
  simp only [FT, T11, List.getElem?_cons_zero, List.getElem?_cons_succ] at f7
  have f8 := hf 8 (by omega)
  simp only [FT, T11, List.getElem?_cons_zero, List.getElem?_cons_succ] at f8
  have f9 := hf 9 (by omega)
  simp only [FT, T11, List.getElem?_cons_zero, List.getElem?_cons_succ] at f9
  clear hf
  have Hn := Ha.below hb
  refine wp_put_row 49 (.tmp 45) (.tmp 44) rfl (w.heap.size + 1 + 1) 4 (z6e false false r) (ackL r) 51 f9 f8 Hn.t4 (z6e_9 _ _ _) (ackL_9 _) (z6e_k _ _ _) info_row ?_
  intro wb h2 hb2
  have Hb : RS w wb w.heap.size (w.heap.size + 1) (w.heap.size + 1 + 1) a b false false (z6f false false r) := Hn.put hb2 h2
  clear h2 hb2 Hn hb f0 f1 f2 f3 f4 f5 f6 f7 f8 f9 Ha
  go_wp2_with (first
    | (go_at_call 39; (with_reducible refine (same_any _).mono ?_); rintro e wc ⟨rfl, hb1⟩
       have Hc := Hb.below hb1
       clear hb1)
    | (go_at_call 36; (with_reducible refine (to_any sameL 0 _ 2 2 _ [4, 5] _ sameL_9 (lit2 wc 4 5 _ _) (Nat.le_refl _) (by decide) (by omega)).mono ?_); rintro e wd ⟨he, hb2⟩
       rw [show toL sameL 0 [4, 5] = rstL from rfl] at he
       subst he
       have Hd := Hc.below (((Below.refl _ wc).alloc (Nat.le_refl _) _).trans (hb2.mono (by rw [World.size_alloc]; omega)))
       clear hb2 Hc)
    | (with_reducible refine wpList_put_row rfl 49 (.tmp 49) (.tmp 48) rfl (w.heap.size + 1 + 1) 5 (z6f false false r) rstL 51 rfl rfl Hd.t4 (z6f_9 _ _ _) rstL_9 (z6f_k _ _ _) info_row ?_
       intro we he hbe
       have He : RS w we w.heap.size (w.heap.size + 1) (w.heap.size + 1 + 1) a b false false (z6g false false r) := Hd.put hbe he
       clear he hbe Hd)
    | (with_reducible refine wpList_load_row rfl 51 (.tmp 4) rfl (w.heap.size + 1 + 1) rfl 51 (rowA (fl (z6g false false r))) (0, 0) _ He.t4 Try.underlying51 rfl (by rw [z6g_54]; exact info_rows) ?_)
    | (with_reducible refine wpList_store_row rfl 51 (.tmp 2) (.tmp 50) rfl (w.heap.size + 1) (rowA (fl (z6g false false r))) rfl rfl 51 (rowA (fl [zr, zr, zr, zr, zr, zr])) He.t2 (by rw [z6g_54]; exact info_rows) (z6_same _ _ _) (rowA_one _) ?_)
    | fail)
  refine bodyPost_ret (results_cell_row rfl _ _ (w.heap.size + 1) 51 (rowA (fl (z6g false false r))) (0, 0) _ rfl (setRow_heap _ _ _ _ _ _ He.t2) Try.underlying51 rfl (by rw [z6g_54]; exact info_rows)) rfl ⟨by rw [HRR.out]; rfl, ?_⟩
  exact below_setRow He.bel (by omega) _
set_option maxHeartbeats 4000000 in
theorem rows_ft (a b : Bool) (w : World) :
    Calls Try.prog 37 #[trV a b false true] w fun e w' => e = .returned (.agg (rowA (fl (rowsL a b false true)))) ∧ Below w.heap.size w w' := by
  obtain ⟨r, hrr⟩ : ∃ r, r = restI a b := ⟨_, rfl⟩
  have HRR := Lib.hid hrr
  clear hrr
  unfold trV
  go_enter Try.func37, Try.ntmps37
  go_wp2_with (first
    | (go_at_call 39; (with_reducible refine (same_any _).mono ?_); rintro e w1 ⟨rfl, hb1⟩
       have H1 : RS w w1 w.heap.size (w.heap.size + 1) (w.heap.size + 1 + 1) a b false true [zr, zr, zr, zr, zr, zr] := (rs_start w a b false true).below hb1
       clear hb1)
    | (go_at_call 36; (with_reducible refine (to_any sameL 1 _ 3 3 _ [0, 4, 5] _ rfl (lit3 w1 0 4 5 _ _) (Nat.le_refl _) (by decide) (by omega)).mono ?_); rintro e w2 ⟨he, hb2⟩
       rw [show toL sameL 1 [0, 4, 5] = bad1 false from rfl] at he
       subst he
       have H2 := H1.below (((Below.refl _ w1).alloc (Nat.le_refl _) _).trans (hb2.mono (by rw [World.size_alloc]; omega)))
       clear hb2)
    | (go_at_call 36; (with_reducible refine (to_any (bad1 false) 1 _ 1 1 _ [3] _ rfl (lit1 w2 3 _ _) (Nat.le_refl _) (by decide) (by omega)).mono ?_); rintro e w3 ⟨he, hb3⟩
       rw [show toL (bad1 false) 1 [3] = bad2 false from rfl] at he
       subst he
       have H3 := H2.below (((Below.refl _ w2).alloc (Nat.le_refl _) _).trans (hb3.mono (by rw [World.size_alloc]; omega)))
       clear hb3)
    | (go_at_call 36; (with_reducible refine (to_any (bad2 false) 6 _ 1 1 _ [8] _ rfl (lit1 w3 8 _ _) (Nat.le_refl _) (by decide) (by omega)).mono ?_); rintro e w4 ⟨he, hb4⟩
       rw [show toL (bad2 false) 6 [8] = badL false from rfl] at he
       subst he
       have H4 := H3.below (((Below.refl _ w3).alloc (Nat.le_refl _) _).trans (hb4.mono (by rw [World.size_alloc]; omega)))
       clear hb4)
    | (with_reducible refine wpList_put_all rfl 49 (.tmp 5) (.tmp 15) rfl w4.heap.size (badL false) zr 49 rfl rfl (zr_new w4) (badL_9 _) zr_9 info_row ?_
       intro w5 h5 hb5
       have H5 : RS w w5 w.heap.size (w.heap.size + 1) (w.heap.size + 1 + 1) a b false true [zr, zr, zr, zr, zr, zr] := H4.below (((Below.refl _ _).alloc (Nat.le_refl _) _).trans (hb5.below (Nat.le_refl _)))
       have hg5 : w.heap.size + 1 + 1 < w4.heap.size := H4.lt.2.2.2
       clear H1 H2 H3 hb5)
    | (with_reducible refine wpList_load_row rfl 49 (.tmp 5) rfl w4.heap.size rfl 49 (rowA (badL false)) (0, 0) _ h5 Try.underlying49 rfl (by rw [rowA_9 _ (badL_9 _)]; exact info_row) ?_)
    | (with_reducible refine wpList_put_row rfl 49 (.tmp 17) (.tmp 16) rfl (w.heap.size + 1 + 1) 1 [zr, zr, zr, zr, zr, zr] (badL false) 51 rfl rfl H5.t4 z6_9 (badL_9 _) k6 info_row ?_
       intro w6 h6 hb6
       have H6 : RS w w6 w.heap.size (w.heap.size + 1) (w.heap.size + 1 + 1) a b false true (z6b false) := H5.put hb6 h6
       have h56 := (hb6.block w4.heap.size (by omega)).trans h5
       clear h6 hb6 h5 H4 H5)
    | (with_reducible refine wpList_load_row rfl 49 (.tmp 5) rfl w4.heap.size rfl 49 (rowA (badL false)) (0, 0) _ h56 Try.underlying49 rfl (by rw [rowA_9 _ (badL_9 _)]; exact info_row) ?_)
    | (with_reducible refine wpList_put_row rfl 49 (.tmp 19) (.tmp 18) rfl (w.heap.size + 1 + 1) 2 (z6b false) (badL false) 51 rfl rfl H6.t4 (z6b_9 _) (badL_9 _) (z6b_k _) info_row ?_
       intro w7 h7 hb7
       have H7 : RS w w7 w.heap.size (w.heap.size + 1) (w.heap.size + 1 + 1) a b false true (z6c false) := H6.put hb7 h7
       have h57 := (hb7.block w4.heap.size (by omega)).trans h56
       have c7 : w7.cell? ⟨w.heap.size, 3, none⟩ = some (.bool true) := cell_of_row _ _ _ _ _ _ H7.t1
       clear h7 hb7 h56 H6)
    | (go_at_call 36; (with_reducible refine (to_any (badL false) 6 _ 6 6 _ [0, 4, 5, 1, 3, 8] _ (badL_9 _) (lit6 w7 0 4 5 1 3 8 _ _) (Nat.le_refl _) (by decide) (by omega)).mono ?_); rintro e w8 ⟨he, hb8⟩
       rw [show toL (badL false) 6 [0, 4, 5, 1, 3, 8] = frstL false true from rfl] at he
       subst he
       have H8 := H7.below (((Below.refl _ w7).alloc (Nat.le_refl _) _).trans (hb8.mono (by rw [World.size_alloc]; omega)))
       clear hb8)
    | (with_reducible refine wpList_load_row rfl 49 (.tmp 5) rfl w4.heap.size rfl 49 (rowA (badL false)) (0, 0) _ h57 Try.underlying49 rfl (by rw [rowA_9 _ (badL_9 _)]; exact info_row) ?_)
    | (with_reducible refine wpList_put_row rfl 49 (.tmp 25) (.tmp 24) rfl (w.heap.size + 1 + 1) 2 (z6c false) (frstL false true) 51 rfl rfl H8.t4 (z6c_9 _) (frstL_9 _ _) (z6c_k _) info_row ?_
       intro w9 h9 hb9
       have H9 : RS w w9 w.heap.size (w.heap.size + 1) (w.heap.size + 1 + 1) a b false true (z6d false true) := H8.put hb9 h9
       clear h9 hb9 H7 H8)
    | fail)
  refine region_calls 10 [(0, 26), (1, 27), (2, 28), (3, 29), (4, 30), (5, 31), (6, 32), (7, 33), (8, 34), (9, 35)] (by kernel_rfl) (by kernel_rfl) (FT (T10 a b false true (w.heap.size + 1 + 1) r)) (FT_keep (T10 a b false true (w.heap.size + 1 + 1) r)) (fun i hi X w1 o ho hb hf K hK => ?_) (fun X w1 o ho hb hf => ?_)
  · simp only [setAll, List.set_cons_zero, List.set_cons_succ] at hK ⊢
    have hi' : i = 0 ∨ i = 1 ∨ i = 2 ∨ i = 3 ∨ i = 4 ∨ i = 5 ∨ i = 6 ∨ i = 7 ∨ i = 8 ∨ i = 9 := by omega
    rcases hi' with rfl | rfl | rfl | rfl | rfl | rfl | rfl | rfl | rfl | rfl
    · simp only [List.getElem?_toArray, List.getElem?_cons_zero, List.getElem?_cons_succ, Option.some.injEq] at ho
      subst ho
      clear hf
      go_simp
      (go_at_call 39; (with_reducible refine (same_any _).mono ?_))
      rintro e wn ⟨rfl, hbn⟩
      exact hK.out _ _ hbn rfl
    · simp only [List.getElem?_toArray, List.getElem?_cons_zero, List.getElem?_cons_succ, Option.some.injEq] at ho
      subst ho
      clear hf
      go_simp
      exact hK.out _ _ ((Below.refl _ w1).alloc (Nat.le_refl _) _) ⟨_, rfl, lit1 w1 1 _ _⟩
    · simp only [List.getElem?_toArray, List.getElem?_cons_zero, List.getElem?_cons_succ, Option.some.injEq] at ho
      subst ho
      have f0 := hf 0 (by kernel_rfl)
      simp only [FT, T10, List.getElem?_cons_zero, List.getElem?_cons_succ] at f0
      have f1 := hf 1 (by kernel_rfl)
      simp only [FT, T10, List.getElem?_cons_zero, List.getElem?_cons_succ] at f1
      clear hf
      obtain ⟨g, e1, r1⟩ := f1
      rw [f0, e1] at hK ⊢
      go_simp
      (go_at_call 36; (with_reducible refine (to_any sameL 3 _ 1 1 _ [1] _ sameL_9 r1 (Nat.le_refl _) (by decide) (by omega)).mono ?_))
      rintro e wn ⟨rfl, hbn⟩
      exact hK.out _ _ hbn rfl
    · simp only [List.getElem?_toArray, List.getElem?_cons_zero, List.getElem?_cons_succ, Option.some.injEq] at ho
      subst ho
      clear hf
      go_simp
      exact hK.out _ _ ((Below.refl _ w1).alloc (Nat.le_refl _) _) ⟨_, rfl, lit1 w1 6 _ _⟩
    · simp only [List.getElem?_toArray, List.getElem?_cons_zero, List.getElem?_cons_succ, Option.some.injEq] at ho
      subst ho
      have f2 := hf 2 (by kernel_rfl)
      simp only [FT, T10, List.getElem?_cons_zero, List.getElem?_cons_succ] at f2
      have f3 := hf 3 (by kernel_rfl)
      simp only [FT, T10, List.getElem?_cons_zero, List.getElem?_cons_succ] at f3
      clear hf
      obtain ⟨g, e1, r1⟩ := f3
      rw [f2, e1] at hK ⊢
      go_simp
      (go_at_call 36; (with_reducible refine (to_any well1 8 _ 1 1 _ [6] _ well1_9 r1 (Nat.le_refl _) (by decide) (by omega)).mono ?_))
      rintro e wn ⟨rfl, hbn⟩
      exact hK.out _ _ hbn rfl
    · simp only [List.getElem?_toArray, List.getElem?_cons_zero, List.getElem?_cons_succ, Option.some.injEq] at ho
      subst ho
      clear hf
      have Hn := H9.below hb
      refine wp_load_row 54 (.tmp 1) rfl w.heap.size rfl 54 _ (0, 0) _ Hn.t1 Try.underlying54 rfl (by kernel_rfl) ?_
      exact hK.out _ _ (Below.refl _ _) rfl
    · simp only [List.getElem?_toArray, List.getElem?_cons_zero, List.getElem?_cons_succ, Option.some.injEq] at ho
      subst ho
      have f4 := hf 4 (by kernel_rfl)
      simp only [FT, T10, List.getElem?_cons_zero, List.getElem?_cons_succ] at f4
      have f5 := hf 5 (by kernel_rfl)
      simp only [FT, T10, List.getElem?_cons_zero, List.getElem?_cons_succ] at f5
      clear hf
      rw [f5] at hK ⊢
      clear f4 f5
      go_simp
      (go_at_call 40; (with_reducible refine (rest_any a b false true _).mono ?_))
      rintro e wn ⟨rfl, hbn⟩
      exact hK.out _ _ hbn (by rw [HRR.out]; rfl)
    · simp only [List.getElem?_toArray, List.getElem?_cons_zero, List.getElem?_cons_succ, Option.some.injEq] at ho
      subst ho
      clear hf
      go_simp
      exact hK.out _ _ ((Below.refl _ w1).alloc (Nat.le_refl _) _) ⟨_, rfl, lit2 w1 2  7 _ _⟩
    · simp only [List.getElem?_toArray, List.getElem?_cons_zero, List.getElem?_cons_succ, Option.some.injEq] at ho
      subst ho
      have f4 := hf 4 (by kernel_rfl)
      simp only [FT, T10, List.getElem?_cons_zero, List.getElem?_cons_succ] at f4
      have f6 := hf 6 (by kernel_rfl)
      simp only [FT, T10, List.getElem?_cons_zero, List.getElem?_cons_succ] at f6
      have f7 := hf 7 (by kernel_rfl)
      simp only [FT, T10, List.getElem?_cons_zero, List.getElem?_cons_succ] at f7
      clear hf
      obtain ⟨g, e1, r1⟩ := f7
      rw [f4, f6, e1] at hK ⊢
      go_simp
      (go_at_call 36; (with_reducible refine (to_any well2 r _ 2 2 _ [2, 7] _ well2_9 r1 (Nat.le_refl _) (by decide) (by omega)).mono ?_))
      rintro e wn ⟨rfl, hbn⟩
      exact hK.out _ _ hbn rfl
    · simp only [List.getElem?_toArray, List.getElem?_cons_zero, List.getElem?_cons_succ, Option.some.injEq] at ho
      subst ho
      have f0 := hf 0 (by kernel_rfl)
      simp only [FT, T10, List.getElem?_cons_zero, List.getElem?_cons_succ] at f0
      have f1 := hf 1 (by kernel_rfl)
      simp only [FT, T10, List.getElem?_cons_zero, List.getElem?_cons_succ] at f1
      have f2 := hf 2 (by kernel_rfl)
      simp only [FT, T10, List.getElem?_cons_zero, List.getElem?_cons_succ] at f2
      have f3 := hf 3 (by kernel_rfl)
      simp only [FT, T10, List.getElem?_cons_zero, List.getElem?_cons_succ] at f3
      have f4 := hf 4 (by kernel_rfl)
      simp only [FT, T10, List.getElem?_cons_zero, List.getElem?_cons_succ] at f4
      have f5 := hf 5 (by kernel_rfl)
      simp only [FT, T10, List.getElem?_cons_zero, List.getElem?_cons_succ] at f5
      have f6 := hf 6 (by kernel_rfl)
      simp only [FT, T10, List.getElem?_cons_zero, List.getElem?_cons_succ] at f6
      have f7 := hf 7 (by kernel_rfl)
      simp only [FT, T10, List.getElem?_cons_zero, List.getElem?_cons_succ] at f7
      have f8 := hf 8 (by kernel_rfl)
      simp only [FT, T10, List.getElem?_cons_zero, List.getElem?_cons_succ] at f8
      clear hf
      clear f0 f1 f2 f3 f4 f5 f6 f7 f8
      go_simp
      exact hK.out _ _ (Below.refl _ _) rfl
  simp only [List.getElem?_toArray, List.getElem?_cons_zero, List.getElem?_cons_succ, Option.some.injEq] at ho
  subst ho
  simp only [setAll, List.set_cons_zero, List.set_cons_succ]
  have f0 := hf 0 (by omega)
  simp only [FT, T10, List.getElem?_cons_zero, List.getElem?_cons_succ] at f0
  have f1 := hf 1 (by omega)
  simp only [FT, T10, List.getElem?_cons_zero, List.getElem?_cons_succ] at f1
  have f2 := hf 2 (by omega)
  simp only [FT, T10, List.getElem?_cons_zero, List.getElem?_cons_succ] at f2
  have f3 := hf 3 (by omega)
  simp only [FT, T10, List.getElem?_cons_zero, List.getElem?_cons_succ] at f3
  have f4 := hf 4 (by omega)
  simp only [FT, T10, List.getElem?_cons_zero, List.getElem?_cons_succ] at f4
  have f5 := hf 5 (by omega)
  simp only [FT, T10, List.getElem?_cons_zero, List.getElem?_cons_succ] at f5
  have f6 := hf 6 (by omega)
  simp only [FT, T10, List.getElem?_cons_zero, List.getElem?_cons_succ] at f6
  have f7 := hf 7 (by omega)
  simp only [FT, T10, List.getElem?_cons_zero, List.getElem?_cons_succ] at f7
  have f8 := hf 8 (by omega)
  simp only [FT, T10, List.getElem?_cons_zero, List.getElem?_cons_succ] at f8
  have f9 := hf 9 (by omega)
  simp only [FT, T10, List.getElem?_cons_zero, List.getElem?_cons_succ] at f9
  clear hf
  have Hn := H9.below hb
  refine wp_put_row 49 (.tmp 35) (.tmp 34) rfl (w.heap.size + 1 + 1) 3 (z6d false true) (wellL r) 51 f9 f8 Hn.t4 (z6d_9 _ _) (wellL_9 _) (z6d_k _ _) info_row ?_
  intro wa h2 hb2
  have Ha : RS w wa w.heap.size (w.heap.size + 1) (w.heap.size + 1 + 1) a b false true (z6e false true r) := Hn.put hb2 h2
  clear h2 hb2 Hn hb f0 f1 f2 f3 f4 f5 f6 f7 f8 f9 H9
  go_wp2_with fail
  refine region_calls 10 [(0, 36), (1, 37), (2, 38), (3, 39), (4, 40), (5, 41), (6, 42), (7, 43), (8, 44), (9, 45)] (by kernel_rfl) (by kernel_rfl) (FT (T11 a b false true (w.heap.size + 1 + 1) r)) (FT_keep (T11 a b false true (w.heap.size + 1 + 1) r)) (fun i hi X w1 o ho hb hf K hK => ?_) (fun X w1 o ho hb hf => ?_)
  · simp only [setAll, List.set_cons_zero, List.set_cons_succ] at hK ⊢
    have hi' : i = 0 ∨ i = 1 ∨ i = 2 ∨ i = 3 ∨ i = 4 ∨ i = 5 ∨ i = 6 ∨ i = 7 ∨ i = 8 ∨ i = 9 := by omega
    rcases hi' with rfl | rfl | rfl | rfl | rfl | rfl | rfl | rfl | rfl | rfl
    · simp only [List.getElem?_toArray, List.getElem?_cons_zero, List.getElem?_cons_succ, Option.some.injEq] at ho
      subst ho
      clear hf
      go_simp
      (go_at_call 39; (with_reducible refine (same_any _).mono ?_))
      rintro e wn ⟨rfl, hbn⟩
      exact hK.out _ _ hbn rfl
    · simp only [List.getElem?_toArray, List.getElem?_cons_zero, List.getElem?_cons_succ, Option.some.injEq] at ho
      subst ho
      clear hf
      go_simp
      exact hK.out _ _ ((Below.refl _ w1).alloc (Nat.le_refl _) _) ⟨_, rfl, lit1 w1 1 _ _⟩
    · simp only [List.getElem?_toArray, List.getElem?_cons_zero, List.getElem?_cons_succ, Option.some.injEq] at ho
      subst ho
      have f0 := hf 0 (by kernel_rfl)
      simp only [FT, T11, List.getElem?_cons_zero, List.getElem?_cons_succ] at f0
      have f1 := hf 1 (by kernel_rfl)
      simp only [FT, T11, List.getElem?_cons_zero, List.getElem?_cons_succ] at f1
      clear hf
      obtain ⟨g, e1, r1⟩ := f1
      rw [f0, e1] at hK ⊢
      go_simp
      (go_at_call 36; (with_reducible refine (to_any sameL 2 _ 1 1 _ [1] _ sameL_9 r1 (Nat.le_refl _) (by decide) (by omega)).mono ?_))
      rintro e wn ⟨rfl, hbn⟩
      exact hK.out _ _ hbn rfl
    · simp only [List.getElem?_toArray, List.getElem?_cons_zero, List.getElem?_cons_succ, Option.some.injEq] at ho
      subst ho
      clear hf
      go_simp
      exact hK.out _ _ ((Below.refl _ w1).alloc (Nat.le_refl _) _) ⟨_, rfl, lit1 w1 6 _ _⟩
    · simp only [List.getElem?_toArray, List.getElem?_cons_zero, List.getElem?_cons_succ, Option.some.injEq] at ho
      subst ho
      have f2 := hf 2 (by kernel_rfl)
      simp only [FT, T11, List.getElem?_cons_zero, List.getElem?_cons_succ] at f2
      have f3 := hf 3 (by kernel_rfl)
      simp only [FT, T11, List.getElem?_cons_zero, List.getElem?_cons_succ] at f3
      clear hf
      obtain ⟨g, e1, r1⟩ := f3
      rw [f2, e1] at hK ⊢
      go_simp
      (go_at_call 36; (with_reducible refine (to_any ack1 7 _ 1 1 _ [6] _ ack1_9 r1 (Nat.le_refl _) (by decide) (by omega)).mono ?_))
      rintro e wn ⟨rfl, hbn⟩
      exact hK.out _ _ hbn rfl
    · simp only [List.getElem?_toArray, List.getElem?_cons_zero, List.getElem?_cons_succ, Option.some.injEq] at ho
      subst ho
      clear hf
      have Hn := Ha.below hb
      refine wp_load_row 54 (.tmp 1) rfl w.heap.size rfl 54 _ (0, 0) _ Hn.t1 Try.underlying54 rfl (by kernel_rfl) ?_
      exact hK.out _ _ (Below.refl _ _) rfl
    · simp only [List.getElem?_toArray, List.getElem?_cons_zero, List.getElem?_cons_succ, Option.some.injEq] at ho
      subst ho
      have f4 := hf 4 (by kernel_rfl)
      simp only [FT, T11, List.getElem?_cons_zero, List.getElem?_cons_succ] at f4
      have f5 := hf 5 (by kernel_rfl)
      simp only [FT, T11, List.getElem?_cons_zero, List.getElem?_cons_succ] at f5
      clear hf
      rw [f5] at hK ⊢
      clear f4 f5
      go_simp
      (go_at_call 40; (with_reducible refine (rest_any a b false true _).mono ?_))
      rintro e wn ⟨rfl, hbn⟩
      exact hK.out _ _ hbn (by rw [HRR.out]; rfl)
    · simp only [List.getElem?_toArray, List.getElem?_cons_zero, List.getElem?_cons_succ, Option.some.injEq] at ho
      subst ho
      clear hf
      go_simp
      exact hK.out _ _ ((Below.refl _ w1).alloc (Nat.le_refl _) _) ⟨_, rfl, lit2 w1 3  8 _ _⟩
    · simp only [List.getElem?_toArray, List.getElem?_cons_zero, List.getElem?_cons_succ, Option.some.injEq] at ho
      subst ho
      have f4 := hf 4 (by kernel_rfl)
      simp only [FT, T11, List.getElem?_cons_zero, List.getElem?_cons_succ] at f4
      have f6 := hf 6 (by kernel_rfl)
      simp only [FT, T11, List.getElem?_cons_zero, List.getElem?_cons_succ] at f6
      have f7 := hf 7 (by kernel_rfl)
      simp only [FT, T11, List.getElem?_cons_zero, List.getElem?_cons_succ] at f7
      clear hf
      obtain ⟨g, e1, r1⟩ := f7
      rw [f4, f6, e1] at hK ⊢
      go_simp
      (go_at_call 36; (with_reducible refine (to_any ack2 r _ 2 2 _ [3, 8] _ ack2_9 r1 (Nat.le_refl _) (by decide) (by omega)).mono ?_))
      rintro e wn ⟨rfl, hbn⟩
      exact hK.out _ _ hbn rfl
    · simp only [List.getElem?_toArray, List.getElem?_cons_zero, List.getElem?_cons_succ, Option.some.injEq] at ho
      subst ho
      have f0 := hf 0 (by kernel_rfl)
      simp only [FT, T11, List.getElem?_cons_zero, List.getElem?_cons_succ] at f0
      have f1 := hf 1 (by kernel_rfl)
      simp only [FT, T11, List.getElem?_cons_zero, List.getElem?_cons_succ] at f1
      have f2 := hf 2 (by kernel_rfl)
      simp only [FT, T11, List.getElem?_cons_zero, List.getElem?_cons_succ] at f2
      have f3 := hf 3 (by kernel_rfl)
      simp only [FT, T11, List.getElem?_cons_zero, List.getElem?_cons_succ] at f3
      have f4 := hf 4 (by kernel_rfl)
      simp only [FT, T11, List.getElem?_cons_zero, List.getElem?_cons_succ] at f4
      have f5 := hf 5 (by kernel_rfl)
      simp only [FT, T11, List.getElem?_cons_zero, List.getElem?_cons_succ] at f5
      have f6 := hf 6 (by kernel_rfl)
      simp only [FT, T11, List.getElem?_cons_zero, List.getElem?_cons_succ] at f6
      have f7 := hf 7 (by kernel_rfl)
      simp only [FT, T11, List.getElem?_cons_zero, List.getElem?_cons_succ] at f7
      have f8 := hf 8 (by kernel_rfl)
      simp only [FT, T11, List.getElem?_cons_zero, List.getElem?_cons_succ] at f8
      clear hf
      clear f0 f1 f2 f3 f4 f5 f6 f7 f8
      go_simp
      exact hK.out _ _ (Below.refl _ _) rfl
  simp only [List.getElem?_toArray, List.getElem?_cons_zero, List.getElem?_cons_succ, Option.some.injEq] at ho
  subst ho
  simp only [setAll, List.set_cons_zero, List.set_cons_succ]
  have f0 := hf 0 (by omega)
  simp only [FT, T11, List.getElem?_cons_zero, List.getElem?_cons_succ] at f0
  have f1 := hf 1 (by omega)
  simp only [FT, T11, List.getElem?_cons_zero, List.getElem?_cons_succ] at f1
  have f2 := hf 2 (by omega)
  simp only [FT, T11, List.getElem?_cons_zero, List.getElem?_cons_succ] at f2
  have f3 := hf 3 (by omega)
  simp only [FT, T11, List.getElem?_cons_zero, List.getElem?_cons_succ] at f3
  have f4 := hf 4 (by omega)
  simp only [FT, T11, List.getElem?_cons_zero, List.getElem?_cons_succ] at f4
  have f5 := hf 5 (by omega)
  simp only [FT, T11, List.getElem?_cons_zero, List.getElem?_cons_succ] at f5
  have f6 := hf 6 (by omega)
  simp only [FT, T11, List.getElem?_cons_zero, List.getElem?_cons_succ] at f6
  have f7 := hf 7 (by omega)
  simp only [FT, T11, List.getElem?_cons_zero, List.getElem?_cons_succ] at f7
  have f8 := hf 8 (by omega)
  simp only [FT, T11, List.getElem?_cons_zero, List.getElem?_cons_succ] at f8
  have f9 := hf 9 (by omega)
  simp only [FT, T11, List.getElem?_cons_zero, List.getElem?_cons_succ] at f9
  clear hf
  have Hn := Ha.below hb
  refine wp_put_row 49 (.tmp 45) (.tmp 44) rfl (w.heap.size + 1 + 1) 4 (z6e false true r) (ackL r) 51 f9 f8 Hn.t4 (z6e_9 _ _ _) (ackL_9 _) (z6e_k _ _ _) info_row ?_
  intro wb h2 hb2
  have Hb : RS w wb w.heap.size (w.heap.size + 1) (w.heap.size + 1 + 1) a b false true (z6f false true r) := Hn.put hb2 h2
  clear h2 hb2 Hn hb f0 f1 f2 f3 f4 f5 f6 f7 f8 f9 Ha
  go_wp2_with (first
    | (go_at_call 39; (with_reducible refine (same_any _).mono ?_); rintro e wc ⟨rfl, hb1⟩
       have Hc := Hb.below hb1
       clear hb1)
    | (go_at_call 36; (with_reducible refine (to_any sameL 0 _ 2 2 _ [4, 5] _ sameL_9 (lit2 wc 4 5 _ _) (Nat.le_refl _) (by decide) (by omega)).mono ?_); rintro e wd ⟨he, hb2⟩
       rw [show toL sameL 0 [4, 5] = rstL from rfl] at he
       subst he
       have Hd := Hc.below (((Below.refl _ wc).alloc (Nat.le_refl _) _).trans (hb2.mono (by rw [World.size_alloc]; omega)))
       clear hb2 Hc)
    | (with_reducible refine wpList_put_row rfl 49 (.tmp 49) (.tmp 48) rfl (w.heap.size + 1 + 1) 5 (z6f false true r) rstL 51 rfl rfl Hd.t4 (z6f_9 _ _ _) rstL_9 (z6f_k _ _ _) info_row ?_
       intro we he hbe
       have He : RS w we w.heap.size (w.heap.size + 1) (w.heap.size + 1 + 1) a b false true (z6g false true r) := Hd.put hbe he
       clear he hbe Hd)
    | (with_reducible refine wpList_load_row rfl 51 (.tmp 4) rfl (w.heap.size + 1 + 1) rfl 51 (rowA (fl (z6g false true r))) (0, 0) _ He.t4 Try.underlying51 rfl (by rw [z6g_54]; exact info_rows) ?_)
    | (with_reducible refine wpList_store_row rfl 51 (.tmp 2) (.tmp 50) rfl (w.heap.size + 1) (rowA (fl (z6g false true r))) rfl rfl 51 (rowA (fl [zr, zr, zr, zr, zr, zr])) He.t2 (by rw [z6g_54]; exact info_rows) (z6_same _ _ _) (rowA_one _) ?_)
    | fail)
  refine bodyPost_ret (results_cell_row rfl _ _ (w.heap.size + 1) 51 (rowA (fl (z6g false true r))) (0, 0) _ rfl (setRow_heap _ _ _ _ _ _ He.t2) Try.underlying51 rfl (by rw [z6g_54]; exact info_rows)) rfl ⟨by rw [HRR.out]; rfl, ?_⟩
  exact below_setRow He.bel (by omega) _
set_option maxHeartbeats 4000000 in
theorem rows_tf (a b : Bool) (w : World) :
    Calls Try.prog 37 #[trV a b true false] w fun e w' => e = .returned (.agg (rowA (fl (rowsL a b true false)))) ∧ Below w.heap.size w w' := by
  obtain ⟨r, hrr⟩ : ∃ r, r = restI a b := ⟨_, rfl⟩
  have HRR := Lib.hid hrr
  clear hrr
  unfold trV
  go_enter Try.func37, Try.ntmps37
  go_wp2_with (first
    | (go_at_call 39; (with_reducible refine (same_any _).mono ?_); rintro e w1 ⟨rfl, hb1⟩
       have H1 : RS w w1 w.heap.size (w.heap.size + 1) (w.heap.size + 1 + 1) a b true false [zr, zr, zr, zr, zr, zr] := (rs_start w a b true false).below hb1
       clear hb1)
    | (go_at_call 36; (with_reducible refine (to_any sameL 2 _ 3 3 _ [0, 4, 5] _ rfl (lit3 w1 0 4 5 _ _) (Nat.le_refl _) (by decide) (by omega)).mono ?_); rintro e w2 ⟨he, hb2⟩
       rw [show toL sameL 2 [0, 4, 5] = bad1 true from rfl] at he
       subst he
       have H2 := H1.below (((Below.refl _ w1).alloc (Nat.le_refl _) _).trans (hb2.mono (by rw [World.size_alloc]; omega)))
       clear hb2)
    | (go_at_call 36; (with_reducible refine (to_any (bad1 true) 1 _ 1 1 _ [3] _ rfl (lit1 w2 3 _ _) (Nat.le_refl _) (by decide) (by omega)).mono ?_); rintro e w3 ⟨he, hb3⟩
       rw [show toL (bad1 true) 1 [3] = bad2 true from rfl] at he
       subst he
       have H3 := H2.below (((Below.refl _ w2).alloc (Nat.le_refl _) _).trans (hb3.mono (by rw [World.size_alloc]; omega)))
       clear hb3)
    | (go_at_call 36; (with_reducible refine (to_any (bad2 true) 6 _ 1 1 _ [8] _ rfl (lit1 w3 8 _ _) (Nat.le_refl _) (by decide) (by omega)).mono ?_); rintro e w4 ⟨he, hb4⟩
       rw [show toL (bad2 true) 6 [8] = badL true from rfl] at he
       subst he
       have H4 := H3.below (((Below.refl _ w3).alloc (Nat.le_refl _) _).trans (hb4.mono (by rw [World.size_alloc]; omega)))
       clear hb4)
    | (with_reducible refine wpList_put_all rfl 49 (.tmp 5) (.tmp 15) rfl w4.heap.size (badL true) zr 49 rfl rfl (zr_new w4) (badL_9 _) zr_9 info_row ?_
       intro w5 h5 hb5
       have H5 : RS w w5 w.heap.size (w.heap.size + 1) (w.heap.size + 1 + 1) a b true false [zr, zr, zr, zr, zr, zr] := H4.below (((Below.refl _ _).alloc (Nat.le_refl _) _).trans (hb5.below (Nat.le_refl _)))
       have hg5 : w.heap.size + 1 + 1 < w4.heap.size := H4.lt.2.2.2
       clear H1 H2 H3 hb5)
    | (with_reducible refine wpList_load_row rfl 49 (.tmp 5) rfl w4.heap.size rfl 49 (rowA (badL true)) (0, 0) _ h5 Try.underlying49 rfl (by rw [rowA_9 _ (badL_9 _)]; exact info_row) ?_)
    | (with_reducible refine wpList_put_row rfl 49 (.tmp 17) (.tmp 16) rfl (w.heap.size + 1 + 1) 1 [zr, zr, zr, zr, zr, zr] (badL true) 51 rfl rfl H5.t4 z6_9 (badL_9 _) k6 info_row ?_
       intro w6 h6 hb6
       have H6 : RS w w6 w.heap.size (w.heap.size + 1) (w.heap.size + 1 + 1) a b true false (z6b true) := H5.put hb6 h6
       have h56 := (hb6.block w4.heap.size (by omega)).trans h5
       clear h6 hb6 h5 H4 H5)
    | (with_reducible refine wpList_load_row rfl 49 (.tmp 5) rfl w4.heap.size rfl 49 (rowA (badL true)) (0, 0) _ h56 Try.underlying49 rfl (by rw [rowA_9 _ (badL_9 _)]; exact info_row) ?_)
    | (with_reducible refine wpList_put_row rfl 49 (.tmp 19) (.tmp 18) rfl (w.heap.size + 1 + 1) 2 (z6b true) (badL true) 51 rfl rfl H6.t4 (z6b_9 _) (badL_9 _) (z6b_k _) info_row ?_
       intro w7 h7 hb7
       have H7 : RS w w7 w.heap.size (w.heap.size + 1) (w.heap.size + 1 + 1) a b true false (z6c true) := H6.put hb7 h7
       have h57 := (hb7.block w4.heap.size (by omega)).trans h56
       have c7 : w7.cell? ⟨w.heap.size, 3, none⟩ = some (.bool false) := cell_of_row _ _ _ _ _ _ H7.t1
       clear h7 hb7 h56 H6)
    | fail)
  refine region_calls 10 [(0, 26), (1, 27), (2, 28), (3, 29), (4, 30), (5, 31), (6, 32), (7, 33), (8, 34), (9, 35)] (by kernel_rfl) (by kernel_rfl) (FT (T10 a b true false (w.heap.size + 1 + 1) r)) (FT_keep (T10 a b true false (w.heap.size + 1 + 1) r)) (fun i hi X w1 o ho hb hf K hK => ?_) (fun X w1 o ho hb hf => ?_)
  · simp only [setAll, List.set_cons_zero, List.set_cons_succ] at hK ⊢
    have hi' : i = 0 ∨ i = 1 ∨ i = 2 ∨ i = 3 ∨ i = 4 ∨ i = 5 ∨ i = 6 ∨ i = 7 ∨ i = 8 ∨ i = 9 := by omega
    rcases hi' with rfl | rfl | rfl | rfl | rfl | rfl | rfl | rfl | rfl | rfl
    · simp only [List.getElem?_toArray, List.getElem?_cons_zero, List.getElem?_cons_succ, Option.some.injEq] at ho
      subst ho
      clear hf
      go_simp
      (go_at_call 39; (with_reducible refine (same_any _).mono ?_))
      rintro e wn ⟨rfl, hbn⟩
      exact hK.out _ _ hbn rfl
    · simp only [List.getElem?_toArray, List.getElem?_cons_zero, List.getElem?_cons_succ, Option.some.injEq] at ho
      subst ho
      clear hf
      go_simp
      exact hK.out _ _ ((Below.refl _ w1).alloc (Nat.le_refl _) _) ⟨_, rfl, lit1 w1 1 _ _⟩
    · simp only [List.getElem?_toArray, List.getElem?_cons_zero, List.getElem?_cons_succ, Option.some.injEq] at ho
      subst ho
      have f0 := hf 0 (by kernel_rfl)
      simp only [FT, T10, List.getElem?_cons_zero, List.getElem?_cons_succ] at f0
      have f1 := hf 1 (by kernel_rfl)
      simp only [FT, T10, List.getElem?_cons_zero, List.getElem?_cons_succ] at f1
      clear hf
      obtain ⟨g, e1, r1⟩ := f1
      rw [f0, e1] at hK ⊢
      go_simp
      (go_at_call 36; (with_reducible refine (to_any sameL 3 _ 1 1 _ [1] _ sameL_9 r1 (Nat.le_refl _) (by decide) (by omega)).mono ?_))
      rintro e wn ⟨rfl, hbn⟩
      exact hK.out _ _ hbn rfl
    · simp only [List.getElem?_toArray, List.getElem?_cons_zero, List.getElem?_cons_succ, Option.some.injEq] at ho
      subst ho
      clear hf
      go_simp
      exact hK.out _ _ ((Below.refl _ w1).alloc (Nat.le_refl _) _) ⟨_, rfl, lit1 w1 6 _ _⟩
    · simp only [List.getElem?_toArray, List.getElem?_cons_zero, List.getElem?_cons_succ, Option.some.injEq] at ho
      subst ho
      have f2 := hf 2 (by kernel_rfl)
      simp only [FT, T10, List.getElem?_cons_zero, List.getElem?_cons_succ] at f2
      have f3 := hf 3 (by kernel_rfl)
      simp only [FT, T10, List.getElem?_cons_zero, List.getElem?_cons_succ] at f3
      clear hf
      obtain ⟨g, e1, r1⟩ := f3
      rw [f2, e1] at hK ⊢
      go_simp
      (go_at_call 36; (with_reducible refine (to_any well1 8 _ 1 1 _ [6] _ well1_9 r1 (Nat.le_refl _) (by decide) (by omega)).mono ?_))
      rintro e wn ⟨rfl, hbn⟩
      exact hK.out _ _ hbn rfl
    · simp only [List.getElem?_toArray, List.getElem?_cons_zero, List.getElem?_cons_succ, Option.some.injEq] at ho
      subst ho
      clear hf
      have Hn := H7.below hb
      refine wp_load_row 54 (.tmp 1) rfl w.heap.size rfl 54 _ (0, 0) _ Hn.t1 Try.underlying54 rfl (by kernel_rfl) ?_
      exact hK.out _ _ (Below.refl _ _) rfl
    · simp only [List.getElem?_toArray, List.getElem?_cons_zero, List.getElem?_cons_succ, Option.some.injEq] at ho
      subst ho
      have f4 := hf 4 (by kernel_rfl)
      simp only [FT, T10, List.getElem?_cons_zero, List.getElem?_cons_succ] at f4
      have f5 := hf 5 (by kernel_rfl)
      simp only [FT, T10, List.getElem?_cons_zero, List.getElem?_cons_succ] at f5
      clear hf
      rw [f5] at hK ⊢
      clear f4 f5
      go_simp
      (go_at_call 40; (with_reducible refine (rest_any a b true false _).mono ?_))
      rintro e wn ⟨rfl, hbn⟩
      exact hK.out _ _ hbn (by rw [HRR.out]; rfl)
    · simp only [List.getElem?_toArray, List.getElem?_cons_zero, List.getElem?_cons_succ, Option.some.injEq] at ho
      subst ho
      clear hf
      go_simp
      exact hK.out _ _ ((Below.refl _ w1).alloc (Nat.le_refl _) _) ⟨_, rfl, lit2 w1 2  7 _ _⟩
    · simp only [List.getElem?_toArray, List.getElem?_cons_zero, List.getElem?_cons_succ, Option.some.injEq] at ho
      subst ho
      have f4 := hf 4 (by kernel_rfl)
      simp only [FT, T10, List.getElem?_cons_zero, List.getElem?_cons_succ] at f4
      have f6 := hf 6 (by kernel_rfl)
      simp only [FT, T10, List.getElem?_cons_zero, List.getElem?_cons_succ] at f6
      have f7 := hf 7 (by kernel_rfl)
      simp only [FT, T10, List.getElem?_cons_zero, List.getElem?_cons_succ] at f7
      clear hf
      obtain ⟨g, e1, r1⟩ := f7
      rw [f4, f6, e1] at hK ⊢
      go_simp
      (go_at_call 36; (with_reducible refine (to_any well2 r _ 2 2 _ [2, 7] _ well2_9 r1 (Nat.le_refl _) (by decide) (by omega)).mono ?_))
      rintro e wn ⟨rfl, hbn⟩
      exact hK.out _ _ hbn rfl
    · simp only [List.getElem?_toArray, List.getElem?_cons_zero, List.getElem?_cons_succ, Option.some.injEq] at ho
      subst ho
      have f0 := hf 0 (by kernel_rfl)
      simp only [FT, T10, List.getElem?_cons_zero, List.getElem?_cons_succ] at f0
      have f1 := hf 1 (by kernel_rfl)
      simp only [FT, T10, List.getElem?_cons_zero, List.getElem?_cons_succ] at f1
      have f2 := hf 2 (by kernel_rfl)
      simp only [FT, T10, List.getElem?_cons_zero, List.getElem?_cons_succ] at f2
      have f3 := hf 3 (by kernel_rfl)
      simp only [FT, T10, List.getElem?_cons_zero, List.getElem?_cons_succ] at f3
      have f4 := hf 4 (by kernel_rfl)
      simp only [FT, T10, List.getElem?_cons_zero, List.getElem?_cons_succ] at f4
      have f5 := hf 5 (by kernel_rfl)
      simp only [FT, T10, List.getElem?_cons_zero, List.getElem?_cons_succ] at f5
      have f6 := hf 6 (by kernel_rfl)
      simp only [FT, T10, List.getElem?_cons_zero, List.getElem?_cons_succ] at f6
      have f7 := hf 7 (by kernel_rfl)
      simp only [FT, T10, List.getElem?_cons_zero, List.getElem?_cons_succ] at f7
      have f8 := hf 8 (by kernel_rfl)
      simp only [FT, T10, List.getElem?_cons_zero, List.getElem?_cons_succ] at f8
      clear hf
      clear f0 f1 f2 f3 f4 f5 f6 f7 f8
      go_simp
      exact hK.out _ _ (Below.refl _ _) rfl
  simp only [List.getElem?_toArray, List.getElem?_cons_zero, List.getElem?_cons_succ, Option.some.injEq] at ho
  subst ho
  simp only [setAll, List.set_cons_zero, List.set_cons_succ]
  have f0 := hf 0 (by omega)
  simp only [FT, T10, List.getElem?_cons_zero, List.getElem?_cons_succ] at f0
  have f1 := hf 1 (by omega)
  simp only [FT, T10, List.getElem?_cons_zero, List.getElem?_cons_succ] at f1
  have f2 := hf 2 (by omega)
  simp only [FT, T10, List.getElem?_cons_zero, List.getElem?_cons_succ] at f2
  have f3 := hf 3 (by omega)
  simp only [FT, T10, List.getElem?_cons_zero, List.getElem?_cons_succ] at f3
  have f4 := hf 4 (by omega)
  simp only [FT, T10, List.getElem?_cons_zero, List.getElem?_cons_succ] at f4
  have f5 := hf 5 (by omega)
  simp only [FT, T10, List.getElem?_cons_zero, List.getElem?_cons_succ] at f5
  have f6 := hf 6 (by omega)
  simp only [FT, T10, List.getElem?_cons_zero, List.getElem?_cons_succ] at f6
  have f7 := hf 7 (by omega)
  simp only [FT, T10, List.getElem?_cons_zero, List.getElem?_cons_succ] at f7
  have f8 := hf 8 (by omega)
  simp only [FT, T10, List.getElem?_cons_zero, List.getElem?_cons_succ] at f8
  have f9 := hf 9 (by omega)
  simp only [FT, T10, List.getElem?_cons_zero, List.getElem?_cons_succ] at f9
  clear hf
  have Hn := H7.below hb
  refine wp_put_row 49 (.tmp 35) (.tmp 34) rfl (w.heap.size + 1 + 1) 3 (z6d true false) (wellL r) 51 f9 f8 Hn.t4 (z6d_9 _ _) (wellL_9 _) (z6d_k _ _) info_row ?_
  intro wa h2 hb2
  have Ha : RS w wa w.heap.size (w.heap.size + 1) (w.heap.size + 1 + 1) a b true false (z6e true false r) := Hn.put hb2 h2
  clear h2 hb2 Hn hb f0 f1 f2 f3 f4 f5 f6 f7 f8 f9 H7
  go_wp2_with fail
  refine region_calls 10 [(0, 36), (1, 37), (2, 38), (3, 39), (4, 40), (5, 41), (6, 42), (7, 43), (8, 44), (9, 45)] (by kernel_rfl) (by kernel_rfl) (FT (T11 a b true false (w.heap.size + 1 + 1) r)) (FT_keep (T11 a b true false (w.heap.size + 1 + 1) r)) (fun i hi X w1 o ho hb hf K hK => ?_) (fun X w1 o ho hb hf => ?_)
  · simp only [setAll, List.set_cons_zero, List.set_cons_succ] at hK ⊢
    have hi' : i = 0 ∨ i = 1 ∨ i = 2 ∨ i = 3 ∨ i = 4 ∨ i = 5 ∨ i = 6 ∨ i = 7 ∨ i = 8 ∨ i = 9 := by omega
    rcases hi' with rfl | rfl | rfl | rfl | rfl | rfl | rfl | rfl | rfl | rfl
    · simp only [List.getElem?_toArray, List.getElem?_cons_zero, List.getElem?_cons_succ, Option.some.injEq] at ho
      subst ho
      clear hf
      go_simp
      (go_at_call 39; (with_reducible refine (same_any _).mono ?_))
      rintro e wn ⟨rfl, hbn⟩
      exact hK.out _ _ hbn rfl
    · simp only [List.getElem?_toArray, List.getElem?_cons_zero, List.getElem?_cons_succ, Option.some.injEq] at ho
      subst ho
      clear hf
      go_simp
      exact hK.out _ _ ((Below.refl _ w1).alloc (Nat.le_refl _) _) ⟨_, rfl, lit1 w1 1 _ _⟩
    · simp only [List.getElem?_toArray, List.getElem?_cons_zero, List.getElem?_cons_succ, Option.some.injEq] at ho
      subst ho
      have f0 := hf 0 (by kernel_rfl)
      simp only [FT, T11, List.getElem?_cons_zero, List.getElem?_cons_succ] at f0
      have f1 := hf 1 (by kernel_rfl)
      simp only [FT, T11, List.getElem?_cons_zero, List.getElem?_cons_succ] at f1
      clear hf
      obtain ⟨g, e1, r1⟩ := f1
      rw [f0, e1] at hK ⊢
      go_simp
      (go_at_call 36; (with_reducible refine (to_any sameL 2 _ 1 1 _ [1] _ sameL_9 r1 (Nat.le_refl _) (by decide) (by omega)).mono ?_))
      rintro e wn ⟨rfl, hbn⟩
      exact hK.out _ _ hbn rfl
    · simp only [List.getElem?_toArray, List.getElem?_cons_zero, List.getElem?_cons_succ, Option.some.injEq] at ho
      subst ho
      clear hf
      go_simp
      exact hK.out _ _ ((Below.refl _ w1).alloc (Nat.le_refl _) _) ⟨_, rfl, lit1 w1 6 _ _⟩
    · simp only [List.getElem?_toArray, List.getElem?_cons_zero, List.getElem?_cons_succ, Option.some.injEq] at ho
      subst ho
      have f2 := hf 2 (by kernel_rfl)
      simp only [FT, T11, List.getElem?_cons_zero, List.getElem?_cons_succ] at f2
      have f3 := hf 3 (by kernel_rfl)
      simp only [FT, T11, List.getElem?_cons_zero, List.getElem?_cons_succ] at f3
      clear hf
      obtain ⟨g, e1, r1⟩ := f3
      rw [f2, e1] at hK ⊢
      go_simp
      (go_at_call 36; (with_reducible refine (to_any ack1 7 _ 1 1 _ [6] _ ack1_9 r1 (Nat.le_refl _) (by decide) (by omega)).mono ?_))
      rintro e wn ⟨rfl, hbn⟩
      exact hK.out _ _ hbn rfl
    · simp only [List.getElem?_toArray, List.getElem?_cons_zero, List.getElem?_cons_succ, Option.some.injEq] at ho
      subst ho
      clear hf
      have Hn := Ha.below hb
      refine wp_load_row 54 (.tmp 1) rfl w.heap.size rfl 54 _ (0, 0) _ Hn.t1 Try.underlying54 rfl (by kernel_rfl) ?_
      exact hK.out _ _ (Below.refl _ _) rfl
    · simp only [List.getElem?_toArray, List.getElem?_cons_zero, List.getElem?_cons_succ, Option.some.injEq] at ho
      subst ho
      have f4 := hf 4 (by kernel_rfl)
      simp only [FT, T11, List.getElem?_cons_zero, List.getElem?_cons_succ] at f4
      have f5 := hf 5 (by kernel_rfl)
      simp only [FT, T11, List.getElem?_cons_zero, List.getElem?_cons_succ] at f5
      clear hf
      rw [f5] at hK ⊢
      clear f4 f5
      go_simp
      (go_at_call 40; (with_reducible refine (rest_any a b true false _).mono ?_))
      rintro e wn ⟨rfl, hbn⟩
      exact hK.out _ _ hbn (by rw [HRR.out]; rfl)
    · simp only [List.getElem?_toArray, List.getElem?_cons_zero, List.getElem?_cons_succ, Option.some.injEq] at ho
      subst ho
      clear hf
      go_simp
      exact hK.out _ _ ((Below.refl _ w1).alloc (Nat.le_refl _) _) ⟨_, rfl, lit2 w1 3  8 _ _⟩
    · simp only [List.getElem?_toArray, List.getElem?_cons_zero, List.getElem?_cons_succ, Option.some.injEq] at ho
      subst ho
      have f4 := hf 4 (by kernel_rfl)
      simp only [FT, T11, List.getElem?_cons_zero, List.getElem?_cons_succ] at f4
      have f6 := hf 6 (by kernel_rfl)
      simp only [FT, T11, List.getElem?_cons_zero, List.getElem?_cons_succ] at f6
      have f7 := hf 7 (by kernel_rfl)
      simp only [FT, T11, List.getElem?_cons_zero, List.getElem?_cons_succ] at f7
      clear hf
      obtain ⟨g, e1, r1⟩ := f7
      rw [f4, f6, e1] at hK ⊢
      go_simp
      (go_at_call 36; (with_reducible refine (to_any ack2 r _ 2 2 _ [3, 8] _ ack2_9 r1 (Nat.le_refl _) (by decide) (by omega)).mono ?_))
      rintro e wn ⟨rfl, hbn⟩
      exact hK.out _ _ hbn rfl
    · simp only [List.getElem?_toArray, List.getElem?_cons_zero, List.getElem?_cons_succ, Option.some.injEq] at ho
      subst ho
      have f0 := hf 0 (by kernel_rfl)
      simp only [FT, T11, List.getElem?_cons_zero, List.getElem?_cons_succ] at f0
      have f1 := hf 1 (by kernel_rfl)
      simp only [FT, T11, List.getElem?_cons_zero, List.getElem?_cons_succ] at f1
      have f2 := hf 2 (by kernel_rfl)
      simp only [FT, T11, List.getElem?_cons_zero, List.getElem?_cons_succ] at f2
      have f3 := hf 3 (by kernel_rfl)
      simp only [FT, T11, List.getElem?_cons_zero, List.getElem?_cons_succ] at f3
      have f4 := hf 4 (by kernel_rfl)
      simp only [FT, T11, List.getElem?_cons_zero, List.getElem?_cons_succ] at f4
      have f5 := hf 5 (by kernel_rfl)
      simp only [FT, T11, List.getElem?_cons_zero, List.getElem?_cons_succ] at f5
      have f6 := hf 6 (by kernel_rfl)
      simp only [FT, T11, List.getElem?_cons_zero, List.getElem?_cons_succ] at f6
      have f7 := hf 7 (by kernel_rfl)
      simp only [FT, T11, List.getElem?_cons_zero, List.getElem?_cons_succ] at f7
      have f8 := hf 8 (by kernel_rfl)
      simp only [FT, T11, List.getElem?_cons_zero, List.getElem?_cons_succ] at f8
      clear hf
      clear f0 f1 f2 f3 f4 f5 f6 f7 f8
      go_simp
      exact hK.out _ _ (Below.refl _ _) rfl
  simp only [List.getElem?_toArray, List.getElem?_cons_zero, List.getElem?_cons_succ, Option.some.injEq] at ho
  subst ho
  simp only [setAll, List.set_cons_zero, List.set_cons_succ]
  have f0 := hf 0 (by omega)
  simp only [FT, T11, List.getElem?_cons_zero, List.getElem?_cons_succ] at f0
  have f1 := hf 1 (by omega)
  simp only [FT, T11, List.getElem?_cons_zero, List.getElem?_cons_succ] at f1
  have f2 := hf 2 (by omega)
  simp only [FT, T11, List.getElem?_cons_zero, List.getElem?_cons_succ] at f2
  have f3 := hf 3 (by omega)
  simp only [FT, T11, List.getElem?_cons_zero, List.getElem?_cons_succ] at f3
  have f4 := hf 4 (by omega)
  simp only [FT, T11, List.getElem?_cons_zero, List.getElem?_cons_succ] at f4
  have f5 := hf 5 (by omega)
  simp only [FT, T11, List.getElem?_cons_zero, List.getElem?_cons_succ] at f5
  have f6 := hf 6 (by omega)
  simp only [FT, T11, List.getElem?_cons_zero, List.getElem?_cons_succ] at f6
  have f7 := hf 7 (by omega)
  simp only [FT, T11, List.getElem?_cons_zero, List.getElem?_cons_succ] at f7
  have f8 := hf 8 (by omega)
  simp only [FT, T11, List.getElem?_cons_zero, List.getElem?_cons_succ] at f8
  have f9 := hf 9 (by omega)
  simp only [FT, T11, List.getElem?_cons_zero, List.getElem?_cons_succ] at f9
  clear hf
  have Hn := Ha.below hb
  refine wp_put_row 49 (.tmp 45) (.tmp 44) rfl (w.heap.size + 1 + 1) 4 (z6e true false r) (ackL r) 51 f9 f8 Hn.t4 (z6e_9 _ _ _) (ackL_9 _) (z6e_k _ _ _) info_row ?_
  intro wb h2 hb2
  have Hb : RS w wb w.heap.size (w.heap.size + 1) (w.heap.size + 1 + 1) a b true false (z6f true false r) := Hn.put hb2 h2
  clear h2 hb2 Hn hb f0 f1 f2 f3 f4 f5 f6 f7 f8 f9 Ha
  go_wp2_with (first
    | (go_at_call 39; (with_reducible refine (same_any _).mono ?_); rintro e wc ⟨rfl, hb1⟩
       have Hc := Hb.below hb1
       clear hb1)
    | (go_at_call 36; (with_reducible refine (to_any sameL 0 _ 2 2 _ [4, 5] _ sameL_9 (lit2 wc 4 5 _ _) (Nat.le_refl _) (by decide) (by omega)).mono ?_); rintro e wd ⟨he, hb2⟩
       rw [show toL sameL 0 [4, 5] = rstL from rfl] at he
       subst he
       have Hd := Hc.below (((Below.refl _ wc).alloc (Nat.le_refl _) _).trans (hb2.mono (by rw [World.size_alloc]; omega)))
       clear hb2 Hc)
    | (with_reducible refine wpList_put_row rfl 49 (.tmp 49) (.tmp 48) rfl (w.heap.size + 1 + 1) 5 (z6f true false r) rstL 51 rfl rfl Hd.t4 (z6f_9 _ _ _) rstL_9 (z6f_k _ _ _) info_row ?_
       intro we he hbe
       have He : RS w we w.heap.size (w.heap.size + 1) (w.heap.size + 1 + 1) a b true false (z6g true false r) := Hd.put hbe he
       clear he hbe Hd)
    | (with_reducible refine wpList_load_row rfl 51 (.tmp 4) rfl (w.heap.size + 1 + 1) rfl 51 (rowA (fl (z6g true false r))) (0, 0) _ He.t4 Try.underlying51 rfl (by rw [z6g_54]; exact info_rows) ?_)
    | (with_reducible refine wpList_store_row rfl 51 (.tmp 2) (.tmp 50) rfl (w.heap.size + 1) (rowA (fl (z6g true false r))) rfl rfl 51 (rowA (fl [zr, zr, zr, zr, zr, zr])) He.t2 (by rw [z6g_54]; exact info_rows) (z6_same _ _ _) (rowA_one _) ?_)
    | fail)
  refine bodyPost_ret (results_cell_row rfl _ _ (w.heap.size + 1) 51 (rowA (fl (z6g true false r))) (0, 0) _ rfl (setRow_heap _ _ _ _ _ _ He.t2) Try.underlying51 rfl (by rw [z6g_54]; exact info_rows)) rfl ⟨by rw [HRR.out]; rfl, ?_⟩
  exact below_setRow He.bel (by omega) _
set_option maxHeartbeats 4000000 in
theorem rows_tt (a b : Bool) (w : World) :
    Calls Try.prog 37 #[trV a b true true] w fun e w' => e = .returned (.agg (rowA (fl (rowsL a b true true)))) ∧ Below w.heap.size w w' := by
  obtain ⟨r, hrr⟩ : ∃ r, r = restI a b := ⟨_, rfl⟩
  have HRR := Lib.hid hrr
  clear hrr
  unfold trV
  go_enter Try.func37, Try.ntmps37
  go_wp2_with (first
    | (go_at_call 39; (with_reducible refine (same_any _).mono ?_); rintro e w1 ⟨rfl, hb1⟩
       have H1 : RS w w1 w.heap.size (w.heap.size + 1) (w.heap.size + 1 + 1) a b true true [zr, zr, zr, zr, zr, zr] := (rs_start w a b true true).below hb1
       clear hb1)
    | (go_at_call 36; (with_reducible refine (to_any sameL 2 _ 3 3 _ [0, 4, 5] _ rfl (lit3 w1 0 4 5 _ _) (Nat.le_refl _) (by decide) (by omega)).mono ?_); rintro e w2 ⟨he, hb2⟩
       rw [show toL sameL 2 [0, 4, 5] = bad1 true from rfl] at he
       subst he
       have H2 := H1.below (((Below.refl _ w1).alloc (Nat.le_refl _) _).trans (hb2.mono (by rw [World.size_alloc]; omega)))
       clear hb2)
    | (go_at_call 36; (with_reducible refine (to_any (bad1 true) 1 _ 1 1 _ [3] _ rfl (lit1 w2 3 _ _) (Nat.le_refl _) (by decide) (by omega)).mono ?_); rintro e w3 ⟨he, hb3⟩
       rw [show toL (bad1 true) 1 [3] = bad2 true from rfl] at he
       subst he
       have H3 := H2.below (((Below.refl _ w2).alloc (Nat.le_refl _) _).trans (hb3.mono (by rw [World.size_alloc]; omega)))
       clear hb3)
    | (go_at_call 36; (with_reducible refine (to_any (bad2 true) 6 _ 1 1 _ [8] _ rfl (lit1 w3 8 _ _) (Nat.le_refl _) (by decide) (by omega)).mono ?_); rintro e w4 ⟨he, hb4⟩
       rw [show toL (bad2 true) 6 [8] = badL true from rfl] at he
       subst he
       have H4 := H3.below (((Below.refl _ w3).alloc (Nat.le_refl _) _).trans (hb4.mono (by rw [World.size_alloc]; omega)))
       clear hb4)
    | (with_reducible refine wpList_put_all rfl 49 (.tmp 5) (.tmp 15) rfl w4.heap.size (badL true) zr 49 rfl rfl (zr_new w4) (badL_9 _) zr_9 info_row ?_
       intro w5 h5 hb5
       have H5 : RS w w5 w.heap.size (w.heap.size + 1) (w.heap.size + 1 + 1) a b true true [zr, zr, zr, zr, zr, zr] := H4.below (((Below.refl _ _).alloc (Nat.le_refl _) _).trans (hb5.below (Nat.le_refl _)))
       have hg5 : w.heap.size + 1 + 1 < w4.heap.size := H4.lt.2.2.2
       clear H1 H2 H3 hb5)
    | (with_reducible refine wpList_load_row rfl 49 (.tmp 5) rfl w4.heap.size rfl 49 (rowA (badL true)) (0, 0) _ h5 Try.underlying49 rfl (by rw [rowA_9 _ (badL_9 _)]; exact info_row) ?_)
    | (with_reducible refine wpList_put_row rfl 49 (.tmp 17) (.tmp 16) rfl (w.heap.size + 1 + 1) 1 [zr, zr, zr, zr, zr, zr] (badL true) 51 rfl rfl H5.t4 z6_9 (badL_9 _) k6 info_row ?_
       intro w6 h6 hb6
       have H6 : RS w w6 w.heap.size (w.heap.size + 1) (w.heap.size + 1 + 1) a b true true (z6b true) := H5.put hb6 h6
       have h56 := (hb6.block w4.heap.size (by omega)).trans h5
       clear h6 hb6 h5 H4 H5)
    | (with_reducible refine wpList_load_row rfl 49 (.tmp 5) rfl w4.heap.size rfl 49 (rowA (badL true)) (0, 0) _ h56 Try.underlying49 rfl (by rw [rowA_9 _ (badL_9 _)]; exact info_row) ?_)
    | (with_reducible refine wpList_put_row rfl 49 (.tmp 19) (.tmp 18) rfl (w.heap.size + 1 + 1) 2 (z6b true) (badL true) 51 rfl rfl H6.t4 (z6b_9 _) (badL_9 _) (z6b_k _) info_row ?_
       intro w7 h7 hb7
       have H7 : RS w w7 w.heap.size (w.heap.size + 1) (w.heap.size + 1 + 1) a b true true (z6c true) := H6.put hb7 h7
       have h57 := (hb7.block w4.heap.size (by omega)).trans h56
       have c7 : w7.cell? ⟨w.heap.size, 3, none⟩ = some (.bool true) := cell_of_row _ _ _ _ _ _ H7.t1
       clear h7 hb7 h56 H6)
    | (go_at_call 36; (with_reducible refine (to_any (badL true) 6 _ 6 6 _ [0, 4, 5, 1, 3, 8] _ (badL_9 _) (lit6 w7 0 4 5 1 3 8 _ _) (Nat.le_refl _) (by decide) (by omega)).mono ?_); rintro e w8 ⟨he, hb8⟩
       rw [show toL (badL true) 6 [0, 4, 5, 1, 3, 8] = frstL true true from rfl] at he
       subst he
       have H8 := H7.below (((Below.refl _ w7).alloc (Nat.le_refl _) _).trans (hb8.mono (by rw [World.size_alloc]; omega)))
       clear hb8)
    | (with_reducible refine wpList_load_row rfl 49 (.tmp 5) rfl w4.heap.size rfl 49 (rowA (badL true)) (0, 0) _ h57 Try.underlying49 rfl (by rw [rowA_9 _ (badL_9 _)]; exact info_row) ?_)
    | (with_reducible refine wpList_put_row rfl 49 (.tmp 25) (.tmp 24) rfl (w.heap.size + 1 + 1) 2 (z6c true) (frstL true true) 51 rfl rfl H8.t4 (z6c_9 _) (frstL_9 _ _) (z6c_k _) info_row ?_
       intro w9 h9 hb9
       have H9 : RS w w9 w.heap.size (w.heap.size + 1) (w.heap.size + 1 + 1) a b true true (z6d true true) := H8.put hb9 h9
       clear h9 hb9 H7 H8)
    | fail)
  refine region_calls 10 [(0, 26), (1, 27), (2, 28), (3, 29), (4, 30), (5, 31), (6, 32), (7, 33), (8, 34), (9, 35)] (by kernel_rfl) (by kernel_rfl) (FT (T10 a b true true (w.heap.size + 1 + 1) r)) (FT_keep (T10 a b true true (w.heap.size + 1 + 1) r)) (fun i hi X w1 o ho hb hf K hK => ?_) (fun X w1 o ho hb hf => ?_)
  · simp only [setAll, List.set_cons_zero, List.set_cons_succ] at hK ⊢
    have hi' : i = 0 ∨ i = 1 ∨ i = 2 ∨ i = 3 ∨ i = 4 ∨ i = 5 ∨ i = 6 ∨ i = 7 ∨ i = 8 ∨ i = 9 := by omega
    rcases hi' with rfl | rfl | rfl | rfl | rfl | rfl | rfl | rfl | rfl | rfl
    · simp only [List.getElem?_toArray, List.getElem?_cons_zero, List.getElem?_cons_succ, Option.some.injEq] at ho
      subst ho
      clear hf
      go_simp
      (go_at_call 39; (with_reducible refine (same_any _).mono ?_))
      rintro e wn ⟨rfl, hbn⟩
      exact hK.out _ _ hbn rfl
    · simp only [List.getElem?_toArray, List.getElem?_cons_zero, List.getElem?_cons_succ, Option.some.injEq] at ho
      subst ho
      clear hf
      go_simp
      exact hK.out _ _ ((Below.refl _ w1).alloc (Nat.le_refl _) _) ⟨_, rfl, lit1 w1 1 _ _⟩
    · simp only [List.getElem?_toArray, List.getElem?_cons_zero, List.getElem?_cons_succ, Option.some.injEq] at ho
      subst ho
      have f0 := hf 0 (by kernel_rfl)
      simp only [FT, T10, List.getElem?_cons_zero, List.getElem?_cons_succ] at f0
      have f1 := hf 1 (by kernel_rfl)
      simp only [FT, T10, List.getElem?_cons_zero, List.getElem?_cons_succ] at f1
      clear hf
      obtain ⟨g, e1, r1⟩ := f1
      rw [f0, e1] at hK ⊢
      go_simp
      (go_at_call 36; (with_reducible refine (to_any sameL 3 _ 1 1 _ [1] _ sameL_9 r1 (Nat.le_refl _) (by decide) (by omega)).mono ?_))
      rintro e wn ⟨rfl, hbn⟩
      exact hK.out _ _ hbn rfl
    · simp only [List.getElem?_toArray, List.getElem?_cons_zero, List.getElem?_cons_succ, Option.some.injEq] at ho
      subst ho
      clear hf
      go_simp
      exact hK.out _ _ ((Below.refl _ w1).alloc (Nat.le_refl _) _) ⟨_, rfl, lit1 w1 6 _ _⟩
    · simp only [List.getElem?_toArray, List.getElem?_cons_zero, List.getElem?_cons_succ, Option.some.injEq] at ho
      subst ho
      have f2 := hf 2 (by kernel_rfl)
      simp only [FT, T10, List.getElem?_cons_zero, List.getElem?_cons_succ] at f2
      have f3 := hf 3 (by kernel_rfl)
      simp only [FT, T10, List.getElem?_cons_zero, List.getElem?_cons_succ] at f3
      clear hf
      obtain ⟨g, e1, r1⟩ := f3
      rw [f2, e1] at hK ⊢
      go_simp
      (go_at_call 36; (with_reducible refine (to_any well1 8 _ 1 1 _ [6] _ well1_9 r1 (Nat.le_refl _) (by decide) (by omega)).mono ?_))
      rintro e wn ⟨rfl, hbn⟩
      exact hK.out _ _ hbn rfl
    · simp only [List.getElem?_toArray, List.getElem?_cons_zero, List.getElem?_cons_succ, Option.some.injEq] at ho
      subst ho
      clear hf
      have Hn := H9.below hb
      refine wp_load_row 54 (.tmp 1) rfl w.heap.size rfl 54 _ (0, 0) _ Hn.t1 Try.underlying54 rfl (by kernel_rfl) ?_
      exact hK.out _ _ (Below.refl _ _) rfl
    · simp only [List.getElem?_toArray, List.getElem?_cons_zero, List.getElem?_cons_succ, Option.some.injEq] at ho
      subst ho
      have f4 := hf 4 (by kernel_rfl)
      simp only [FT, T10, List.getElem?_cons_zero, List.getElem?_cons_succ] at f4
      have f5 := hf 5 (by kernel_rfl)
      simp only [FT, T10, List.getElem?_cons_zero, List.getElem?_cons_succ] at f5
      clear hf
      rw [f5] at hK ⊢
      clear f4 f5
      go_simp
      (go_at_call 40; (with_reducible refine (rest_any a b true true _).mono ?_))
      rintro e wn ⟨rfl, hbn⟩
      exact hK.out _ _ hbn (by rw [HRR.out]; rfl)
    · simp only [List.getElem?_toArray, List.getElem?_cons_zero, List.getElem?_cons_succ, Option.some.injEq] at ho
      subst ho
      clear hf
      go_simp
      exact hK.out _ _ ((Below.refl _ w1).alloc (Nat.le_refl _) _) ⟨_, rfl, lit2 w1 2  7 _ _⟩
    · simp only [List.getElem?_toArray, List.getElem?_cons_zero, List.getElem?_cons_succ, Option.some.injEq] at ho
      subst ho
      have f4 := hf 4 (by kernel_rfl)
      simp only [FT, T10, List.getElem?_cons_zero, List.getElem?_cons_succ] at f4
      have f6 := hf 6 (by kernel_rfl)
      simp only [FT, T10, List.getElem?_cons_zero, List.getElem?_cons_succ] at f6
      have f7 := hf 7 (by kernel_rfl)
      simp only [FT, T10, List.getElem?_cons_zero, List.getElem?_cons_succ] at f7
      clear hf
      obtain ⟨g, e1, r1⟩ := f7
      rw [f4, f6, e1] at hK ⊢
      go_simp
      (go_at_call 36; (with_reducible refine (to_any well2 r _ 2 2 _ [2, 7] _ well2_9 r1 (Nat.le_refl _) (by decide) (by omega)).mono ?_))
      rintro e wn ⟨rfl, hbn⟩
      exact hK.out _ _ hbn rfl
    · simp only [List.getElem?_toArray, List.getElem?_cons_zero, List.getElem?_cons_succ, Option.some.injEq] at ho
      subst ho
      have f0 := hf 0 (by kernel_rfl)
      simp only [FT, T10, List.getElem?_cons_zero, List.getElem?_cons_succ] at f0
      have f1 := hf 1 (by kernel_rfl)
      simp only [FT, T10, List.getElem?_cons_zero, List.getElem?_cons_succ] at f1
      have f2 := hf 2 (by kernel_rfl)
      simp only [FT, T10, List.getElem?_cons_zero, List.getElem?_cons_succ] at f2
      have f3 := hf 3 (by kernel_rfl)
      simp only [FT, T10, List.getElem?_cons_zero, List.getElem?_cons_succ] at f3
      have f4 := hf 4 (by kernel_rfl)
      simp only [FT, T10, List.getElem?_cons_zero, List.getElem?_cons_succ] at f4
      have f5 := hf 5 (by kernel_rfl)
      simp only [FT, T10, List.getElem?_cons_zero, List.getElem?_cons_succ] at f5
      have f6 := hf 6 (by kernel_rfl)
      simp only [FT, T10, List.getElem?_cons_zero, List.getElem?_cons_succ] at f6
      have f7 := hf 7 (by kernel_rfl)
      simp only [FT, T10, List.getElem?_cons_zero, List.getElem?_cons_succ] at f7
      have f8 := hf 8 (by kernel_rfl)
      simp only [FT, T10, List.getElem?_cons_zero, List.getElem?_cons_succ] at f8
      clear hf
      clear f0 f1 f2 f3 f4 f5 f6 f7 f8
      go_simp
      exact hK.out _ _ (Below.refl _ _) rfl
  simp only [List.getElem?_toArray, List.getElem?_cons_zero, List.getElem?_cons_succ, Option.some.injEq] at ho
  subst ho
  simp only [setAll, List.set_cons_zero, List.set_cons_succ]
  have f0 := hf 0 (by omega)
  simp only [FT, T10, List.getElem?_cons_zero, List.getElem?_cons_succ] at f0
  have f1 := hf 1 (by omega)
  simp only [FT, T10, List.getElem?_cons_zero, List.getElem?_cons_succ] at f1
  have f2 := hf 2 (by omega)
  simp only [FT, T10, List.getElem?_cons_zero, List.getElem?_cons_succ] at f2
  have f3 := hf 3 (by omega)
  simp only [FT, T10, List.getElem?_cons_zero, List.getElem?_cons_succ] at f3
  have f4 := hf 4 (by omega)
  simp only [FT, T10, List.getElem?_cons_zero, List.getElem?_cons_succ] at f4
  have f5 := hf 5 (by omega)
  simp only [FT, T10, List.getElem?_cons_zero, List.getElem?_cons_succ] at f5
  have f6 := hf 6 (by omega)
  simp only [FT, T10, List.getElem?_cons_zero, List.getElem?_cons_succ] at f6
  have f7 := hf 7 (by omega)
  simp only [FT, T10, List.getElem?_cons_zero, List.getElem?_cons_succ] at f7
  have f8 := hf 8 (by omega)
  simp only [FT, T10, List.getElem?_cons_zero, List.getElem?_cons_succ] at f8
  have f9 := hf 9 (by omega)
  simp only [FT, T10, List.getElem?_cons_zero, List.getElem?_cons_succ] at f9
  clear hf
  have Hn := H9.below hb
  refine wp_put_row 49 (.tmp 35) (.tmp 34) rfl (w.heap.size + 1 + 1) 3 (z6d true true) (wellL r) 51 f9 f8 Hn.t4 (z6d_9 _ _) (wellL_9 _) (z6d_k _ _) info_row ?_
  intro wa h2 hb2
  have Ha : RS w wa w.heap.size (w.heap.size + 1) (w.heap.size + 1 + 1) a b true true (z6e true true r) := Hn.put hb2 h2
  clear h2 hb2 Hn hb f0 f1 f2 f3 f4 f5 f6 f7 f8 f9 H9
  go_wp2_with fail
  refine region_calls 10 [(0, 36), (1, 37), (2, 38), (3, 39), (4, 40), (5, 41), (6, 42), (7, 43), (8, 44), (9, 45)] (by kernel_rfl) (by kernel_rfl) (FT (T11 a b true true (w.heap.size + 1 + 1) r)) (FT_keep (T11 a b true true (w.heap.size + 1 + 1) r)) (fun i hi X w1 o ho hb hf K hK => ?_) (fun X w1 o ho hb hf => ?_)
  · simp only [setAll, List.set_cons_zero, List.set_cons_succ] at hK ⊢
    have hi' : i = 0 ∨ i = 1 ∨ i = 2 ∨ i = 3 ∨ i = 4 ∨ i = 5 ∨ i = 6 ∨ i = 7 ∨ i = 8 ∨ i = 9 := by omega
    rcases hi' with rfl | rfl | rfl | rfl | rfl | rfl | rfl | rfl | rfl | rfl
    · simp only [List.getElem?_toArray, List.getElem?_cons_zero, List.getElem?_cons_succ, Option.some.injEq] at ho
      subst ho
      clear hf
      go_simp
      (go_at_call 39; (with_reducible refine (same_any _).mono ?_))
      rintro e wn ⟨rfl, hbn⟩
      exact hK.out _ _ hbn rfl
    · simp only [List.getElem?_toArray, List.getElem?_cons_zero, List.getElem?_cons_succ, Option.some.injEq] at ho
      subst ho
      clear hf
      go_simp
      exact hK.out _ _ ((Below.refl _ w1).alloc (Nat.le_refl _) _) ⟨_, rfl, lit1 w1 1 _ _⟩
    · simp only [List.getElem?_toArray, List.getElem?_cons_zero, List.getElem?_cons_succ, Option.some.injEq] at ho
      subst ho
      have f0 := hf 0 (by kernel_rfl)
      simp only [FT, T11, List.getElem?_cons_zero, List.getElem?_cons_succ] at f0
      have f1 := hf 1 (by kernel_rfl)
      simp only [FT, T11, List.getElem?_cons_zero, List.getElem?_cons_succ] at f1
      clear hf
      obtain ⟨g, e1, r1⟩ := f1
      rw [f0, e1] at hK ⊢
      go_simp
      (go_at_call 36; (with_reducible refine (to_any sameL 2 _ 1 1 _ [1] _ sameL_9 r1 (Nat.le_refl _) (by decide) (by omega)).mono ?_))
      rintro e wn ⟨rfl, hbn⟩
      exact hK.out _ _ hbn rfl
    · simp only [List.getElem?_toArray, List.getElem?_cons_zero, List.getElem?_cons_succ, Option.some.injEq] at ho
      subst ho
      clear hf
      go_simp
      exact hK.out _ _ ((Below.refl _ w1).alloc (Nat.le_refl _) _) ⟨_, rfl, lit1 w1 6 _ _⟩
    · simp only [List.getElem?_toArray, List.getElem?_cons_zero, List.getElem?_cons_succ, Option.some.injEq] at ho
      subst ho
      have f2 := hf 2 (by kernel_rfl)
      simp only [FT, T11, List.getElem?_cons_zero, List.getElem?_cons_succ] at f2
      have f3 := hf 3 (by kernel_rfl)
      simp only [FT, T11, List.getElem?_cons_zero, List.getElem?_cons_succ] at f3
      clear hf
      obtain ⟨g, e1, r1⟩ := f3
      rw [f2, e1] at hK ⊢
      go_simp
      (go_at_call 36; (with_reducible refine (to_any ack1 7 _ 1 1 _ [6] _ ack1_9 r1 (Nat.le_refl _) (by decide) (by omega)).mono ?_))
      rintro e wn ⟨rfl, hbn⟩
      exact hK.out _ _ hbn rfl
    · simp only [List.getElem?_toArray, List.getElem?_cons_zero, List.getElem?_cons_succ, Option.some.injEq] at ho
      subst ho
      clear hf
      have Hn := Ha.below hb
      refine wp_load_row 54 (.tmp 1) rfl w.heap.size rfl 54 _ (0, 0) _ Hn.t1 Try.underlying54 rfl (by kernel_rfl) ?_
      exact hK.out _ _ (Below.refl _ _) rfl
    · simp only [List.getElem?_toArray, List.getElem?_cons_zero, List.getElem?_cons_succ, Option.some.injEq] at ho
      subst ho
      have f4 := hf 4 (by kernel_rfl)
      simp only [FT, T11, List.getElem?_cons_zero, List.getElem?_cons_succ] at f4
      have f5 := hf 5 (by kernel_rfl)
      simp only [FT, T11, List.getElem?_cons_zero, List.getElem?_cons_succ] at f5
      clear hf
      rw [f5] at hK ⊢
      clear f4 f5
      go_simp
      (go_at_call 40; (with_reducible refine (rest_any a b true true _).mono ?_))
      rintro e wn ⟨rfl, hbn⟩
      exact hK.out _ _ hbn (by rw [HRR.out]; rfl)
    · simp only [List.getElem?_toArray, List.getElem?_cons_zero, List.getElem?_cons_succ, Option.some.injEq] at ho
      subst ho
      clear hf
      go_simp
      exact hK.out _ _ ((Below.refl _ w1).alloc (Nat.le_refl _) _) ⟨_, rfl, lit2 w1 3  8 _ _⟩
    · simp only [List.getElem?_toArray, List.getElem?_cons_zero, List.getElem?_cons_succ, Option.some.injEq] at ho
      subst ho
      have f4 := hf 4 (by kernel_rfl)
      simp only [FT, T11, List.getElem?_cons_zero, List.getElem?_cons_succ] at f4
      have f6 := hf 6 (by kernel_rfl)
      simp only [FT, T11, List.getElem?_cons_zero, List.getElem?_cons_succ] at f6
      have f7 := hf 7 (by kernel_rfl)
      simp only [FT, T11, List.getElem?_cons_zero, List.getElem?_cons_succ] at f7
      clear hf
      obtain ⟨g, e1, r1⟩ := f7
      rw [f4, f6, e1] at hK ⊢
      go_simp
      (go_at_call 36; (with_reducible refine (to_any ack2 r _ 2 2 _ [3, 8] _ ack2_9 r1 (Nat.le_refl _) (by decide) (by omega)).mono ?_))
      rintro e wn ⟨rfl, hbn⟩
      exact hK.out _ _ hbn rfl
    · simp only [List.getElem?_toArray, List.getElem?_cons_zero, List.getElem?_cons_succ, Option.some.injEq] at ho
      subst ho
      have f0 := hf 0 (by kernel_rfl)
      simp only [FT, T11, List.getElem?_cons_zero, List.getElem?_cons_succ] at f0
      have f1 := hf 1 (by kernel_rfl)
      simp only [FT, T11, List.getElem?_cons_zero, List.getElem?_cons_succ] at f1
      have f2 := hf 2 (by kernel_rfl)
      simp only [FT, T11, List.getElem?_cons_zero, List.getElem?_cons_succ] at f2
      have f3 := hf 3 (by kernel_rfl)
      simp only [FT, T11, List.getElem?_cons_zero, List.getElem?_cons_succ] at f3
      have f4 := hf 4 (by kernel_rfl)
      simp only [FT, T11, List.getElem?_cons_zero, List.getElem?_cons_succ] at f4
      have f5 := hf 5 (by kernel_rfl)
      simp only [FT, T11, List.getElem?_cons_zero, List.getElem?_cons_succ] at f5
      have f6 := hf 6 (by kernel_rfl)
      simp only [FT, T11, List.getElem?_cons_zero, List.getElem?_cons_succ] at f6
      have f7 := hf 7 (by kernel_rfl)
      simp only [FT, T11, List.getElem?_cons_zero, List.getElem?_cons_succ] at f7
      have f8 := hf 8 (by kernel_rfl)
      simp only [FT, T11, List.getElem?_cons_zero, List.getElem?_cons_succ] at f8
      clear hf
      clear f0 f1 f2 f3 f4 f5 f6 f7 f8
      go_simp
      exact hK.out _ _ (Below.refl _ _) rfl
  simp only [List.getElem?_toArray, List.getElem?_cons_zero, List.getElem?_cons_succ, Option.some.injEq] at ho
  subst ho
  simp only [setAll, List.set_cons_zero, List.set_cons_succ]
  have f0 := hf 0 (by omega)
  simp only [FT, T11, List.getElem?_cons_zero, List.getElem?_cons_succ] at f0
  have f1 := hf 1 (by omega)
  simp only [FT, T11, List.getElem?_cons_zero, List.getElem?_cons_succ] at f1
  have f2 := hf 2 (by omega)
  simp only [FT, T11, List.getElem?_cons_zero, List.getElem?_cons_succ] at f2
  have f3 := hf 3 (by omega)
  simp only [FT, T11, List.getElem?_cons_zero, List.getElem?_cons_succ] at f3
  have f4 := hf 4 (by omega)
  simp only [FT, T11, List.getElem?_cons_zero, List.getElem?_cons_succ] at f4
  have f5 := hf 5 (by omega)
  simp only [FT, T11, List.getElem?_cons_zero, List.getElem?_cons_succ] at f5
  have f6 := hf 6 (by omega)
  simp only [FT, T11, List.getElem?_cons_zero, List.getElem?_cons_succ] at f6
  have f7 := hf 7 (by omega)
  simp only [FT, T11, List.getElem?_cons_zero, List.getElem?_cons_succ] at f7
  have f8 := hf 8 (by omega)
  simp only [FT, T11, List.getElem?_cons_zero, List.getElem?_cons_succ] at f8
  have f9 := hf 9 (by omega)
  simp only [FT, T11, List.getElem?_cons_zero, List.getElem?_cons_succ] at f9
  clear hf
  have Hn := Ha.below hb
  refine wp_put_row 49 (.tmp 45) (.tmp 44) rfl (w.heap.size + 1 + 1) 4 (z6e true true r) (ackL r) 51 f9 f8 Hn.t4 (z6e_9 _ _ _) (ackL_9 _) (z6e_k _ _ _) info_row ?_
  intro wb h2 hb2
  have Hb : RS w wb w.heap.size (w.heap.size + 1) (w.heap.size + 1 + 1) a b true true (z6f true true r) := Hn.put hb2 h2
  clear h2 hb2 Hn hb f0 f1 f2 f3 f4 f5 f6 f7 f8 f9 Ha
  go_wp2_with (first
    | (go_at_call 39; (with_reducible refine (same_any _).mono ?_); rintro e wc ⟨rfl, hb1⟩
       have Hc := Hb.below hb1
       clear hb1)
    | (go_at_call 36; (with_reducible refine (to_any sameL 0 _ 2 2 _ [4, 5] _ sameL_9 (lit2 wc 4 5 _ _) (Nat.le_refl _) (by decide) (by omega)).mono ?_); rintro e wd ⟨he, hb2⟩
       rw [show toL sameL 0 [4, 5] = rstL from rfl] at he
       subst he
       have Hd := Hc.below (((Below.refl _ wc).alloc (Nat.le_refl _) _).trans (hb2.mono (by rw [World.size_alloc]; omega)))
       clear hb2 Hc)
    | (with_reducible refine wpList_put_row rfl 49 (.tmp 49) (.tmp 48) rfl (w.heap.size + 1 + 1) 5 (z6f true true r) rstL 51 rfl rfl Hd.t4 (z6f_9 _ _ _) rstL_9 (z6f_k _ _ _) info_row ?_
       intro we he hbe
       have He : RS w we w.heap.size (w.heap.size + 1) (w.heap.size + 1 + 1) a b true true (z6g true true r) := Hd.put hbe he
       clear he hbe Hd)
    | (with_reducible refine wpList_load_row rfl 51 (.tmp 4) rfl (w.heap.size + 1 + 1) rfl 51 (rowA (fl (z6g true true r))) (0, 0) _ He.t4 Try.underlying51 rfl (by rw [z6g_54]; exact info_rows) ?_)
    | (with_reducible refine wpList_store_row rfl 51 (.tmp 2) (.tmp 50) rfl (w.heap.size + 1) (rowA (fl (z6g true true r))) rfl rfl 51 (rowA (fl [zr, zr, zr, zr, zr, zr])) He.t2 (by rw [z6g_54]; exact info_rows) (z6_same _ _ _) (rowA_one _) ?_)
    | fail)
  refine bodyPost_ret (results_cell_row rfl _ _ (w.heap.size + 1) 51 (rowA (fl (z6g true true r))) (0, 0) _ rfl (setRow_heap _ _ _ _ _ _ He.t2) Try.underlying51 rfl (by rw [z6g_54]; exact info_rows)) rfl ⟨by rw [HRR.out]; rfl, ?_⟩
  exact below_setRow He.bel (by omega) _
theorem rows_any (a b c d : Bool) (w : World) :
    Calls Try.prog 37 #[trV a b c d] w fun e w' => e = .returned (.agg (rowA (fl (rowsL a b c d)))) ∧ Below w.heap.size w w' := by
  cases c <;> cases d
  · exact rows_ff a b w
  · exact rows_ft a b w
  · exact rows_tf a b w
  · exact rows_tt a b w
end Go.Proofs.Ytphghclkfbhagaa
