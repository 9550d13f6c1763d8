/- Package store: bytes of a latch, of a note. -/
import Derived.Test.YtcdgaeenfhpnkaaStB
set_option linter.unusedVariables false
set_option linter.unusedSimpArgs false
set_option maxRecDepth 100000
namespace Go.Proofs.Ytcdgaeenfhpnkaa
open Go Go.RowKit
attribute [local go_sem] Oper.semAt_some

def b2 (b : Bool) : Nat := if b then 1 else 0
def encL (x : Lt) : List Nat := (b2 x.set + 2 * b2 x.first) :: six x.at_.toNat
def encN (x : Nt) : List Nat := [x.kind.toNat, x.who.toNat] ++ six x.at_.toNat
theorem six_len (t : Nat) : (six t).length = 6 := rfl
theorem encL_len (x : Lt) : (encL x).length = 7 := rfl
theorem encN_len (x : Nt) : (encN x).length = 8 := rfl
theorem box_ne {w : World} {base e size n : Nat} {v : Value} {xs : List Value} (h : w.ownsRow base e size v n xs) : some w.heap.size ≠ v.ownBlock := fun e' => by
  have := own_at h _ e'.symm
  omega
theorem RowFr.size {v v' : Value} {w w' : World} (h : RowFr v w v' w') : w.heap.size ≤ w'.heap.size := h.1.size
set_option maxHeartbeats 4000000 in
theorem putLatch_any (base : Nat) (v : Value) (xs : List Nat) (x : Lt) (w : World) (ho : w.ownsRow base 5 1 v xs.length (xs.map bv)) (hb : base ≤ w.heap.size) (ht : okT x.at_) (hx : xs.length ≤ 10000) :
    Calls Try.prog 40 #[v, .agg #[.bool x.set, .int .i64 x.at_, .bool x.first]] w (RowPost base v w (xs ++ encL x)) := by
  obtain ⟨s, t, f⟩ := x
  obtain ⟨A, c, rfl⟩ := own_shape ho
  obtain ⟨tn, rfl⟩ : ∃ tn : Nat, t = (tn : Int) := ⟨t.toNat, by unfold okT at ht; dsimp only at ht; omega⟩
  have ht1 : tn ≤ 2199023255552 := by unfold okT at ht; dsimp only at ht; omega
  have al : Below w.heap.size w (w.alloc (.cells #[.bool s, .int .i64 tn, .bool f] 61)) := (Below.refl _ _).alloc (Nat.le_refl _) _
  obtain ⟨w1, hw1⟩ : ∃ x, x = w.alloc (.cells #[.bool s, .int .i64 tn, .bool f] 61) := ⟨_, rfl⟩
  rw [← hw1] at al
  have hbx : w1.heap[w.heap.size]? = some (.cells #[.bool s, .int .i64 tn, .bool f] 61) := by rw [hw1]; exact heap_alloc_new _ _
  have hz1 : w1.heap.size = w.heap.size + 1 := by rw [hw1]; simp
  have c1 := cell_of_row w1 w.heap.size 1 _ _ _ hbx
  simp at c1
  have Ho := Lib.hid (own_below ho al)
  have Al := Lib.hid al
  have Hz1 := Lib.hid hz1
  have Hw1 := Lib.hid hw1
  have Hne := Lib.hid (box_ne ho)
  obtain ⟨R, hR⟩ : ∃ R, R = RowPost base (.slice A xs.length c) w (xs ++ encL ⟨s, tn, f⟩) := ⟨_, rfl⟩
  rw [← hR]
  have HR := Lib.hid hR
  obtain ⟨M, hK0⟩ : ∃ M, M = b2 s + 2 * b2 f := ⟨_, rfl⟩
  have hE : encL ⟨s, tn, f⟩ = [M] ++ six tn := by rw [hK0]; rfl
  have HK0 := Lib.hid hK0
  have HE := Lib.hid hE
  have Hnb : Hid (∀ {v' : Value} {w' : World}, RowFr (.slice A xs.length c) w1 v' w' → w'.cell? ⟨w.heap.size, 1, none⟩ = some (.int .i64 tn)) := fun hf => by
    have h1 := hf.1.at_ (i := w.heap.size) (by rw [hw1]; simp) (fun e => box_ne ho e.symm)
    exact (World.cell?_of_block h1).trans c1
  have Hca : Hid (∀ o, (w1.alloc o).cell? ⟨w.heap.size, 1, none⟩ = some (.int .i64 tn)) := fun o => (World.cell?_alloc_lt w1 o ⟨w.heap.size, 1, none⟩ (by rw [hw1]; simp)).trans c1
  clear ho al hbx hz1 hw1 hR ht hK0 hE
  cases s <;> cases f
  all_goals
    go_enter Try.func40, Try.ntmps40
    go_wp2_with fail
    rw [← Hw1.out]
    refine startH (fun w' => w'.cell? ⟨w.heap.size, 1, none⟩ = some (.int .i64 tn)) 8 #[false, false, false, false, false, false, false, false] rfl rfl (by kernel_rfl) ?_ (fun hHeld => ?_)
    · (first | exact c1 | exact Hca.out _ | exact hc3 | exact hc6)
    refine takeH 0 14 #[true, false, false, false, false, false, false, false] (v := ?_) rfl rfl rfl (by kernel_rfl) (by kernel_rfl) (by kernel_rfl) (fun _ _ _ h => h) (Or.inl ⟨by rfl, ?_⟩) hHeld ?_
    rotate_left
    · (intro w' hSw; (try dsimp only at hSw); go_simp; (try with_reducible rfl))
    simp only [List.set_cons_zero, List.set_cons_succ]
    refine takeH 1 15 #[true, true, false, false, false, false, false, false] (v := ?_) rfl rfl rfl (by kernel_rfl) (by kernel_rfl) (by kernel_rfl) (fun _ _ _ h => h) (Or.inl ⟨by rfl, ?_⟩) hHeld ?_
    rotate_left
    · (intro w' hSw; (try dsimp only at hSw); go_simp; (try with_reducible rfl))
    simp only [List.set_cons_zero, List.set_cons_succ]
    refine takeH 4 18 #[true, true, false, false, true, false, false, false] (v := ?_) rfl rfl rfl (by kernel_rfl) (by kernel_rfl) (by kernel_rfl) (fun _ _ _ h => h) (Or.inl ⟨by rfl, ?_⟩) hHeld ?_
    rotate_left
    · (intro w' hSw; (try dsimp only at hSw); go_simp; (try with_reducible rfl))
    simp only [List.set_cons_zero, List.set_cons_succ]
    refine takeH 5 19 #[true, true, false, false, true, true, false, false] (v := ?_) rfl rfl rfl (by kernel_rfl) (by kernel_rfl) (by kernel_rfl) (fun _ _ _ h => h) (Or.inl ⟨by rfl, ?_⟩) hHeld ?_
    rotate_left
    · (intro w' hSw; (try dsimp only at hSw); go_simp; (try with_reducible rfl))
    simp only [List.set_cons_zero, List.set_cons_succ]
    refine branchH 2 16 #[true, true, true, false, true, true, false, false] (by kernel_rfl) rfl rfl rfl (by rfl) (fun K hK => ?_)
    go_simp
    refine hK.out _ _ ?_ (fun hHeld' => ?_)
    · (first | exact c1 | exact Hca.out _ | exact hc3 | exact hc6)
    clear hK K hHeld
    have hHeld := hHeld'
    clear hHeld'
    simp only [List.set_cons_zero, List.set_cons_succ]
    refine branchH 3 17 #[true, true, true, true, true, true, false, false] (by kernel_rfl) rfl rfl rfl (by rfl) (fun K hK => ?_)
    refine wp_bytes (w0 := w1.drew) (.tmp 14) (.tmp 16) rfl base (.slice A xs.length c) xs.length xs Ho.out rfl _ [M] 1 rfl (by rw [HK0.out]; rfl) rfl rfl (by omega) (by have := Hz1.out; show base ≤ w1.heap.size; omega) ?_
    intro v3 w3 hown3 hf3
    have hf3 := (RowFr.of (v := .slice A xs.length c) ((Below.refl _ w1).drew)).trans hf3
    have hc3 := Hnb.out hf3
    obtain ⟨A3, c3, rfl⟩ := own_shape hown3
    have Hown3 : Hid (w3.ownsRow base 5 1 (.slice A3 (xs.length + 1) c3) (xs ++ [M]).length ((xs ++ [M]).map bv)) := by
      show World.ownsRow _ _ _ _ _ _ _
      rw [List.length_append, List.length_singleton]; exact hown3
    have Hf3 := Lib.hid hf3
    clear hown3 hf3
    refine hK.out _ _ ?_ (fun hHeld' => ?_)
    · (first | exact c1 | exact Hca.out _ | exact hc3 | exact hc6)
    clear hK K hHeld
    have hHeld := hHeld'
    clear hHeld'
    simp only [List.set_cons_zero, List.set_cons_succ]
    refine branchH 6 20 #[true, true, true, true, true, true, true, false] (by kernel_rfl) rfl rfl rfl (by rfl) (fun K hK => ?_)
    go_simp
    (go_at_call 41; (with_reducible refine (putTime_any base (.slice A3 (xs.length + 1) c3) (xs ++ [M]) tn _ Hown3.out (Nat.le_trans (by have := Hz1.out; show base ≤ w1.heap.size; omega) (RowFr.size Hf3.out)) ht1 (by rw [List.length_append, List.length_singleton]; omega)).mono ?_))
    rintro e w6 ⟨v6, rfl, hown6, hf6⟩
    have hf16 := Hf3.out.trans hf6
    have hc6 := Hnb.out hf16
    refine hK.out _ _ ?_ (fun hHeld' => ?_)
    · (first | exact c1 | exact Hca.out _ | exact hc3 | exact hc6)
    clear hK K hHeld
    have hHeld := hHeld'
    clear hHeld'
    simp only [List.set_cons_zero, List.set_cons_succ]
    refine takeH 7 4 #[true, true, true, true, true, true, true, true] (v := ?_) rfl rfl rfl (by kernel_rfl) (by kernel_rfl) (by kernel_rfl) (fun _ _ _ h => h) (Or.inl ⟨by rfl, ?_⟩) hHeld ?_
    rotate_left
    · (intro w' hSw; (try dsimp only at hSw); go_simp; (try with_reducible rfl))
    simp only [List.set_cons_zero, List.set_cons_succ]
    refine wpAnyH_done (by kernel_rfl) ?_ _
    refine NoPanic.normal ?_
    go_wp2_with fail
    rw [HR.out, HE.out, ← List.append_assoc]
    exact ⟨_, rfl, hown6, (RowFr.of Al.out).trans hf16⟩
set_option maxHeartbeats 4000000 in
theorem putNote_any (base : Nat) (v : Value) (xs : List Nat) (x : Nt) (w : World) (ho : w.ownsRow base 5 1 v xs.length (xs.map bv)) (hb : base ≤ w.heap.size) (ht : okN x) (hx : xs.length ≤ 10000) :
    Calls Try.prog 42 #[v, .agg #[.int .i64 x.kind, .int .i64 x.who, .int .i64 x.at_]] w (RowPost base v w (xs ++ encN x)) := by
  obtain ⟨k, o, t⟩ := x
  obtain ⟨A, c, rfl⟩ := own_shape ho
  unfold okN okT at ht
  dsimp only at ht
  obtain ⟨tn, rfl⟩ : ∃ tn : Nat, t = (tn : Int) := ⟨t.toNat, by omega⟩
  obtain ⟨kn, rfl⟩ : ∃ kn : Nat, k = (kn : Int) := ⟨k.toNat, by omega⟩
  obtain ⟨on, rfl⟩ : ∃ on : Nat, o = (on : Int) := ⟨o.toNat, by omega⟩
  have ht1 : tn ≤ 2199023255552 := by omega
  have hk0 : (0 : Int) ≤ (kn : Int) := by omega
  have hk7 : (kn : Int) ≤ 7 := by omega
  have ho0 : (0 : Int) ≤ (on : Int) := by omega
  have ho7 : (on : Int) ≤ 255 := by omega
  have al : Below w.heap.size w (w.alloc (.cells #[.int .i64 kn, .int .i64 on, .int .i64 tn] 54)) := (Below.refl _ _).alloc (Nat.le_refl _) _
  obtain ⟨w1, hw1⟩ : ∃ x, x = w.alloc (.cells #[.int .i64 kn, .int .i64 on, .int .i64 tn] 54) := ⟨_, rfl⟩
  rw [← hw1] at al
  have hbx : w1.heap[w.heap.size]? = some (.cells #[.int .i64 kn, .int .i64 on, .int .i64 tn] 54) := by rw [hw1]; exact heap_alloc_new _ _
  have hz1 : w1.heap.size = w.heap.size + 1 := by rw [hw1]; simp
  have c0 := cell_of_row w1 w.heap.size 0 _ _ _ hbx
  have c1 := cell_of_row w1 w.heap.size 1 _ _ _ hbx
  have c2 := cell_of_row w1 w.heap.size 2 _ _ _ hbx
  simp at c0 c1 c2
  have hS : w1.cell? ⟨w.heap.size, 0, none⟩ = some (.int .i64 kn) ∧ w1.cell? ⟨w.heap.size, 1, none⟩ = some (.int .i64 on) ∧ w1.cell? ⟨w.heap.size, 2, none⟩ = some (.int .i64 tn) := ⟨c0, c1, c2⟩
  have Ho := Lib.hid (own_below ho al)
  have Al := Lib.hid al
  have Hz1 := Lib.hid hz1
  have Hw1 := Lib.hid hw1
  obtain ⟨R, hR⟩ : ∃ R, R = RowPost base (.slice A xs.length c) w (xs ++ encN ⟨kn, on, tn⟩) := ⟨_, rfl⟩
  rw [← hR]
  have HR := Lib.hid hR
  have hE : encN ⟨kn, on, tn⟩ = [kn, on] ++ six tn := rfl
  have HE := Lib.hid hE
  have Hnb : Hid (∀ {v' : Value} {w' : World}, RowFr (.slice A xs.length c) w1 v' w' → w'.cell? ⟨w.heap.size, 0, none⟩ = some (.int .i64 kn) ∧ w'.cell? ⟨w.heap.size, 1, none⟩ = some (.int .i64 on) ∧ w'.cell? ⟨w.heap.size, 2, none⟩ = some (.int .i64 tn)) := fun hf => by
    have h1 := hf.1.at_ (i := w.heap.size) (by rw [hw1]; simp) (fun e => box_ne ho e.symm)
    exact ⟨(World.cell?_of_block h1).trans c0, (World.cell?_of_block h1).trans c1, (World.cell?_of_block h1).trans c2⟩
  have Hca : Hid (∀ o, (w1.alloc o).cell? ⟨w.heap.size, 0, none⟩ = some (.int .i64 kn) ∧ (w1.alloc o).cell? ⟨w.heap.size, 1, none⟩ = some (.int .i64 on) ∧ (w1.alloc o).cell? ⟨w.heap.size, 2, none⟩ = some (.int .i64 tn)) := fun o =>
    ⟨(World.cell?_alloc_lt w1 o ⟨w.heap.size, 0, none⟩ (by rw [hw1]; simp)).trans c0, (World.cell?_alloc_lt w1 o ⟨w.heap.size, 1, none⟩ (by rw [hw1]; simp)).trans c1, (World.cell?_alloc_lt w1 o ⟨w.heap.size, 2, none⟩ (by rw [hw1]; simp)).trans c2⟩
  have HWk : Hid (IntKind.u8.wrap (kn : Int) = (kn : Int)) := by show _ = _; rw [IntKind.wrap_u8]; omega
  have HWo : Hid (IntKind.u8.wrap (on : Int) = (on : Int)) := by show _ = _; rw [IntKind.wrap_u8]; omega
  have HS := Lib.hid hS
  clear ho al hbx hz1 hw1 hR ht hE c0 c1 c2 hS
  go_enter Try.func42, Try.ntmps42
  go_wp2_with fail
  rw [← Hw1.out]
  refine startH (fun w' => w'.cell? ⟨w.heap.size, 0, none⟩ = some (.int .i64 kn) ∧ w'.cell? ⟨w.heap.size, 1, none⟩ = some (.int .i64 on) ∧ w'.cell? ⟨w.heap.size, 2, none⟩ = some (.int .i64 tn)) 13 #[false, false, false, false, false, false, false, false, false, false, false, false, false] rfl rfl (by kernel_rfl) ?_ (fun hHeld => ?_)
  · (first | exact HS.out | exact Hca.out _ | exact hc3 | exact hc6)
  refine takeH 0 5 #[true, false, false, false, false, false, false, false, false, false, false, false, false] (v := ?_) rfl rfl rfl (by kernel_rfl) (by kernel_rfl) (by kernel_rfl) (fun _ _ _ h => h) (Or.inl ⟨by rfl, ?_⟩) hHeld ?_
  rotate_left
  · (intro w' hSw; (try dsimp only at hSw); go_simp; (try with_reducible rfl))
  simp only [List.set_cons_zero, List.set_cons_succ]
  refine takeH 1 6 #[true, true, false, false, false, false, false, false, false, false, false, false, false] (v := ?_) rfl rfl rfl (by kernel_rfl) (by kernel_rfl) (by kernel_rfl) (fun _ _ _ h => h) (Or.inl ⟨by rfl, ?_⟩) hHeld ?_
  rotate_left
  · (intro w' hSw; (try dsimp only at hSw); go_simp; (try with_reducible rfl))
  simp only [List.set_cons_zero, List.set_cons_succ]
  refine takeH 2 7 #[true, true, true, false, false, false, false, false, false, false, false, false, false] (v := ?_) rfl rfl rfl (by kernel_rfl) (by kernel_rfl) (by kernel_rfl) (fun _ _ _ h => h) (Or.inl ⟨by rfl, ?_⟩) hHeld ?_
  rotate_left
  · (intro w' hSw; (try dsimp only at hSw); go_simp; (try with_reducible rfl))
  simp only [List.set_cons_zero, List.set_cons_succ]
  refine takeH 3 8 #[true, true, true, true, false, false, false, false, false, false, false, false, false] (v := ?_) rfl rfl rfl (by kernel_rfl) (by kernel_rfl) (by kernel_rfl) (fun _ _ _ h => h) (Or.inl ⟨by rfl, ?_⟩) hHeld ?_
  rotate_left
  · (intro w' hSw; (try dsimp only at hSw); go_simp; (try with_reducible rfl))
  simp only [List.set_cons_zero, List.set_cons_succ]
  refine takeH 4 9 #[true, true, true, true, true, false, false, false, false, false, false, false, false] (v := ?_) rfl rfl rfl (by kernel_rfl) (by kernel_rfl) (by kernel_rfl) (fun _ _ _ h => h) (Or.inl ⟨by rfl, ?_⟩) hHeld ?_
  rotate_left
  · (intro w' hSw; (try dsimp only at hSw); go_simp; (try with_reducible rfl))
  simp only [List.set_cons_zero, List.set_cons_succ]
  refine takeH 5 10 #[true, true, true, true, true, true, false, false, false, false, false, false, false] (v := ?_) rfl rfl rfl (by kernel_rfl) (by kernel_rfl) (by kernel_rfl) (fun _ _ _ h => h) (Or.inl ⟨by rfl, ?_⟩) hHeld ?_
  rotate_left
  · (intro w' hSw; (try dsimp only at hSw); go_simp; (try with_reducible rfl))
  simp only [List.set_cons_zero, List.set_cons_succ]
  refine takeH 6 11 #[true, true, true, true, true, true, true, false, false, false, false, false, false] (v := ?_) rfl rfl rfl (by kernel_rfl) (by kernel_rfl) (by kernel_rfl) (fun _ _ _ h => h) (Or.inl ⟨by rfl, ?_⟩) hHeld ?_
  rotate_left
  · (intro w' hSw; (try dsimp only at hSw); go_simp; (try with_reducible rfl))
  simp only [List.set_cons_zero, List.set_cons_succ]
  refine takeH 9 14 #[true, true, true, true, true, true, true, false, false, true, false, false, false] (v := ?_) rfl rfl rfl (by kernel_rfl) (by kernel_rfl) (by kernel_rfl) (fun _ _ _ h => h) (Or.inl ⟨by rfl, ?_⟩) hHeld ?_
  rotate_left
  · (intro w' hSw; (try dsimp only at hSw); go_simp; (try with_reducible rfl))
  simp only [List.set_cons_zero, List.set_cons_succ]
  refine takeH 10 15 #[true, true, true, true, true, true, true, false, false, true, true, false, false] (v := ?_) rfl rfl rfl (by kernel_rfl) (by kernel_rfl) (by kernel_rfl) (fun _ _ _ h => h) (Or.inl ⟨by rfl, ?_⟩) hHeld ?_
  rotate_left
  · (intro w' hSw; (try dsimp only at hSw); go_simp; (try with_reducible rfl))
  simp only [List.set_cons_zero, List.set_cons_succ]
  refine branchH 7 12 #[true, true, true, true, true, true, true, true, false, true, true, false, false] (by kernel_rfl) rfl rfl rfl (by rfl) (fun K hK => ?_)
  go_simp
  refine hK.out _ _ ?_ (fun hHeld' => ?_)
  · (first | exact HS.out | exact Hca.out _ | exact hc3 | exact hc6)
  clear hK K hHeld
  have hHeld := hHeld'
  clear hHeld'
  simp only [List.set_cons_zero, List.set_cons_succ]
  refine branchH 8 13 #[true, true, true, true, true, true, true, true, true, true, true, false, false] (by kernel_rfl) rfl rfl rfl (by rfl) (fun K hK => ?_)
  refine wp_bytes (w0 := w1.drew) (.tmp 5) (.tmp 12) rfl base (.slice A xs.length c) xs.length xs Ho.out rfl _ [kn, on] 2 rfl (by rw [HWk.out, HWo.out]; rfl) rfl rfl (by omega) (by have := Hz1.out; show base ≤ w1.heap.size; omega) ?_
  intro v3 w3 hown3 hf3
  have hf3 := (RowFr.of (v := .slice A xs.length c) ((Below.refl _ w1).drew)).trans hf3
  have hc3 := Hnb.out hf3
  obtain ⟨A3, c3, rfl⟩ := own_shape hown3
  have Hown3 : Hid (w3.ownsRow base 5 1 (.slice A3 (xs.length + 2) c3) (xs ++ [kn, on]).length ((xs ++ [kn, on]).map bv)) := by
    show World.ownsRow _ _ _ _ _ _ _
    rw [List.length_append]; exact hown3
  have Hf3 := Lib.hid hf3
  clear hown3 hf3
  refine hK.out _ _ ?_ (fun hHeld' => ?_)
  · (first | exact HS.out | exact Hca.out _ | exact hc3 | exact hc6)
  clear hK K hHeld
  have hHeld := hHeld'
  clear hHeld'
  simp only [List.set_cons_zero, List.set_cons_succ]
  refine branchH 11 16 #[true, true, true, true, true, true, true, true, true, true, true, true, false] (by kernel_rfl) rfl rfl rfl (by rfl) (fun K hK => ?_)
  go_simp
  (go_at_call 41; (with_reducible refine (putTime_any base (.slice A3 (xs.length + 2) c3) (xs ++ [kn, on]) tn _ Hown3.out (Nat.le_trans (by have := Hz1.out; show base ≤ w1.heap.size; omega) (RowFr.size Hf3.out)) ht1 (by rw [List.length_append]; simp only [List.length_cons, List.length_nil]; omega)).mono ?_))
  rintro e w6 ⟨v6, rfl, hown6, hf6⟩
  have hf16 := Hf3.out.trans hf6
  have hc6 := Hnb.out hf16
  refine hK.out _ _ ?_ (fun hHeld' => ?_)
  · (first | exact HS.out | exact Hca.out _ | exact hc3 | exact hc6)
  clear hK K hHeld
  have hHeld := hHeld'
  clear hHeld'
  simp only [List.set_cons_zero, List.set_cons_succ]
  refine takeH 12 4 #[true, true, true, true, true, true, true, true, true, true, true, true, true] (v := ?_) rfl rfl rfl (by kernel_rfl) (by kernel_rfl) (by kernel_rfl) (fun _ _ _ h => h) (Or.inl ⟨by rfl, ?_⟩) hHeld ?_
  rotate_left
  · (intro w' hSw; (try dsimp only at hSw); go_simp; (try with_reducible rfl))
  simp only [List.set_cons_zero, List.set_cons_succ]
  refine wpAnyH_done (by kernel_rfl) ?_ _
  refine NoPanic.normal ?_
  go_wp2_with fail
  rw [HR.out, HE.out, ← List.append_assoc]
  exact ⟨_, rfl, hown6, (RowFr.of Al.out).trans hf16⟩
end Go.Proofs.Ytcdgaeenfhpnkaa
