/- New, of the reference's disk. -/
import Derived.Test.YtonbfolgdfkgnaaRefF
set_option linter.unusedVariables false
set_option linter.unusedSimpArgs false
set_option maxRecDepth 100000
namespace Go.Proofs.Ytonbfolgdfkgnaa
open Go Go.RowKit

theorem info_str : (Try.prog.info? 9).map (fun i => (i.zero, i.size, i.bytes)) = some (some (.string ⟨#[]⟩), 1, 16) := by kernel_rfl
def rz : List Nat := List.replicate 64 0
def rowX (v : Value) : Obj := .cells #[v, .bool false, .int .i64 (-1), .int .i64 0, .int .i64 0, .int .i64 (-1), .string ⟨#[]⟩, .string ⟨#[]⟩] 49
theorem rows_snoc (j : Nat) : (List.replicate j rz).map sv ++ [sv rz] = (List.replicate (j + 1) rz).map sv := by
  rw [List.replicate_succ', List.map_append]; rfl
theorem rnew_close {w w' : World} {U : Nat → Prop} {m : Int} {n : Nat} {v : Value} (hU : ∀ k, U k → k < w.heap.size) (hn : min (max m 1) 256 = (n : Int)) (hrr : w'.heap[w.heap.size]? = some (rowX v)) (hor : w'.ownsRow (w.heap.size + 1) 9 1 v n ((List.replicate n rz).map sv)) (hs : w.heap.size < w'.heap.size) :
    ∃ g, w.heap.size < g ∧ HR w' U w.heap.size g (DD.fresh m) := by
  have hl : (DD.fresh m).L = List.replicate n rz := by unfold DD.fresh; rw [hn]; rfl
  rcases hor.2 with ⟨rfl, h0⟩ | ⟨g, cap, cur, rfl, hbg, hg, hnc, hmax, hcs, htake⟩
  · have := hn; omega
  · refine ⟨g, by omega, ⟨cap, -1, 0, -1, ⟨#[]⟩, ⟨#[]⟩, cur.toList.drop n⟩, ⟨ok_fresh m, fun k hk => by have := hU k hk; omega, by omega, fun hk => by have := hU _ hk; omega, fun hk => by have := hU _ hk; omega, ?_, ?_, by rw [hl]; simpa using hnc, Nat.zero_le _, fun _ => rfl, fun a b e => by cases e⟩⟩
    · rw [hrr, hl]; simp [rowX, DD.fresh]
    · rw [hg, hl, ← htake, Nat.mul_one, List.take_append_drop]
set_option maxHeartbeats 2000000 in
theorem rnew_any (U : Nat → Prop) (w : World) (m : Int) (hU : ∀ k, U k → k < w.heap.size) :
    Calls Try.prog 10 #[.int .i64 m] w fun e w' => e = .returned (.pointer (some ⟨w.heap.size, 0, none⟩)) ∧ (∃ g, w.heap.size < g ∧ HR w' U w.heap.size g (DD.fresh m)) ∧ Below w.heap.size w w' := by
  obtain ⟨n, hn⟩ : ∃ n : Nat, min (max m 1) 256 = (n : Int) := ⟨(min (max m 1) 256).toNat, by omega⟩
  have hn1 : 1 ≤ n := by omega
  have hn2 : n ≤ 256 := by omega
  obtain ⟨i0, hi, hz0, hz1, hz2⟩ := info_parts info_str
  obtain ⟨S, hS⟩ : ∃ S : ByteArray, sv (List.replicate 64 0) = .string S := ⟨_, rfl⟩
  have HS := Lib.hid hS
  have Hn := Lib.hid hn
  have Hi := Lib.hid hi
  have HU := Lib.hid hU
  clear hn hi hU hS
  go_enter Try.func10, Try.ntmps10
  go_wp2_with fail
  have hr0 : (w.alloc (rowX (.slice none 0 0))).heap[w.heap.size]? = some (rowX (.slice none 0 0)) := heap_alloc_new w _
  have ho0 : (w.alloc (rowX (.slice none 0 0))).ownsRow (w.heap.size + 1) 9 1 (.slice none 0 0) 0 ((List.replicate 0 rz).map sv) := World.ownsRow_nil _ _ _ _
  have hb0 : Below w.heap.size w (w.alloc (rowX (.slice none 0 0))) := (Below.refl _ _).alloc (Nat.le_refl _) _
  have hz0' : w.heap.size < (w.alloc (rowX (.slice none 0 0))).heap.size := by rw [World.size_alloc]; omega
  go_loopg [4] n (fun q i wr => ∃ (j : Nat) (v : Value), q + j = n ∧ i = .int .i64 j ∧ wr.heap[w.heap.size]? = some (rowX v) ∧ wr.ownsRow (w.heap.size + 1) 9 1 v j ((List.replicate j rz).map sv) ∧ Below w.heap.size w wr ∧ w.heap.size < wr.heap.size)
  case atStart => exact ⟨0, _, by omega, rfl, hr0, ho0, hb0, hz0'⟩
  case round =>
    obtain ⟨j, v, hj, rfl, hrr, hor, hbr, hzr⟩ := hrel
    clear hr0 ho0 hb0 hz0'
    have hi0 : (0 : Int) ≤ (j : Int) := by omega
    have hjn : j ≤ 256 := by omega
    have Hor := Lib.hid hor
    have Hrr := Lib.hid hrr
    have c0 := cell_of_row wr w.heap.size 0 _ _ _ hrr
    have f0 := frozen_of_row wr w.heap.size 0 _ _ hrr
    simp at c0
    have ho9 : Hid (∀ wn w7 : World, Below wr.heap.size wr wn → wn.grownBy w7 v.ownBlock → w7.heap[w.heap.size]? = some (rowX v)) := fun wn w7 h1 h2 => by
      rw [h2.block _ (by have := h1.size; omega) (fun e => ?_), h1.block _ hzr]
      · exact Hrr.out
      · have := (hor.lt _ e.symm).1; omega
    clear hor hrr
    have Hst : Hid (∀ (wn w7 : World) (A : Option Addr) (c : Nat), (∀ k, v.ownBlock = some k → w.heap.size + 1 ≤ k) → Below wr.heap.size wr wn → wn.grownBy w7 v.ownBlock → w7.ownsRow (w.heap.size + 1) 9 1 (.slice A (j + 1) c) (j + 1) ((List.replicate (j + 1) rz).map sv) →
        (w7.setCell ⟨w.heap.size, 0, none⟩ (.slice A (j + 1) c)).heap[w.heap.size]? = some (rowX (.slice A (j + 1) c)) ∧ (w7.setCell ⟨w.heap.size, 0, none⟩ (.slice A (j + 1) c)).ownsRow (w.heap.size + 1) 9 1 (.slice A (j + 1) c) (j + 1) ((List.replicate (j + 1) rz).map sv) ∧
        Below w.heap.size w (w7.setCell ⟨w.heap.size, 0, none⟩ (.slice A (j + 1) c)) ∧ w.heap.size < (w7.setCell ⟨w.heap.size, 0, none⟩ (.slice A (j + 1) c)).heap.size) := fun wn w7 A c h0 h1 h2 h3 => by
      have hr7 := ho9.out _ _ h1 h2
      refine ⟨?_, ?_, ?_, ?_⟩
      · have := heap_set_same (j := 0) (.slice A (j + 1) c) hr7
        simpa [rowX] using this
      · refine h3.kept (row := some w.heap.size) ⟨rfl, rfl, rfl, by simp [World.setCell], fun k hk hne => Below.heap_setCell _ _ _ _ (fun e => hne (by rw [e]))⟩ (.inr fun e => ?_)
        have := (h3.lt _ e).1; omega
      · exact ((hbr.trans (h1.mono hbr.size)).grown h2 (by have := h1.size; have := hbr.size; omega) (fun k hk => by have := h0 k hk; omega)).setCell (Nat.le_refl _) _
      · have := h2.size; have := h1.size; simp [World.setCell]; omega
    by_cases hlt : j < n
    · have go : m < 1 ∧ (j : Int) < 1 ∨ (1 ≤ m ∧ m ≤ 256) ∧ (j : Int) < m ∨ 256 < m ∧ (j : Int) < 256 := by have := Hn.out; omega
      rcases go with ⟨m1, j1⟩ | ⟨⟨m1, m2⟩, j1⟩ | ⟨m1, j1⟩
      all_goals
        go_wp2_with fail
        refine startH (fun _ => True) 11 #[false, false, false, false, false, false, false, false, false, false, false] rfl rfl (by kernel_rfl) ?_ (fun hHeld => ?_)
        · (trivial)
        refine takeH 0 14 #[true, false, false, false, false, false, false, false, false, false, false] (v := ?_) rfl rfl rfl (by kernel_rfl) (by kernel_rfl) (by kernel_rfl) (fun _ _ _ h => h) (Or.inl ⟨by rfl, ?_⟩) hHeld ?_
        rotate_left
        · (intro w' hSw; (try dsimp only at hSw); go_simp; (try with_reducible rfl))
        simp only [List.set_cons_zero, List.set_cons_succ]
        refine takeH 1 15 #[true, true, false, false, false, false, false, false, false, false, false] (v := ?_) rfl rfl rfl (by kernel_rfl) (by kernel_rfl) (by kernel_rfl) (fun _ _ _ h => h) (Or.inl ⟨by rfl, ?_⟩) hHeld ?_
        rotate_left
        · (intro w' hSw; (try dsimp only at hSw); go_simp; (try with_reducible rfl))
        simp only [List.set_cons_zero, List.set_cons_succ]
        refine takeH 2 16 #[true, true, true, false, false, false, false, false, false, false, false] (v := ?_) rfl rfl rfl (by kernel_rfl) (by kernel_rfl) (by kernel_rfl) (fun _ _ _ h => h) (Or.inl ⟨by rfl, ?_⟩) hHeld ?_
        rotate_left
        · (intro w' hSw; (try dsimp only at hSw); go_simp; (try with_reducible rfl))
        simp only [List.set_cons_zero, List.set_cons_succ]
        refine takeH 3 17 #[true, true, true, true, false, false, false, false, false, false, false] (v := ?_) rfl rfl rfl (by kernel_rfl) (by kernel_rfl) (by kernel_rfl) (fun _ _ _ h => h) (Or.inl ⟨by rfl, ?_⟩) hHeld ?_
        rotate_left
        · (intro w' hSw; (try dsimp only at hSw); go_simp; (try with_reducible rfl))
        simp only [List.set_cons_zero, List.set_cons_succ]
        refine wpAnyH_ready (rs := [4, 5]) (by kernel_rfl) (by simp) ?_
        refine (consH 4 18 #[true, true, true, true, true, false, false, false, false, false, false] rfl rfl rfl (by rfl) (fun K hK => ?_) (consH 5 19 #[true, true, true, true, false, true, false, false, false, false, false] rfl rfl rfl (by rfl) (fun K hK => ?_) AllReadyH.nil))
        · go_simp
          refine hK.out _ _ ?_ (fun hHeld' => ?_)
          · (trivial)
          clear hK K hHeld
          have hHeld := hHeld'
          clear hHeld'
          simp only [List.set_cons_zero, List.set_cons_succ]
          refine branchH 5 19 #[true, true, true, true, true, true, false, false, false, false, false] (by kernel_rfl) rfl rfl rfl (by rfl) (fun K hK => ?_)
          go_simp
          (go_at_call 26; (with_reducible refine (zeros_any _ 64 64 rfl (by decide)).mono ?_))
          rintro e w5 ⟨rfl, hb5⟩
          rw [HS.out]
          have hB5 : Below wr.heap.size wr w5 := ((Below.refl _ wr).drew).trans hb5
          have h5r : w5.heap[w.heap.size]? = some (rowX v) := (hB5.block _ hzr).trans Hrr.out
          have hz5 : w.heap.size < w5.heap.size := Nat.lt_of_lt_of_le hzr hB5.size
          have c5 := cell_of_row w5 w.heap.size 0 _ _ _ h5r
          simp at c5
          refine hK.out _ _ ?_ (fun hHeld' => ?_)
          · (trivial)
          clear hK K hHeld
          have hHeld := hHeld'
          clear hHeld'
          simp only [List.set_cons_zero, List.set_cons_succ]
          refine branchH 6 20 #[true, true, true, true, true, true, true, false, false, false, false] (by kernel_rfl) rfl rfl rfl (by rfl) (fun K hK => ?_)
          go_simp
          refine hK.out _ _ ?_ (fun hHeld' => ?_)
          · (trivial)
          clear hK K hHeld
          have hHeld := hHeld'
          clear hHeld'
          simp only [List.set_cons_zero, List.set_cons_succ]
          refine branchH 7 21 #[true, true, true, true, true, true, true, true, false, false, false] (by kernel_rfl) rfl rfl rfl (by rfl) (fun K hK => ?_)
          have hB6 : Below wr.heap.size wr (w5.alloc (.cells #[.string S] 9)) := hB5.alloc hB5.size _
          refine wp_app _ (.tmp 18) (.tmp 20) 47 rfl (w.heap.size + 1) 9 i0 (.string ⟨#[]⟩) 1 16 Try.underlying47 Hi.out hz0 hz1 hz2 rfl (by decide) v j _ rfl (own_below Hor.out hB6) (w5.heap.size + 1) (some ⟨w5.heap.size, 0, none⟩) 1 1 [.string S] rfl (rd_new w5 [.string S] 9 1 1 rfl) (by simp [Value.oneCell']) (by unfold maxLen; omega) (by omega) (by rw [World.size_alloc]; omega) ?_
          intro v7 w7 hown7 hg7 hat7
          have h7r := ho9.out _ _ hB6 hg7
          obtain ⟨A7, cc7, rfl⟩ := own_shape hown7
          have c7 := cell_of_row w7 w.heap.size 0 _ _ _ h7r
          simp at c7
          have f7 := frozen_of_row w7 w.heap.size 0 _ _ h7r
          refine hK.out _ _ ?_ (fun hHeld' => ?_)
          · (trivial)
          clear hK K hHeld
          have hHeld := hHeld'
          clear hHeld'
          simp only [List.set_cons_zero, List.set_cons_succ]
          refine takeH 8 22 #[true, true, true, true, true, true, true, true, true, false, false] (v := ?_) rfl rfl rfl (by kernel_rfl) (by kernel_rfl) (by kernel_rfl) (fun _ _ _ h => h) (Or.inl ⟨by rfl, ?_⟩) hHeld ?_
          rotate_left
          · (intro w' hSw; (try dsimp only at hSw); go_simp; (try with_reducible rfl))
          simp only [List.set_cons_zero, List.set_cons_succ]
          refine takeH 9 23 #[true, true, true, true, true, true, true, true, true, true, false] (v := ?_) rfl rfl rfl (by kernel_rfl) (by kernel_rfl) (by kernel_rfl) (fun _ _ _ h => h) (Or.inl ⟨by rfl, ?_⟩) hHeld ?_
          rotate_left
          · (intro w' hSw; (try dsimp only at hSw); go_simp; (try with_reducible rfl))
          simp only [List.set_cons_zero, List.set_cons_succ]
          refine branchN 10 #[true, true, true, true, true, true, true, true, true, true, true] (by kernel_rfl) rfl rfl rfl (by rfl) (fun K hK => ?_)
          go_simp
          first | refine hK.out undef _ ?_ (fun hHeld' => ?_) | refine hK.out _ _ ?_ (fun hHeld' => ?_)
          · (trivial)
          clear hK K hHeld
          have hHeld := hHeld'
          clear hHeld'
          try simp only [List.set_cons_zero, List.set_cons_succ]
          refine wpAnyH_done (by kernel_rfl) ?_ _
          refine NoPanic.normal ?_
          have hown7' : w7.ownsRow (w.heap.size + 1) 9 1 (.slice A7 (j + 1) cc7) (j + 1) ((List.replicate (j + 1) rz).map sv) := by
            rw [← rows_snoc]
            have hse : sv rz = .string S := HS.out
            rw [hse]; exact hown7
          obtain ⟨hA, hB, hC, hD⟩ := Hst.out _ _ _ _ (fun k hk => (Hor.out.lt k hk).1) hB6 hg7 hown7'
          go_wp2_with fail
          go_roundg (gk - 1)
          case measure => omega
          case rel => exact ⟨j + 1, _, by omega, by go_num, hA, hB, hC, hD⟩
        · go_simp
          (go_at_call 26; (with_reducible refine (zeros_any _ 64 64 rfl (by decide)).mono ?_))
          rintro e w5 ⟨rfl, hb5⟩
          rw [HS.out]
          have hB5 : Below wr.heap.size wr w5 := ((Below.refl _ wr).drew).trans hb5
          have h5r : w5.heap[w.heap.size]? = some (rowX v) := (hB5.block _ hzr).trans Hrr.out
          have hz5 : w.heap.size < w5.heap.size := Nat.lt_of_lt_of_le hzr hB5.size
          have c5 := cell_of_row w5 w.heap.size 0 _ _ _ h5r
          simp at c5
          refine hK.out _ _ ?_ (fun hHeld' => ?_)
          · (trivial)
          clear hK K hHeld
          have hHeld := hHeld'
          clear hHeld'
          simp only [List.set_cons_zero, List.set_cons_succ]
          refine wpAnyH_ready (rs := [4, 6]) (by kernel_rfl) (by simp) ?_
          refine (consH 4 18 #[true, true, true, true, true, true, false, false, false, false, false] rfl rfl rfl (by rfl) (fun K hK => ?_) (consH 6 20 #[true, true, true, true, false, true, true, false, false, false, false] rfl rfl rfl (by rfl) (fun K hK => ?_) AllReadyH.nil))
          · go_simp
            refine hK.out _ _ ?_ (fun hHeld' => ?_)
            · (trivial)
            clear hK K hHeld
            have hHeld := hHeld'
            clear hHeld'
            simp only [List.set_cons_zero, List.set_cons_succ]
            refine branchH 6 20 #[true, true, true, true, true, true, true, false, false, false, false] (by kernel_rfl) rfl rfl rfl (by rfl) (fun K hK => ?_)
            go_simp
            refine hK.out _ _ ?_ (fun hHeld' => ?_)
            · (trivial)
            clear hK K hHeld
            have hHeld := hHeld'
            clear hHeld'
            simp only [List.set_cons_zero, List.set_cons_succ]
            refine branchH 7 21 #[true, true, true, true, true, true, true, true, false, false, false] (by kernel_rfl) rfl rfl rfl (by rfl) (fun K hK => ?_)
            have hB6 : Below wr.heap.size wr (w5.alloc (.cells #[.string S] 9)) := hB5.alloc hB5.size _
            refine wp_app _ (.tmp 18) (.tmp 20) 47 rfl (w.heap.size + 1) 9 i0 (.string ⟨#[]⟩) 1 16 Try.underlying47 Hi.out hz0 hz1 hz2 rfl (by decide) v j _ rfl (own_below Hor.out hB6) (w5.heap.size + 1) (some ⟨w5.heap.size, 0, none⟩) 1 1 [.string S] rfl (rd_new w5 [.string S] 9 1 1 rfl) (by simp [Value.oneCell']) (by unfold maxLen; omega) (by omega) (by rw [World.size_alloc]; omega) ?_
            intro v7 w7 hown7 hg7 hat7
            have h7r := ho9.out _ _ hB6 hg7
            obtain ⟨A7, cc7, rfl⟩ := own_shape hown7
            have c7 := cell_of_row w7 w.heap.size 0 _ _ _ h7r
            simp at c7
            have f7 := frozen_of_row w7 w.heap.size 0 _ _ h7r
            refine hK.out _ _ ?_ (fun hHeld' => ?_)
            · (trivial)
            clear hK K hHeld
            have hHeld := hHeld'
            clear hHeld'
            simp only [List.set_cons_zero, List.set_cons_succ]
            refine takeH 8 22 #[true, true, true, true, true, true, true, true, true, false, false] (v := ?_) rfl rfl rfl (by kernel_rfl) (by kernel_rfl) (by kernel_rfl) (fun _ _ _ h => h) (Or.inl ⟨by rfl, ?_⟩) hHeld ?_
            rotate_left
            · (intro w' hSw; (try dsimp only at hSw); go_simp; (try with_reducible rfl))
            simp only [List.set_cons_zero, List.set_cons_succ]
            refine takeH 9 23 #[true, true, true, true, true, true, true, true, true, true, false] (v := ?_) rfl rfl rfl (by kernel_rfl) (by kernel_rfl) (by kernel_rfl) (fun _ _ _ h => h) (Or.inl ⟨by rfl, ?_⟩) hHeld ?_
            rotate_left
            · (intro w' hSw; (try dsimp only at hSw); go_simp; (try with_reducible rfl))
            simp only [List.set_cons_zero, List.set_cons_succ]
            refine branchN 10 #[true, true, true, true, true, true, true, true, true, true, true] (by kernel_rfl) rfl rfl rfl (by rfl) (fun K hK => ?_)
            go_simp
            first | refine hK.out undef _ ?_ (fun hHeld' => ?_) | refine hK.out _ _ ?_ (fun hHeld' => ?_)
            · (trivial)
            clear hK K hHeld
            have hHeld := hHeld'
            clear hHeld'
            try simp only [List.set_cons_zero, List.set_cons_succ]
            refine wpAnyH_done (by kernel_rfl) ?_ _
            refine NoPanic.normal ?_
            have hown7' : w7.ownsRow (w.heap.size + 1) 9 1 (.slice A7 (j + 1) cc7) (j + 1) ((List.replicate (j + 1) rz).map sv) := by
              rw [← rows_snoc]
              have hse : sv rz = .string S := HS.out
              rw [hse]; exact hown7
            obtain ⟨hA, hB, hC, hD⟩ := Hst.out _ _ _ _ (fun k hk => (Hor.out.lt k hk).1) hB6 hg7 hown7'
            go_wp2_with fail
            go_roundg (gk - 1)
            case measure => omega
            case rel => exact ⟨j + 1, _, by omega, by go_num, hA, hB, hC, hD⟩
          · go_simp
            refine hK.out _ _ ?_ (fun hHeld' => ?_)
            · (trivial)
            clear hK K hHeld
            have hHeld := hHeld'
            clear hHeld'
            simp only [List.set_cons_zero, List.set_cons_succ]
            refine branchH 4 18 #[true, true, true, true, true, true, true, false, false, false, false] (by kernel_rfl) rfl rfl rfl (by rfl) (fun K hK => ?_)
            go_simp
            refine hK.out _ _ ?_ (fun hHeld' => ?_)
            · (trivial)
            clear hK K hHeld
            have hHeld := hHeld'
            clear hHeld'
            simp only [List.set_cons_zero, List.set_cons_succ]
            refine branchH 7 21 #[true, true, true, true, true, true, true, true, false, false, false] (by kernel_rfl) rfl rfl rfl (by rfl) (fun K hK => ?_)
            have hB6 : Below wr.heap.size wr (w5.alloc (.cells #[.string S] 9)) := hB5.alloc hB5.size _
            refine wp_app _ (.tmp 18) (.tmp 20) 47 rfl (w.heap.size + 1) 9 i0 (.string ⟨#[]⟩) 1 16 Try.underlying47 Hi.out hz0 hz1 hz2 rfl (by decide) v j _ rfl (own_below Hor.out hB6) (w5.heap.size + 1) (some ⟨w5.heap.size, 0, none⟩) 1 1 [.string S] rfl (rd_new w5 [.string S] 9 1 1 rfl) (by simp [Value.oneCell']) (by unfold maxLen; omega) (by omega) (by rw [World.size_alloc]; omega) ?_
            intro v7 w7 hown7 hg7 hat7
            have h7r := ho9.out _ _ hB6 hg7
            obtain ⟨A7, cc7, rfl⟩ := own_shape hown7
            have c7 := cell_of_row w7 w.heap.size 0 _ _ _ h7r
            simp at c7
            have f7 := frozen_of_row w7 w.heap.size 0 _ _ h7r
            refine hK.out _ _ ?_ (fun hHeld' => ?_)
            · (trivial)
            clear hK K hHeld
            have hHeld := hHeld'
            clear hHeld'
            simp only [List.set_cons_zero, List.set_cons_succ]
            refine takeH 8 22 #[true, true, true, true, true, true, true, true, true, false, false] (v := ?_) rfl rfl rfl (by kernel_rfl) (by kernel_rfl) (by kernel_rfl) (fun _ _ _ h => h) (Or.inl ⟨by rfl, ?_⟩) hHeld ?_
            rotate_left
            · (intro w' hSw; (try dsimp only at hSw); go_simp; (try with_reducible rfl))
            simp only [List.set_cons_zero, List.set_cons_succ]
            refine takeH 9 23 #[true, true, true, true, true, true, true, true, true, true, false] (v := ?_) rfl rfl rfl (by kernel_rfl) (by kernel_rfl) (by kernel_rfl) (fun _ _ _ h => h) (Or.inl ⟨by rfl, ?_⟩) hHeld ?_
            rotate_left
            · (intro w' hSw; (try dsimp only at hSw); go_simp; (try with_reducible rfl))
            simp only [List.set_cons_zero, List.set_cons_succ]
            refine branchN 10 #[true, true, true, true, true, true, true, true, true, true, true] (by kernel_rfl) rfl rfl rfl (by rfl) (fun K hK => ?_)
            go_simp
            first | refine hK.out undef _ ?_ (fun hHeld' => ?_) | refine hK.out _ _ ?_ (fun hHeld' => ?_)
            · (trivial)
            clear hK K hHeld
            have hHeld := hHeld'
            clear hHeld'
            try simp only [List.set_cons_zero, List.set_cons_succ]
            refine wpAnyH_done (by kernel_rfl) ?_ _
            refine NoPanic.normal ?_
            have hown7' : w7.ownsRow (w.heap.size + 1) 9 1 (.slice A7 (j + 1) cc7) (j + 1) ((List.replicate (j + 1) rz).map sv) := by
              rw [← rows_snoc]
              have hse : sv rz = .string S := HS.out
              rw [hse]; exact hown7
            obtain ⟨hA, hB, hC, hD⟩ := Hst.out _ _ _ _ (fun k hk => (Hor.out.lt k hk).1) hB6 hg7 hown7'
            go_wp2_with fail
            go_roundg (gk - 1)
            case measure => omega
            case rel => exact ⟨j + 1, _, by omega, by go_num, hA, hB, hC, hD⟩
    · have go : m < 1 ∧ ¬ (j : Int) < 1 ∨ (1 ≤ m ∧ m ≤ 256) ∧ ¬ (j : Int) < m ∨ 256 < m ∧ ¬ (j : Int) < 256 := by have := Hn.out; omega
      have hjn : j = n := by omega
      subst hjn
      rcases go with ⟨m1, j1⟩ | ⟨⟨m1, m2⟩, j1⟩ | ⟨m1, j1⟩
      all_goals
        go_wp2_with fail
        go_ret
        exact ⟨rfl, rnew_close HU.out Hn.out Hrr.out Hor.out hzr, hbr⟩
end Go.Proofs.Ytonbfolgdfkgnaa
