/- SectorCuts, walked. -/
import Derived.Test.YtonbfolgdfkgnaaSecHead
import Derived.Test.YtonbfolgdfkgnaaReads
set_option linter.unusedVariables false
set_option linter.unusedSimpArgs false
set_option maxRecDepth 100000
namespace Go.Proofs.Ytonbfolgdfkgnaa
open Go Go.RowKit

theorem rd_one (w : World) (x : Nat) (e : TypeId) (fr : Nat × Nat) : Rd (w.alloc (.cells #[.int .u8 (x : Int)] e fr)) (w.alloc (.cells #[.int .u8 (x : Int)] e fr)).heap.size 1 (some ⟨w.heap.size, 0, none⟩) 1 ([x].map bv) := by
  rw [World.size_alloc]
  exact rd_new w ([x].map bv) e 1 1 rfl fr
theorem rd_1 (w : World) (e : TypeId) (fr : Nat × Nat) : Rd (w.alloc (.cells #[.int .u8 1] e fr)) (w.alloc (.cells #[.int .u8 1] e fr)).heap.size 1 (some ⟨w.heap.size, 0, none⟩) 1 (([1] : List Nat).map bv) := rd_one w 1 e fr

/-- up, with a cut to come behind so many whole writes -/
def Going (d : DD) (left nn j : Nat) : Prop := d.down = false ∧ d.cut = some (left, nn) ∧ d.writes = j ∧ d.L.length = 2
theorem going_step {d : DD} {left nn j : Nat} (h : Going d (left + 1) nn j) (i : Int) (hi : 0 ≤ i ∧ i < 2) (x : Nat) : ∃ d', d.write i [x] = (0, d') ∧ Going d' left nn (j + 1) := by
  obtain ⟨h1, h2, h3, h4⟩ := h
  refine ⟨{ d with L := d.L.set i.toNat (pad [x]), writes := d.writes + 1, cut := some (left, nn) }, ?_, ⟨h1, rfl, by show d.writes + 1 = j + 1; omega, by simpa using h4⟩⟩
  rw [DD.write, if_neg (by simp [h1]), if_pos ⟨hi.1, by omega, by simp⟩, h2]
/-- no power, or none behind the next write -/
def Gone (d : DD) (k : Nat) : Prop := (d.down = true ∨ ∃ nn, d.cut = some (0, nn)) ∧ d.writes = k ∧ d.L.length = 2
theorem gone_step {d : DD} {k : Nat} (h : Gone d k) (x : Nat) : ∃ d', d.write 0 [x] = (101, d') ∧ Gone d' k ∧ d'.down = true := by
  obtain ⟨h1, h3, h4⟩ := h
  by_cases hd : d.down = true
  · exact ⟨d, by rw [DD.write, if_pos hd], ⟨.inl hd, h3, h4⟩, hd⟩
  · rcases h1 with h1 | ⟨nn, h1⟩
    · exact absurd h1 hd
    · refine ⟨{ d with L := d.L.set (0 : Int).toNat ((pad [x]).take nn ++ (d.L.getD (0 : Int).toNat []).drop nn), down := true, cut := none }, ?_, ⟨.inl rfl, h3, by simpa using h4⟩, rfl⟩
      rw [DD.write, if_neg hd, if_pos ⟨by omega, by omega, by simp⟩, h1]
theorem boot_write {d : DD} {k : Nat} (h : Gone d k) (x : Nat) : ∃ d', d.boot.write 0 [x] = (0, d') ∧ d'.writes = k + 1 := by
  obtain ⟨h1, h3, h4⟩ := h
  refine ⟨{ d.boot with L := d.boot.L.set (0 : Int).toNat (pad [x]), writes := d.boot.writes + 1 }, ?_, by show d.writes + 1 = k + 1; omega⟩
  rw [DD.write, if_neg (by simp [DD.boot]), if_pos ⟨by omega, by simp [DD.boot]; omega, by simp⟩]
  rfl

set_option maxHeartbeats 4000000 in
theorem cuts_walk (a1 a2 a3 : Int) (w : World) (h1 : (Lit.int .u8 a1).wf = true) (h2 : (Lit.int .u8 a2).wf = true) (h3 : (Lit.int .u8 a3).wf = true) :
    Calls Try.prog 6 #[.int .u8 a1, .int .u8 a2, .int .u8 a3] w fun e w' => e = .returned (.bool true) ∧ Below w.heap.size w w' := by
  obtain ⟨p1, p1'⟩ := wf_u8_lt h1
  obtain ⟨p2, p2'⟩ := wf_u8_lt h2
  obtain ⟨p3, p3'⟩ := wf_u8_lt h3
  obtain ⟨k, hk⟩ : ∃ k : Nat, a1 % 20 = (k : Int) := ⟨(a1 % 20).toNat, by omega⟩
  obtain ⟨m, hm⟩ : ∃ m : Nat, a3 % 5 = (m : Int) := ⟨(a3 % 5).toNat, by omega⟩
  have hk20 : k < 20 := by omega
  have hm5 : m < 5 := by omega
  obtain ⟨U, hUd⟩ : ∃ U : Nat → Prop, U = fun k => k < w.heap.size := ⟨_, rfl⟩
  have HU : Hid (∀ k, U k → k < w.heap.size) := fun k hk => by rw [hUd] at hk; exact hk
  have HU' : Hid (∀ k, k < w.heap.size → U k) := fun k hk => by rw [hUd]; exact hk
  clear hUd h1 h2 h3
  go_enter Try.func6, Try.ntmps6
  go_wp2_with (first
    | (go_at_call 8; (with_reducible refine (head_any _).mono ?_); rintro e w1 ⟨rfl, hb1⟩
       have hU1 : Hid (∀ k, U k → k < w1.heap.size) := fun k hk => Nat.lt_of_lt_of_le (HU.out k hk) hb1.size)
    | (go_at_call 9; (with_reducible refine (new_any U w1 2 hU1.out).mono ?_)
       rintro e w2 ⟨rfl, hH2, hb2⟩
       have hK2 : Kept U w w2 := (Kept.of hb1 HU.out).trans (Kept.of hb2 hU1.out)
       obtain ⟨d2, hd2⟩ : ∃ d, d = DD.fresh 2 := ⟨_, rfl⟩
       rw [← hd2] at hH2)
    | (go_at_call 14; (with_reducible refine (cut_any U _ _ _ _ k a2 (by omega) hH2).mono ?_)
       rintro e w3 ⟨rfl, hH3, hK3⟩
       have hG3 : Going (d2.setCut k a2) k (min (max a2 0) 64).toNat 0 := by
         rw [hd2, DD.setCut, if_pos (by omega)]
         exact ⟨rfl, by simp, rfl, rfl⟩
       have hK13 := hK2.trans hK3
       obtain ⟨d3, hd3⟩ : ∃ d, d = d2.setCut k a2 := ⟨_, rfl⟩
       rw [← hd3] at hH3 hG3
       clear hd2 hd3 hH2 hK2 hK3))
  obtain ⟨nn, hnn⟩ : ∃ nn, nn = (min (max a2 0) 64).toNat := ⟨_, rfl⟩
  rw [← hnn] at hG3
  go_loopg [10] k (fun q i wr => ∃ j : Nat, q + j = k ∧ i = .int .i64 j ∧ Kept U w wr ∧ ∃ d, HD wr U (w1.heap.size + 1) w1.heap.size d ∧ Going d q nn j)
  case atStart => exact ⟨0, by omega, rfl, hK13, d3, hH3, hG3⟩
  case round =>
    obtain ⟨j, hj, rfl, hKr, d, hHr, hGr⟩ := hrel
    by_cases hlt : j < k
    · obtain ⟨g, rfl⟩ : ∃ g, gk = g + 1 := ⟨gk - 1, by omega⟩
      obtain ⟨d', hd', hG'⟩ := going_step hGr ((j : Int) % 2) (by omega) j
      have hGd : d'.down = false := hG'.1
      have HG := Lib.hid hG'
      have hwr : Hid (d.writes < 1000000) := by have := hGr.2.2.1; show d.writes < 1000000; omega
      have hj20 : j < 20 := by omega
      clear hGr hG' hk hm hG3
      go_wp2_with (first
        | (go_at_call 18; (with_reducible refine (write_any U _ _ _ _ ((j : Int) % 2) _ 1 1 [j] (hHr.below ((Below.refl _ _).alloc (Nat.le_refl _) _)) (rd_one wr j _ _) (by simp; omega) hwr.out).mono ?_)
           rintro e w4 ⟨he, hH4, hK4⟩
           rw [hd'] at he hH4
           subst he
           have hKr4 := (hKr.trans (Kept.of (B := wr.heap.size) ((Below.refl _ _).alloc (Nat.le_refl _) _) (HD.old hHr))).trans hK4
           clear hKr hK4)
        | (go_at_call 20; (with_reducible refine (down_any U _ _ _ _ hH4).mono ?_)
           rintro e w5 ⟨rfl, rfl⟩
           rw [hGd]))
      go_roundg g
      case measure => omega
      case rel => exact ⟨j + 1, by omega, by go_num, hKr4, d', hH4, HG.out⟩
    · obtain rfl : gk = 0 := by omega
      obtain rfl : j = k := by omega
      have hGo : Gone d j := ⟨.inr ⟨nn, hGr.2.1⟩, hGr.2.2.1, hGr.2.2.2⟩
      clear hGr hG3 hk
      go_wp2_with fail
      go_loopg [11] (m + 1) (fun q i wr => ∃ r : Nat, q + r = m + 1 ∧ i = .int .i64 r ∧ Kept U w wr ∧ ∃ d, HD wr U (w1.heap.size + 1) w1.heap.size d ∧ Gone d j)
      case atStart => exact ⟨0, by omega, rfl, hKr, d, hHr, hGo⟩
      case round =>
        obtain ⟨r, hr, rfl, hKs, ds, hHs, hGs⟩ := hrel
        have hrm : r ≤ m + 1 := by omega
        by_cases hltr : r < m + 1
        · obtain ⟨d', hd', hG', hGd⟩ := gone_step hGs 1
          have hwr : Hid (ds.writes < 1000000) := by have := hGs.2.1; show ds.writes < 1000000; omega
          have hwn : (d'.writes : Int) = (j : Int) := by rw [hG'.2.1]
          have HG := Lib.hid hG'
          have hi1 : (r : Int) < 1 + (m : Int) := by omega
          clear hGs hG' hGo hHr hKr hK13
          go_wp2_with (first
            | (go_at_call 18; (with_reducible refine (write_any U _ _ _ _ 0 _ 1 1 [1] (hHs.below ((Below.refl _ _).alloc (Nat.le_refl _) _)) (rd_1 _ _ _) (by decide) hwr.out).mono ?_)
               rintro e w4 ⟨he, hH4, hK4⟩
               rw [hd'] at he hH4
               subst he
               have hKr4 := (hKs.trans (Kept.of (B := _) ((Below.refl _ _).alloc (Nat.le_refl _) _) (HD.old hHs))).trans hK4
               clear hKs hK4)
            | (go_at_call 20; (with_reducible refine (down_any U _ _ _ _ hH4).mono ?_)
               rintro e w4 ⟨rfl, rfl⟩
               rw [hGd])
            | (go_at_call 22; (with_reducible refine (writes_any U _ _ _ _ hH4).mono ?_)
               rintro e w4 ⟨rfl, rfl⟩
               rw [hwn]))
          go_roundg (m - r)
          case measure => omega
          case rel => exact ⟨r + 1, by omega, by go_num, hKr4, d', hH4, HG.out⟩
        · obtain rfl : r = m + 1 := by omega
          obtain ⟨d', hd', hwn0⟩ := boot_write hGs 1
          have hwr : Hid (ds.boot.writes < 1000000) := by have := hGs.2.1; show ds.writes < 1000000; omega
          have hwn : (d'.writes : Int) = (j : Int) + 1 := by rw [hwn0]; omega
          clear hwn0 hGs hGo hHr hKr hK13 hH3
          go_wp2_with (first
            | (go_at_call 16; (with_reducible refine (boot_any U _ _ _ _ hHs).mono ?_)
               rintro e w3 ⟨rfl, hH3, hK3⟩
               have hKs3 := hKs.trans hK3
               clear hKs hK3 hHs)
            | (go_at_call 18; (with_reducible refine (write_any U _ _ _ _ 0 _ 1 1 [1] (hH3.below ((Below.refl _ _).alloc (Nat.le_refl _) _)) (rd_1 _ _ _) (by decide) hwr.out).mono ?_)
               rintro e w4 ⟨he, hH4, hK4⟩
               rw [hd'] at he hH4
               subst he
               have hKr4 := (hKs3.trans (Kept.of (B := _) ((Below.refl _ _).alloc (Nat.le_refl _) _) (HD.old hH3))).trans hK4
               clear hKs3 hK4)
            | (go_at_call 22; (with_reducible refine (writes_any U _ _ _ _ hH4).mono ?_)
               rintro e w4 ⟨rfl, rfl⟩
               rw [hwn]))
          go_ret
          exact ⟨ret_bool (by simp), hKr4.below HU'.out⟩
end Go.Proofs.Ytonbfolgdfkgnaa
