/- SectorStays, walked. -/
import Derived.Test.YtonbfolgdfkgnaaSecU
set_option linter.unusedVariables false
set_option linter.unusedSimpArgs false
set_option maxRecDepth 100000
namespace Go.Proofs.Ytonbfolgdfkgnaa
open Go Go.RowKit

/-- of four sectors the last has these bytes -/
def Sty (d : DD) (b : List Nat) (k : Nat) : Prop := d.L[3]? = some (pad b) ∧ d.L.length = 4 ∧ d.writes ≤ k
theorem sty_first (b : List Nat) (hb : b.length ≤ 64) : ∃ d', (DD.fresh 4).write 3 b = (0, d') ∧ Sty d' b 1 :=
  ⟨{ DD.fresh 4 with L := (DD.fresh 4).L.set (3 : Int).toNat (pad b), writes := (DD.fresh 4).writes + 1 }, by rw [DD.write, if_neg (by simp [DD.fresh]), if_pos ⟨by omega, by decide, hb⟩]; rfl, ⟨rfl, rfl, Nat.le_refl _⟩⟩
theorem sty_more {d : DD} {b : List Nat} {k k' : Nat} (h : Sty d b k) (hk : k ≤ k') : Sty d b k' := ⟨h.1, h.2.1, by have := h.2.2; omega⟩
theorem sty_boot {d : DD} {b : List Nat} {k : Nat} (h : Sty d b k) : Sty d.boot b k := h
theorem sty_cut {d : DD} {b : List Nat} {k : Nat} (h : Sty d b k) (x y : Int) : Sty (d.setCut x y) b k := by
  unfold DD.setCut
  split
  · exact h
  · exact h
theorem sty_write {d : DD} {b : List Nat} {k : Nat} (h : Sty d b k) (i : Int) (x : List Nat) (hi : i ≠ 3) : Sty (d.write i x).2 b (k + 1) := by
  obtain ⟨h1, h2, h3⟩ := h
  unfold DD.write
  split
  · exact ⟨h1, h2, by show d.writes ≤ k + 1; omega⟩
  · split
    · rename_i hc
      have hne : i.toNat ≠ 3 := by omega
      split
      · exact ⟨by simpa [List.getElem?_set_ne hne] using h1, by simpa using h2, by show d.writes + 1 ≤ k + 1; omega⟩
      · exact ⟨by simpa [List.getElem?_set_ne hne] using h1, by simpa using h2, by show d.writes ≤ k + 1; omega⟩
      · exact ⟨by simpa [List.getElem?_set_ne hne] using h1, by simpa using h2, by show d.writes + 1 ≤ k + 1; omega⟩
    · exact ⟨h1, h2, by show d.writes ≤ k + 1; omega⟩
theorem sty_read {d : DD} {b : List Nat} {k : Nat} (h : Sty d b k) : d.boot.read 3 = (0, pad b) := by
  obtain ⟨h1, h2, h3⟩ := h
  rw [DD.read, if_neg (by simp [DD.boot]), if_pos ⟨by omega, by simp [DD.boot]; omega⟩]
  show (0, d.L.getD 3 []) = _
  rw [List.getD_eq_getElem?_getD, h1]; rfl
theorem pad_take (b : List Nat) (n : Nat) (h : b.length = n) : (pad b).take n = b := by
  unfold pad
  rw [List.take_left' h]

set_option maxHeartbeats 4000000 in
theorem stays_walk (A : Option Addr) (n c : Nat) (l : List Opr) (A1 : Option Addr) (n1 c1 : Nat) (bs : List Nat) (w : World) (hr : Ops w w.heap.size A n l ∧ n ≤ maxLen)
    (hr1 : Rd w w.heap.size 1 A1 n1 (bs.map bv)) (hq1 : ∀ c ∈ bs, c < 256) (hc1 : n1 ≤ c1) (hm1 : c1 ≤ maxLen) :
    Calls Try.prog 5 #[.slice A n c, .slice A1 n1 c1] w fun e w' => e = .returned (.bool true) ∧ Below w.heap.size w w' := by
  obtain ⟨hr, hnm⟩ := hr
  obtain ⟨U, hUd⟩ : ∃ U : Nat → Prop, U = fun k => k < w.heap.size := ⟨_, rfl⟩
  have HU : Hid (∀ k, U k → k < w.heap.size) := fun k hk => by rw [hUd] at hk; exact hk
  have HU' : Hid (∀ k, k < w.heap.size → U k) := fun k hk => by rw [hUd]; exact hk
  have hbl : bs.length = n1 := by have := hr1.1; simpa using this
  have Hbl := Lib.hid hbl
  have hn1m : (n1 : Int) ≤ 9223372036854775807 := by unfold maxLen at hm1; omega
  clear hUd hbl
  by_cases h64 : n1 ≤ 64
  · obtain ⟨d3, hd3, hS3⟩ := sty_first bs (by rw [Hbl.out]; exact h64)
    have Hd3 := Lib.hid hd3
    have h64' : (n1 : Int) ≤ 64 := by omega
    clear hd3
    go_enter Try.func5, Try.ntmps5
    go_wp2_with (first
      | (go_at_call 8; (with_reducible refine (head_any _).mono ?_); rintro e w1 ⟨rfl, hb1⟩
         have hU1 : Hid (∀ k, U k → k < w1.heap.size) := fun k hk => Nat.lt_of_lt_of_le (HU.out k hk) hb1.size)
      | (go_at_call 9; (with_reducible refine (new_any U w1 4 hU1.out).mono ?_)
         rintro e w2 ⟨rfl, hH2, hb2⟩
         have hK2 : Kept U w w2 := (Kept.of hb1 HU.out).trans (Kept.of hb2 hU1.out)
         have hb12 := hb1.trans (hb2.mono hb1.size)
         have hr2 := hr.below hb12
         have hr12 := (hr1.below hb12).more hb12.size)
      | (go_at_call 11; (with_reducible refine (great_any A n c _ l _ hr2 hnm).mono ?_); rintro e w2 ⟨b, rfl, h400, rfl⟩)
      | (go_at_call 18; (with_reducible refine (write_any _ _ _ _ _ 3 _ _ _ bs hH2 hr12 hq1 (by decide)).mono ?_)
         rintro e w4 ⟨he, hH4, hK4⟩
         rw [Hd3.out] at he hH4
         subst he
         have hK4 := hK2.trans hK4
         clear hH2 hK2 hr12 hr2 hb12 hb2))
    · go_ret
      exact ⟨ret_bool (by simp), hK2.below HU'.out⟩
    · obtain rfl : b = false := by simpa using ‹¬ b = true›
      have hn400 : n ≤ 400 := h400 rfl
      clear h400
      go_loopg [7] n (fun q i wr => ∃ j : Nat, q + j = n ∧ i = .int .i64 j ∧ Kept U w wr ∧ ∃ d, HD wr U (w1.heap.size + 1) w1.heap.size d ∧ Sty d bs (j + 1))
      case atStart => exact ⟨0, by omega, rfl, hK4, d3, hH4, hS3⟩
      case round =>
        obtain ⟨j, hj, rfl, hKr, d, hHr, hSr⟩ := hrel
        clear hK4 hH4 hS3
        have hrr := hr.below (hKr.below HU'.out)
        by_cases hlt : j < n
        · have hi0 : (0 : Int) ≤ (j : Int) := by omega
          have hi1 : (j : Int) < (n : Int) := by omega
          obtain ⟨b, o, rfl, hbB, hc⟩ := hrr.2.2 (by omega)
          obtain ⟨r, hr1x⟩ : ∃ r, l[j]? = some r := ⟨_, List.getElem?_eq_getElem (by have := hr.1; omega)⟩
          obtain ⟨c0, c1', c2, c3⟩ := hc j r hr1x
          obtain ⟨rb, rlt, rcap, rcm, rw_, ra_, rn_⟩ := hrr.2.1 r (List.mem_of_getElem? hr1x)
          clear hc hr1x
          have hB := InBox.make r hHr
          have hKa : Hid (Kept U w (wr.alloc r.box)) := hKr.trans (Kept.of (B := wr.heap.size) ((Below.refl _ _).alloc (Nat.le_refl _) _) (HD.old hHr))
          obtain ⟨wa, hwa⟩ : ∃ wa, wa = wr.alloc r.box := ⟨_, rfl⟩
          rw [← hwa] at hB hKa
          have Hwa := Lib.hid hwa
          unfold Opr.box at Hwa
          have Hr : Hid (Rd wa wa.heap.size 1 r.A r.len (r.b.map bv)) := by
            rw [Hwa.out]
            exact (rb.alloc (by have := hKr.size; omega) _).more (by rw [World.size_alloc]; have := hKr.size; omega)
          have Hw : Hid (d.writes < 1000000) := by have := hSr.2.2; show d.writes < 1000000; omega
          clear hwa hKr hHr
          have go : (r.what == 3) = true ∧ True ∨ (r.what == 3) = false ∧ (r.what == 4) = true ∨ (r.what == 3) = false ∧ (r.what == 4) = false ∧ ((r.at_ != 3) = true ∧ r.at_ ≠ 3) ∨ (r.what == 3) = false ∧ (r.what == 4) = false ∧ (r.at_ != 3) = false := by
            simp; omega
          rcases go with ⟨t1, -⟩ | ⟨t1, t2⟩ | ⟨t1, t2, t3, t4⟩ | ⟨t1, t2, t3⟩
          · have hS' := sty_more (sty_cut hSr r.at_ r.n) (Nat.le_succ (j + 1))
            have HS := Lib.hid hS'
            clear hSr hS'
            go_wp2_with (first
              | (rw [← Hwa.out]
                 go_at_call 14; (with_reducible refine (cut_any _ _ _ _ _ r.at_ r.n ra_.2 hB.hd).mono ?_)
                 rintro e w4 ⟨rfl, hH4, hK4⟩
                 have hB4 := hB.next hH4 hK4
                 have hK4 := hKa.out.unbox hK4
                 clear hH4))
            go_roundg (gk - 1)
            case measure => omega
            case rel => exact ⟨j + 1, by omega, by go_num, hK4, _, hB4.out, HS.out⟩
          · have hS' := sty_more (sty_boot hSr) (Nat.le_succ (j + 1))
            have HS := Lib.hid hS'
            clear hSr hS'
            go_wp2_with (first
              | (rw [← Hwa.out]
                 go_at_call 16; (with_reducible refine (boot_any _ _ _ _ _ hB.hd).mono ?_)
                 rintro e w4 ⟨rfl, hH4, hK4⟩
                 have hB4 := hB.next hH4 hK4
                 have hK4 := hKa.out.unbox hK4
                 clear hH4))
            go_roundg (gk - 1)
            case measure => omega
            case rel => exact ⟨j + 1, by omega, by go_num, hK4, _, hB4.out, HS.out⟩
          · have hS' := sty_write hSr r.at_ r.b t4
            have HS := Lib.hid hS'
            clear hSr hS' t4
            go_wp2_with (first
              | (rw [← Hwa.out]
                 go_at_call 18; (with_reducible refine (write_any _ _ _ _ _ r.at_ _ _ _ r.b hB.hd Hr.out rlt Hw.out).mono ?_)
                 rintro e w4 ⟨rfl, hH4, hK4⟩
                 have hB4 := hB.next hH4 hK4
                 have hK4 := hKa.out.unbox hK4
                 clear hH4))
            go_roundg (gk - 1)
            case measure => omega
            case rel => exact ⟨j + 1, by omega, by go_num, hK4, _, hB4.out, HS.out⟩
          · have hS' := sty_more hSr (Nat.le_succ (j + 1))
            have HS := Lib.hid hS'
            clear hSr hS'
            go_wp2_with fail
            rw [← Hwa.out]
            go_roundg (gk - 1)
            case measure => omega
            case rel => exact ⟨j + 1, by omega, by go_num, hKa.out, _, hB.out, HS.out⟩
        · obtain rfl : j = n := by omega
          have he := sty_read hSr
          have HE := Lib.hid he
          have hpl : (pad bs).length = 64 := by have := Hbl.out; exact pad_len _ (by omega)
          have HP := Lib.hid hpl
          have hp2 := pad_take bs n1 Hbl.out
          have HP2 := Lib.hid hp2
          have e4 : (d.boot.L.length : Int) = 4 := by have := hSr.2.1; show (d.L.length : Int) = 4; omega
          have E4 := Lib.hid e4
          clear hSr hrr he hpl hp2 e4
          have kv1 : ∀ w', Kept U w w' → (convert 29 9 (.slice A1 n1 c1)).run Try.prog w' = .ok (.string (bstr bs)) w' := fun w' h => kcv _ _ _ _ _ _ (hr1.below (h.below HU'.out))
          have Hkv1 := Lib.hid kv1
          clear kv1
          go_wp2_with (first
            | (go_at_call 16; (with_reducible refine (boot_any _ _ _ _ _ hHr).mono ?_)
               rintro e w5 ⟨rfl, hH5, hK5⟩
               have hK5 := hKr.trans hK5
               clear hHr hKr)
            | (go_at_call 12; (with_reducible refine (read_any _ _ _ _ _ 3 hH5).mono ?_)
               rintro e w6 ⟨A6, n6, c6, he, hown6, hb6⟩
               rw [HE.out] at he hown6
               subst he
               have hn6 := own_len hown6
               rw [List.length_map, HP.out] at hn6
               subst hn6
               have hH6 := hH5.below hb6
               have hK6 := hK5.trans (Kept.of hb6 (HD.old hH5))
               have hcap6 := own_cap hown6
               have hnc6 : n1 ≤ c6 := Nat.le_trans h64 hcap6
               have hr6 := (Rd.of_own hown6).take_ (k := n1) h64
               rw [Nat.mul_one, ← List.map_take, HP2.out] at hr6
               have kv6 : ∀ w', Below w6.heap.size w6 w' → (convert 29 9 (.slice A6 n1 c6)).run Try.prog w' = .ok (.string (bstr bs)) w' := fun w' h => kcv _ _ _ c6 _ _ (hr6.below h)
               have kv1 : ∀ w', Below w6.heap.size w6 w' → (convert 29 9 (.slice A1 n1 c1)).run Try.prog w' = .ok (.string (bstr bs)) w' := fun w' h => Hkv1.out _ (hK6.trans (Kept.of h (HD.old hH6)))
               clear hH5 hK5 hown6 hb6)
            | fail)
          refine startH (fun w' => Below w6.heap.size w6 w') 26 #[false, false, false, false, false, false, false, false, false, false, false, false, false, false, false, false, false, false, false, false, false, false, false, false, false, false] rfl rfl (by kernel_rfl) ?_ (fun hHeld => ?_)
          · (first | exact (Below.refl _ _).drew | assumption)
          refine takeH 0 73 #[true, false, false, false, false, false, false, false, false, false, false, false, false, false, false, false, false, false, false, false, false, false, false, false, false, false] (v := ?_) rfl rfl rfl (by kernel_rfl) (by kernel_rfl) (by kernel_rfl) (fun _ _ _ h => h) (Or.inl ⟨by rfl, ?_⟩) hHeld ?_
          rotate_left
          · (intro w' hSw; (try dsimp only at hSw); go_simp; (try with_reducible rfl))
          simp only [List.set_cons_zero, List.set_cons_succ]
          refine takeH 1 74 #[true, true, false, false, false, false, false, false, false, false, false, false, false, false, false, false, false, false, false, false, false, false, false, false, false, false] (v := ?_) rfl rfl rfl (by kernel_rfl) (by kernel_rfl) (by kernel_rfl) (fun _ _ _ h => h) (Or.inl ⟨by rfl, ?_⟩) hHeld ?_
          rotate_left
          · (intro w' hSw; (try dsimp only at hSw); go_simp; (try with_reducible rfl))
          simp only [List.set_cons_zero, List.set_cons_succ]
          refine takeH 2 75 #[true, true, true, false, false, false, false, false, false, false, false, false, false, false, false, false, false, false, false, false, false, false, false, false, false, false] (v := ?_) rfl rfl rfl (by kernel_rfl) (by kernel_rfl) (by kernel_rfl) (fun _ _ _ h => h) (Or.inl ⟨by rfl, ?_⟩) hHeld ?_
          rotate_left
          · (intro w' hSw; (try dsimp only at hSw); go_simp; (try with_reducible rfl))
          simp only [List.set_cons_zero, List.set_cons_succ]
          refine takeH 3 76 #[true, true, true, true, false, false, false, false, false, false, false, false, false, false, false, false, false, false, false, false, false, false, false, false, false, false] (v := ?_) rfl rfl rfl (by kernel_rfl) (by kernel_rfl) (by kernel_rfl) (fun _ _ _ h => h) (Or.inl ⟨by rfl, ?_⟩) hHeld ?_
          rotate_left
          · (intro w' hSw; (try dsimp only at hSw); go_simp; (try with_reducible rfl))
          simp only [List.set_cons_zero, List.set_cons_succ]
          refine takeH 4 77 #[true, true, true, true, true, false, false, false, false, false, false, false, false, false, false, false, false, false, false, false, false, false, false, false, false, false] (v := ?_) rfl rfl rfl (by kernel_rfl) (by kernel_rfl) (by kernel_rfl) (fun _ _ _ h => h) (Or.inl ⟨by rfl, ?_⟩) hHeld ?_
          rotate_left
          · (intro w' hSw; (try dsimp only at hSw); go_simp; (try with_reducible rfl))
          simp only [List.set_cons_zero, List.set_cons_succ]
          refine takeH 5 78 #[true, true, true, true, true, true, false, false, false, false, false, false, false, false, false, false, false, false, false, false, false, false, false, false, false, false] (v := ?_) rfl rfl rfl (by kernel_rfl) (by kernel_rfl) (by kernel_rfl) (fun _ _ _ h => h) (Or.inl ⟨by rfl, ?_⟩) hHeld ?_
          rotate_left
          · (intro w' hSw; (try dsimp only at hSw); go_simp; (try with_reducible rfl))
          simp only [List.set_cons_zero, List.set_cons_succ]
          refine takeH 6 79 #[true, true, true, true, true, true, true, false, false, false, false, false, false, false, false, false, false, false, false, false, false, false, false, false, false, false] (v := ?_) rfl rfl rfl (by kernel_rfl) (by kernel_rfl) (by kernel_rfl) (fun _ _ _ h => h) (Or.inl ⟨by rfl, ?_⟩) hHeld ?_
          rotate_left
          · (intro w' hSw; (try dsimp only at hSw); go_simp; (try with_reducible rfl))
          simp only [List.set_cons_zero, List.set_cons_succ]
          refine takeH 7 80 #[true, true, true, true, true, true, true, true, false, false, false, false, false, false, false, false, false, false, false, false, false, false, false, false, false, false] (v := ?_) rfl rfl rfl (by kernel_rfl) (by kernel_rfl) (by kernel_rfl) (fun _ _ _ h => h) (Or.inl ⟨by rfl, ?_⟩) hHeld ?_
          rotate_left
          · (intro w' hSw; (try dsimp only at hSw); go_simp; (try with_reducible rfl))
          simp only [List.set_cons_zero, List.set_cons_succ]
          refine takeH 8 81 #[true, true, true, true, true, true, true, true, true, false, false, false, false, false, false, false, false, false, false, false, false, false, false, false, false, false] (v := ?_) rfl rfl rfl (by kernel_rfl) (by kernel_rfl) (by kernel_rfl) (fun _ _ _ h => h) (Or.inl ⟨by rfl, ?_⟩) hHeld ?_
          rotate_left
          · (intro w' hSw; (try dsimp only at hSw); go_simp; (try with_reducible rfl))
          simp only [List.set_cons_zero, List.set_cons_succ]
          refine takeH 9 82 #[true, true, true, true, true, true, true, true, true, true, false, false, false, false, false, false, false, false, false, false, false, false, false, false, false, false] (v := ?_) rfl rfl rfl (by kernel_rfl) (by kernel_rfl) (by kernel_rfl) (fun _ _ _ h => h) (Or.inl ⟨by rfl, ?_⟩) hHeld ?_
          rotate_left
          · (intro w' hSw; (try dsimp only at hSw); go_simp; (try with_reducible rfl))
          simp only [List.set_cons_zero, List.set_cons_succ]
          refine takeH 10 83 #[true, true, true, true, true, true, true, true, true, true, true, false, false, false, false, false, false, false, false, false, false, false, false, false, false, false] (v := ?_) rfl rfl rfl (by kernel_rfl) (by kernel_rfl) (by kernel_rfl) (fun _ _ _ h => h) (Or.inl ⟨by rfl, ?_⟩) hHeld ?_
          rotate_left
          · (intro w' hSw; (try dsimp only at hSw); go_simp; (try with_reducible rfl))
          simp only [List.set_cons_zero, List.set_cons_succ]
          refine takeH 11 84 #[true, true, true, true, true, true, true, true, true, true, true, true, false, false, false, false, false, false, false, false, false, false, false, false, false, false] (v := ?_) rfl rfl rfl (by kernel_rfl) (by kernel_rfl) (by kernel_rfl) (fun _ _ _ h => h) (Or.inl ⟨by rfl, ?_⟩) hHeld ?_
          rotate_left
          · (intro w' hSw; (try dsimp only at hSw); go_simp; (try with_reducible rfl))
          simp only [List.set_cons_zero, List.set_cons_succ]
          refine takeH 12 85 #[true, true, true, true, true, true, true, true, true, true, true, true, true, false, false, false, false, false, false, false, false, false, false, false, false, false] (v := ?_) rfl rfl rfl (by kernel_rfl) (by kernel_rfl) (by kernel_rfl) (fun _ _ _ h => h) (Or.inl ⟨by rfl, ?_⟩) hHeld ?_
          rotate_left
          · (intro w' hSw; (try dsimp only at hSw); go_simp; (try with_reducible rfl))
          simp only [List.set_cons_zero, List.set_cons_succ]
          refine takeH 13 86 #[true, true, true, true, true, true, true, true, true, true, true, true, true, true, false, false, false, false, false, false, false, false, false, false, false, false] (v := ?_) rfl rfl rfl (by kernel_rfl) (by kernel_rfl) (by kernel_rfl) (fun _ _ _ h => h) (Or.inl ⟨by rfl, ?_⟩) hHeld ?_
          rotate_left
          · (intro w' hSw; (try dsimp only at hSw); go_simp; (try with_reducible rfl))
          simp only [List.set_cons_zero, List.set_cons_succ]
          refine takeH 14 87 #[true, true, true, true, true, true, true, true, true, true, true, true, true, true, true, false, false, false, false, false, false, false, false, false, false, false] (v := ?_) rfl rfl rfl (by kernel_rfl) (by kernel_rfl) (by kernel_rfl) (fun _ _ _ h => h) (Or.inl ⟨by rfl, ?_⟩) hHeld ?_
          rotate_left
          · (intro w' hSw; (try dsimp only at hSw); go_simp; (try with_reducible rfl))
          simp only [List.set_cons_zero, List.set_cons_succ]
          refine takeH 15 88 #[true, true, true, true, true, true, true, true, true, true, true, true, true, true, true, true, false, false, false, false, false, false, false, false, false, false] (v := ?_) rfl rfl rfl (by kernel_rfl) (by kernel_rfl) (by kernel_rfl) (fun _ _ _ h => h) (Or.inl ⟨by rfl, ?_⟩) hHeld ?_
          rotate_left
          · (intro w' hSw; (try dsimp only at hSw); go_simp; (try with_reducible rfl))
          simp only [List.set_cons_zero, List.set_cons_succ]
          refine takeH 16 89 #[true, true, true, true, true, true, true, true, true, true, true, true, true, true, true, true, true, false, false, false, false, false, false, false, false, false] (v := ?_) rfl rfl rfl (by kernel_rfl) (by kernel_rfl) (by kernel_rfl) (fun _ _ _ h => h) (Or.inl ⟨by rfl, ?_⟩) hHeld ?_
          rotate_left
          · (intro w' hSw; (try dsimp only at hSw); go_simp; (try with_reducible rfl))
          simp only [List.set_cons_zero, List.set_cons_succ]
          refine takeH 17 90 #[true, true, true, true, true, true, true, true, true, true, true, true, true, true, true, true, true, true, false, false, false, false, false, false, false, false] (v := ?_) rfl rfl rfl (by kernel_rfl) (by kernel_rfl) (by kernel_rfl) (fun _ _ _ h => h) (Or.inl ⟨by rfl, ?_⟩) hHeld ?_
          rotate_left
          · (intro w' hSw; (try dsimp only at hSw); go_simp; (try with_reducible rfl))
          simp only [List.set_cons_zero, List.set_cons_succ]
          refine takeH 18 91 #[true, true, true, true, true, true, true, true, true, true, true, true, true, true, true, true, true, true, true, false, false, false, false, false, false, false] (v := ?_) rfl rfl rfl (by kernel_rfl) (by kernel_rfl) (by kernel_rfl) (fun _ _ _ h => h) (Or.inl ⟨by rfl, ?_⟩) hHeld ?_
          rotate_left
          · (intro w' hSw; (try dsimp only at hSw); go_simp; (try with_reducible rfl))
          simp only [List.set_cons_zero, List.set_cons_succ]
          refine takeH 19 92 #[true, true, true, true, true, true, true, true, true, true, true, true, true, true, true, true, true, true, true, true, false, false, false, false, false, false] (v := ?_) rfl rfl rfl (by kernel_rfl) (by kernel_rfl) (by kernel_rfl) (fun _ _ _ h => h) (Or.inl ⟨by rfl, ?_⟩) hHeld ?_
          rotate_left
          · (intro w' hSw; (try dsimp only at hSw); go_simp; (try with_reducible rfl))
          simp only [List.set_cons_zero, List.set_cons_succ]
          refine takeH 20 93 #[true, true, true, true, true, true, true, true, true, true, true, true, true, true, true, true, true, true, true, true, true, false, false, false, false, false] (v := ?_) rfl rfl rfl (by kernel_rfl) (by kernel_rfl) (by kernel_rfl) (fun _ _ _ h => h) (Or.inl ⟨by rfl, ?_⟩) hHeld ?_
          rotate_left
          · (intro w' hSw; (try dsimp only at hSw); go_simp; (try with_reducible rfl))
          simp only [List.set_cons_zero, List.set_cons_succ]
          refine takeH 21 94 #[true, true, true, true, true, true, true, true, true, true, true, true, true, true, true, true, true, true, true, true, true, true, false, false, false, false] (v := ?_) rfl rfl rfl (by kernel_rfl) (by kernel_rfl) (by kernel_rfl) (fun _ _ _ h => h) (Or.inl ⟨by rfl, ?_⟩) hHeld ?_
          rotate_left
          · (intro w' hSw; (try dsimp only at hSw); go_simp; (try with_reducible rfl))
          simp only [List.set_cons_zero, List.set_cons_succ]
          refine branchH 22 95 #[true, true, true, true, true, true, true, true, true, true, true, true, true, true, true, true, true, true, true, true, true, true, true, false, false, false] (by kernel_rfl) rfl rfl rfl (by rfl) (fun K hK => ?_)
          go_simp
          (go_at_call 24; (with_reducible refine (many_any _ _ _ _ _ (hH6.below hHeld)).mono ?_))
          rintro e wn ⟨rfl, rfl⟩
          rw [E4.out]
          refine hK.out _ _ ?_ (fun hHeld' => ?_)
          · (first | exact (Below.refl _ _).drew | assumption)
          clear hK K hHeld
          have hHeld := hHeld'
          clear hHeld'
          simp only [List.set_cons_zero, List.set_cons_succ]
          refine takeH 23 96 #[true, true, true, true, true, true, true, true, true, true, true, true, true, true, true, true, true, true, true, true, true, true, true, true, false, false] (v := ?_) rfl rfl rfl (by kernel_rfl) (by kernel_rfl) (by kernel_rfl) (fun _ _ _ h => h) (Or.inl ⟨by rfl, ?_⟩) hHeld ?_
          rotate_left
          · (intro w' hSw; (try dsimp only at hSw); go_simp; (try with_reducible rfl))
          simp only [List.set_cons_zero, List.set_cons_succ]
          refine takeH 24 97 #[true, true, true, true, true, true, true, true, true, true, true, true, true, true, true, true, true, true, true, true, true, true, true, true, true, false] (v := ?_) rfl rfl rfl (by kernel_rfl) (by kernel_rfl) (by kernel_rfl) (fun _ _ _ h => h) (Or.inl ⟨by rfl, ?_⟩) hHeld ?_
          rotate_left
          · (intro w' hSw; (try dsimp only at hSw); go_simp; (try with_reducible rfl))
          simp only [List.set_cons_zero, List.set_cons_succ]
          refine takeH 25 4 #[true, true, true, true, true, true, true, true, true, true, true, true, true, true, true, true, true, true, true, true, true, true, true, true, true, true] (v := ?_) rfl rfl rfl (by kernel_rfl) (by kernel_rfl) (by kernel_rfl) (fun _ _ _ h => h) (Or.inl ⟨by rfl, ?_⟩) hHeld ?_
          rotate_left
          · (intro w' hSw; (try dsimp only at hSw); go_simp; (try with_reducible rfl))
          simp only [List.set_cons_zero, List.set_cons_succ]
          refine wpAnyH_done (by kernel_rfl) ?_ _
          refine NoPanic.normal ?_
          go_wp2_with fail
          go_ret
          exact ⟨ret_bool (by simp), (hK6.trans (Kept.of hHeld (HD.old hH6))).below HU'.out⟩
  · have h64' : ¬ (n1 : Int) ≤ 64 := by omega
    have h65 : (64 : Int) < (n1 : Int) := by omega
    go_enter Try.func5, Try.ntmps5
    go_wp2_with (first
      | (go_at_call 8; (with_reducible refine (head_any _).mono ?_); rintro e w1 ⟨rfl, hb1⟩
         have hU1 : Hid (∀ k, U k → k < w1.heap.size) := fun k hk => Nat.lt_of_lt_of_le (HU.out k hk) hb1.size)
      | (go_at_call 9; (with_reducible refine (new_any U w1 4 hU1.out).mono ?_)
         rintro e w2 ⟨rfl, hH2, hb2⟩
         have hK2 : Kept U w w2 := (Kept.of hb1 HU.out).trans (Kept.of hb2 hU1.out)
         have hb12 := hb1.trans (hb2.mono hb1.size)
         have hr2 := hr.below hb12)
      | (go_at_call 11; (with_reducible refine (great_any A n c _ l _ hr2 hnm).mono ?_); rintro e w2 ⟨b, rfl, h400, rfl⟩))
    all_goals
      go_ret
      exact ⟨ret_bool (by simp), hK2.below HU'.out⟩
end Go.Proofs.Ytonbfolgdfkgnaa
