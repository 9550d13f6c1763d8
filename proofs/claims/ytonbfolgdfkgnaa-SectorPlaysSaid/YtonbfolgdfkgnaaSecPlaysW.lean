/- SectorPlays, walked. -/
import Derived.Test.YtonbfolgdfkgnaaTwo
set_option linter.unusedVariables false
set_option linter.unusedSimpArgs false
set_option maxRecDepth 100000
namespace Go.Proofs.Ytonbfolgdfkgnaa
open Go Go.RowKit

theorem write_writes (d : DD) (i : Int) (b : List Nat) : (d.write i b).2.writes ≤ d.writes + 1 := by
  unfold DD.write
  split
  · show d.writes ≤ _; omega
  · split
    · split <;> (show _ ≤ d.writes + 1; simp)
    · show d.writes ≤ _; omega
theorem cut_writes (d : DD) (a b : Int) : (d.setCut a b).writes = d.writes := by
  unfold DD.setCut; split <;> rfl

set_option maxHeartbeats 4000000 in
theorem plays_walk (a : Int) (A : Option Addr) (n c : Nat) (l : List Opr) (w : World) (h1 : (Lit.int .i64 a).wf = true) (hr : Ops w w.heap.size A n l ∧ n ≤ maxLen) :
    Calls Try.prog 3 #[.int .i64 a, .slice A n c] w fun e w' => e = .returned (.bool true) ∧ Below w.heap.size w w' := by
  obtain ⟨hr, hnm⟩ := hr
  obtain ⟨U, hUd⟩ : ∃ U : Nat → Prop, U = fun k => k < w.heap.size := ⟨_, rfl⟩
  have HU : Hid (∀ k, U k → k < w.heap.size) := fun k hk => by rw [hUd] at hk; exact hk
  have HU' : Hid (∀ k, k < w.heap.size → U k) := fun k hk => by rw [hUd]; exact hk
  clear hUd h1
  go_enter Try.func3, Try.ntmps3
  go_wp2_with (first
    | (go_at_call 8; (with_reducible refine (head_any _).mono ?_); rintro e w1 ⟨rfl, hb1⟩
       have hU1 : Hid (∀ k, U k → k < w1.heap.size) := fun k hk => Nat.lt_of_lt_of_le (HU.out k hk) hb1.size)
    | (go_at_call 9; (with_reducible refine (new_any U w1 a hU1.out).mono ?_)
       rintro e w2 ⟨rfl, hH2, hb2⟩
       have hU2 : Hid (∀ k, U k → k < w2.heap.size) := fun k hk => Nat.lt_of_lt_of_le (hU1.out k hk) hb2.size)
    | (go_at_call 10; (with_reducible refine (rnew_any U w2 a hU2.out).mono ?_)
       go_loud (rintro e w3 ⟨rfl, ⟨g, hg, hR3⟩, hb3⟩
                have hT3 := Two.make hH2 rfl hR3 hg hb3
                have hb13 := (hb1.trans (hb2.mono hb1.size)).trans (hb3.mono (Nat.le_trans hb1.size hb2.size))
                have hK3 : Kept U w w3 := Kept.of hb13 HU.out
                have hr3 := hr.below hb13))
    | (go_at_call 11; (with_reducible refine (great_any A n c _ l _ hr3 hnm).mono ?_); rintro e w3 ⟨b, rfl, h400, rfl⟩))
  · go_ret
    exact ⟨ret_bool (by simp), hK3.below HU'.out⟩
  · subst (‹_ = false›)
    have hn400 : n ≤ 400 := h400 rfl
    obtain ⟨d3, hd3⟩ : ∃ d, d = DD.fresh a := ⟨_, rfl⟩
    have hw3 : d3.writes ≤ 0 := by rw [hd3]; exact Nat.le_refl _
    rw [← hd3] at hT3
    clear hd3 h400 hr3 hb13 hH2 hR3
    go_loopg [8] n (fun q i wr => ∃ j : Nat, q + j = n ∧ i = .int .i64 j ∧ Kept U w wr ∧ ∃ d, Two wr U (w1.heap.size + 1) w1.heap.size w2.heap.size g d d ∧ d.writes ≤ j)
    case atStart => exact ⟨0, by omega, rfl, hK3, d3, hT3, hw3⟩
    case round =>
      obtain ⟨j, hj, rfl, hKr, d, hTr, hwr⟩ := hrel
      clear hK3 hT3 hw3
      have hrr := hr.below (hKr.below HU'.out)
      by_cases hlt : j < n
      · have hi0 : (0 : Int) ≤ (j : Int) := by omega
        have hi1 : (j : Int) < (n : Int) := by omega
        obtain ⟨b, o, rfl, hbB, hc⟩ := hrr.2.2 (by omega)
        obtain ⟨r, hr1⟩ : ∃ r, l[j]? = some r := ⟨_, List.getElem?_eq_getElem (by have := hr.1; omega)⟩
        obtain ⟨c0, c1, c2, c3⟩ := hc j r hr1
        obtain ⟨rb, rlt, rcap, rcm, rw_, ra_, rn_⟩ := hrr.2.1 r (List.mem_of_getElem? hr1)
        clear hc hr1
        have hB := InBox2.make r hTr
        have hKa : Hid (Kept U w (wr.alloc r.box)) := hKr.trans (Kept.of (B := wr.heap.size) ((Below.refl _ _).alloc (Nat.le_refl _) _) hTr.old)
        obtain ⟨wa, hwa⟩ : ∃ wa, wa = wr.alloc r.box := ⟨_, rfl⟩
        rw [← hwa] at hB hKa
        have Hwa := Lib.hid hwa
        unfold Opr.box at Hwa
        have Hr : Hid (∀ w', Kept U wa w' → Rd w' w'.heap.size 1 r.A r.len (r.b.map bv)) := fun w' hk => by
          have h1 : Rd wa w.heap.size 1 r.A r.len (r.b.map bv) := by
            rw [Hwa.out]
            exact rb.alloc (by have := hKr.size; omega) _
          have h2 := hKr.size
          have h3 := hk.size
          have h4 : wr.heap.size ≤ wa.heap.size := by rw [hwa, World.size_alloc]; omega
          exact (h1.below (hk.below HU'.out)).more (by omega)
        have Hw : Hid (d.writes < 1000000) := by show d.writes < 1000000; omega
        have hwj := write_writes d r.at_ r.b
        have Hwj := Lib.hid hwj
        clear hwa hKr hTr hwj
        have go : (r.what == 2) = true ∧ True ∨ (r.what == 2) = false ∧ (r.what == 3) = true ∨ (r.what == 2) = false ∧ (r.what == 3) = false ∧ (r.what == 4) = true ∨ (r.what == 2) = false ∧ (r.what == 3) = false ∧ (r.what == 4) = false := by
          simp; omega
        rcases go with ⟨t1, -⟩ | ⟨t1, t2⟩ | ⟨t1, t2, t3⟩ | ⟨t1, t2, t3⟩
        · obtain ⟨e0, s0, he0⟩ : ∃ e0 s0, d.read r.at_ = (e0, s0) := ⟨_, _, rfl⟩
          have He0 := Lib.hid he0
          clear he0
          go_wp2_with (first
            | (rw [← Hwa.out]
               go_at_call 12; (with_reducible refine (read_any _ _ _ _ _ r.at_ hB.hd.left).mono ?_)
               rintro e w4 ⟨A4, n4, c4, he, hown4, hb4⟩
               rw [He0.out] at he hown4
               subst he
               obtain ⟨hB4, hk4⟩ := hB.below hb4
               have hK4 := hKa.out.trans hk4
               have hr4 := Rd.of_own hown4
               have hx4 := boxed hB4.hx
               obtain ⟨f0, f1, f2, f3⟩ := hx4
               obtain ⟨V, hV, _⟩ := hB4.right
               clear hown4 hb4 hk4)
            | (go_at_call 13; (with_reducible refine (rread_any _ _ _ _ _ r.at_ hV).mono ?_)
               rintro e w5 ⟨A5, n5, c5, he, hr5, hb5⟩
               rw [He0.out] at he hr5
               subst he
               obtain ⟨hB5, hk5⟩ := hB4.below hb5
               have hK5 := hK4.trans hk5
               have kv4 := kcv _ _ _ c4 _ _ (hr4.below hb5)
               have kv5 := kcv _ _ _ c5 _ _ hr5
               obtain ⟨V, hV, _⟩ := hB5.right
               clear hB4 hK4 hr4 hr5 hb5 f0 f1 f2 f3)
            | (go_at_call 20; (with_reducible refine (down_any _ _ _ _ _ hB5.hd.left).mono ?_)
               rintro e w5 ⟨rfl, rfl⟩)
            | (go_at_call 21; (with_reducible refine (rdown_any _ _ _ _ _ hV).mono ?_)
               rintro e w5 ⟨rfl, rfl⟩)
            | (go_at_call 22; (with_reducible refine (writes_any _ _ _ _ _ hB5.hd.left).mono ?_)
               rintro e w5 ⟨rfl, rfl⟩)
            | (go_at_call 23; (with_reducible refine (rwrites_any _ _ _ _ _ hV).mono ?_)
               rintro e w5 ⟨rfl, rfl⟩)
            | (go_at_call 24; (with_reducible refine (many_any _ _ _ _ _ hB5.hd.left).mono ?_)
               rintro e w5 ⟨rfl, rfl⟩)
            | (go_at_call 25; (with_reducible refine (rmany_any _ _ _ _ _ hV).mono ?_)
               rintro e w5 ⟨rfl, rfl⟩))
          go_roundg (gk - 1)
          case measure => omega
          case rel => exact ⟨j + 1, by omega, by go_num, hK5, _, hB5.out, by omega⟩
        · have hcw := cut_writes d r.at_ r.n
          have Hcw := Lib.hid hcw
          clear hcw
          go_wp2_with (first
            | (rw [← Hwa.out]
               go_at_call 14; (with_reducible refine (cut_any _ _ _ _ _ r.at_ r.n ra_.2 hB.hd.left).mono ?_)
               rintro e w4 ⟨rfl, hH4, hk4⟩
               obtain ⟨hB4, hk4⟩ := hB.left hH4 hk4
               have hK4 := hKa.out.trans hk4
               obtain ⟨f0, f1, f2, f3⟩ := boxed hB4.hx
               obtain ⟨V, hV, hR⟩ := hB4.right
               have HR_ := Lib.hid hR
               have Hk4 := Lib.hid hk4
               clear hH4 hR hk4)
            | (go_at_call 15; (with_reducible refine (rcut_any _ _ _ _ _ r.at_ r.n ra_.2 hV).mono ?_)
               rintro e w5 ⟨rfl, hH5, hk5⟩
               obtain ⟨hB5, hk5⟩ := HR_.out _ _ hH5 hk5
               have hK5 := hK4.trans hk5
               obtain ⟨V, hV, _⟩ := hB5.right
               clear hB4 hK4 f0 f1 f2 f3 hH5 hk5)
            | (go_at_call 20; (with_reducible refine (down_any _ _ _ _ _ hB5.hd.left).mono ?_)
               rintro e w5 ⟨rfl, rfl⟩)
            | (go_at_call 21; (with_reducible refine (rdown_any _ _ _ _ _ hV).mono ?_)
               rintro e w5 ⟨rfl, rfl⟩)
            | (go_at_call 22; (with_reducible refine (writes_any _ _ _ _ _ hB5.hd.left).mono ?_)
               rintro e w5 ⟨rfl, rfl⟩)
            | (go_at_call 23; (with_reducible refine (rwrites_any _ _ _ _ _ hV).mono ?_)
               rintro e w5 ⟨rfl, rfl⟩)
            | (go_at_call 24; (with_reducible refine (many_any _ _ _ _ _ hB5.hd.left).mono ?_)
               rintro e w5 ⟨rfl, rfl⟩)
            | (go_at_call 25; (with_reducible refine (rmany_any _ _ _ _ _ hV).mono ?_)
               rintro e w5 ⟨rfl, rfl⟩))
          go_roundg (gk - 1)
          case measure => omega
          case rel => exact ⟨j + 1, by omega, by go_num, hK5, _, hB5.out, by rw [Hcw.out]; omega⟩
        · go_wp2_with (first
            | (rw [← Hwa.out]
               go_at_call 16; (with_reducible refine (boot_any _ _ _ _ _ hB.hd.left).mono ?_)
               rintro e w4 ⟨rfl, hH4, hk4⟩
               obtain ⟨hB4, hk4⟩ := hB.left hH4 hk4
               have hK4 := hKa.out.trans hk4
               obtain ⟨f0, f1, f2, f3⟩ := boxed hB4.hx
               obtain ⟨V, hV, hR⟩ := hB4.right
               have HR_ := Lib.hid hR
               have Hk4 := Lib.hid hk4
               clear hH4 hR hk4)
            | (go_at_call 17; (with_reducible refine (rboot_any _ _ _ _ _ hV).mono ?_)
               rintro e w5 ⟨rfl, hH5, hk5⟩
               obtain ⟨hB5, hk5⟩ := HR_.out _ _ hH5 hk5
               have hK5 := hK4.trans hk5
               obtain ⟨V, hV, _⟩ := hB5.right
               clear hB4 hK4 f0 f1 f2 f3 hH5 hk5)
            | (go_at_call 20; (with_reducible refine (down_any _ _ _ _ _ hB5.hd.left).mono ?_)
               rintro e w5 ⟨rfl, rfl⟩)
            | (go_at_call 21; (with_reducible refine (rdown_any _ _ _ _ _ hV).mono ?_)
               rintro e w5 ⟨rfl, rfl⟩)
            | (go_at_call 22; (with_reducible refine (writes_any _ _ _ _ _ hB5.hd.left).mono ?_)
               rintro e w5 ⟨rfl, rfl⟩)
            | (go_at_call 23; (with_reducible refine (rwrites_any _ _ _ _ _ hV).mono ?_)
               rintro e w5 ⟨rfl, rfl⟩)
            | (go_at_call 24; (with_reducible refine (many_any _ _ _ _ _ hB5.hd.left).mono ?_)
               rintro e w5 ⟨rfl, rfl⟩)
            | (go_at_call 25; (with_reducible refine (rmany_any _ _ _ _ _ hV).mono ?_)
               rintro e w5 ⟨rfl, rfl⟩))
          go_roundg (gk - 1)
          case measure => omega
          case rel => exact ⟨j + 1, by omega, by go_num, hK5, _, hB5.out, by show d.writes ≤ j + 1; omega⟩
        · obtain ⟨e0, d', he0⟩ : ∃ e0 d', d.write r.at_ r.b = (e0, d') := ⟨_, _, rfl⟩
          have hd' : d'.writes ≤ d.writes + 1 := by have := Hwj.out; rw [he0] at this; exact this
          have He0 := Lib.hid he0
          clear he0
          go_wp2_with (first
            | (rw [← Hwa.out]
               go_at_call 18; (with_reducible refine (write_any _ _ _ _ _ r.at_ _ _ _ r.b hB.hd.left (Hr.out _ (Kept.refl _ _)) rlt Hw.out).mono ?_)
               rintro e w4 ⟨he, hH4, hk4⟩
               rw [He0.out] at he hH4
               subst he
               obtain ⟨hB4, hk4⟩ := hB.left hH4 hk4
               have hK4 := hKa.out.trans hk4
               obtain ⟨f0, f1, f2, f3⟩ := boxed hB4.hx
               obtain ⟨V, hV, hR⟩ := hB4.right
               have HR_ := Lib.hid hR
               have Hk4 := Lib.hid hk4
               clear hH4 hR hk4)
            | (go_at_call 19; (with_reducible refine (rwrite_any _ _ _ _ _ r.at_ _ _ _ r.b hV (Hr.out _ Hk4.out) rlt Hw.out).mono ?_)
               rintro e w5 ⟨he, hH5, hk5⟩
               rw [He0.out] at he hH5
               subst he
               obtain ⟨hB5, hk5⟩ := HR_.out _ _ hH5 hk5
               have hK5 := hK4.trans hk5
               obtain ⟨V, hV, _⟩ := hB5.right
               clear hB4 hK4 f0 f1 f2 f3 hH5 hk5)
            | (go_at_call 20; (with_reducible refine (down_any _ _ _ _ _ hB5.hd.left).mono ?_)
               rintro e w5 ⟨rfl, rfl⟩)
            | (go_at_call 21; (with_reducible refine (rdown_any _ _ _ _ _ hV).mono ?_)
               rintro e w5 ⟨rfl, rfl⟩)
            | (go_at_call 22; (with_reducible refine (writes_any _ _ _ _ _ hB5.hd.left).mono ?_)
               rintro e w5 ⟨rfl, rfl⟩)
            | (go_at_call 23; (with_reducible refine (rwrites_any _ _ _ _ _ hV).mono ?_)
               rintro e w5 ⟨rfl, rfl⟩)
            | (go_at_call 24; (with_reducible refine (many_any _ _ _ _ _ hB5.hd.left).mono ?_)
               rintro e w5 ⟨rfl, rfl⟩)
            | (go_at_call 25; (with_reducible refine (rmany_any _ _ _ _ _ hV).mono ?_)
               rintro e w5 ⟨rfl, rfl⟩))
          go_roundg (gk - 1)
          case measure => omega
          case rel => exact ⟨j + 1, by omega, by go_num, hK5, _, hB5.out, by omega⟩
      · obtain rfl : j = n := by omega
        obtain ⟨V0, hV0, _, hR0⟩ := hTr.right
        clear hV0 hR0 hrr
        go_wp2_with (first
          | (go_at_call 16; (with_reducible refine (boot_any _ _ _ _ _ hTr.left).mono ?_)
             rintro e w4 ⟨rfl, hH4, hk4⟩
             have hT4 := hTr.lefts hH4 hk4
             have hK4 := hKr.trans (hk4.mono fun k hk => .inl hk)
             obtain ⟨V, hV, hUV, hR⟩ := hT4.right
             have HR_ := Lib.hid hR
             have HUV := Lib.hid hUV
             clear hH4 hR hUV hk4 hTr)
          | (go_at_call 17; (with_reducible refine (rboot_any _ _ _ _ _ hV).mono ?_)
             rintro e w5 ⟨rfl, hH5, hk5⟩
             have hT5 := HR_.out _ _ hH5 hk5
             have hK5 := hK4.trans (hk5.mono HUV.out)
             clear hT4 hK4 hH5 hk5 HR_ HUV))
        obtain ⟨db, hdb⟩ : ∃ db, db = d.boot := ⟨_, rfl⟩
        rw [← hdb] at hT5
        obtain ⟨hl1, hl2⟩ : 1 ≤ db.L.length ∧ db.L.length ≤ 256 := ⟨hT5.lok.2.2.1, hT5.lok.2.1⟩
        obtain ⟨m, hm⟩ : ∃ m, m = db.L.length := ⟨_, rfl⟩
        have Hm := Lib.hid hm
        have hm256 : m ≤ 256 := by omega
        clear hdb hm hl1 hl2 hr
        go_loopg [16] m (fun q i wr => ∃ j : Nat, q + j = m ∧ i = .int .i64 j ∧ Kept U w wr ∧ Two wr U (w1.heap.size + 1) w1.heap.size w2.heap.size g db db)
        case atStart => exact ⟨0, by omega, rfl, hK5, hT5⟩
        case round =>
          obtain ⟨i, hi, rfl, hKs, hTs⟩ := hrel
          clear hK5 hT5
          obtain ⟨V, hV, _, _⟩ := hTs.right
          by_cases hlti : i < m
          · obtain ⟨e0, s0, he0⟩ : ∃ e0 s0, db.read i = (e0, s0) := ⟨_, _, rfl⟩
            have He0 := Lib.hid he0
            have hi1 : (i : Int) < (m : Int) := by omega
            clear he0
            go_wp2_with (first
              | (go_at_call 25; (with_reducible refine (rmany_any _ _ _ _ _ hV).mono ?_)
                 rintro e w5 ⟨rfl, rfl⟩
                 rw [← Hm.out])
              | (go_at_call 12; (with_reducible refine (read_any _ _ _ _ _ i hTs.left).mono ?_)
                 rintro e w6 ⟨A4, n4, c4, he, hown4, hb4⟩
                 rw [He0.out] at he hown4
                 subst he
                 have hT6 := hTs.below hb4
                 have hK6 := hKs.trans (Kept.of hb4 hTs.old)
                 have hr4 := Rd.of_own hown4
                 obtain ⟨V, hV, _⟩ := hT6.right
                 clear hown4 hb4 hTs hKs)
              | (go_at_call 13; (with_reducible refine (rread_any _ _ _ _ _ i hV).mono ?_)
                 rintro e w7 ⟨A5, n5, c5, he, hr5, hb5⟩
                 rw [He0.out] at he hr5
                 subst he
                 have hT7 := hT6.below hb5
                 have hK7 := hK6.trans (Kept.of hb5 hT6.old)
                 have kv4 := kcv _ _ _ c4 _ _ (hr4.below hb5)
                 have kv5 := kcv _ _ _ c5 _ _ hr5
                 clear hT6 hK6 hr4 hr5 hb5))
            go_roundg (gk - 1)
            case measure => omega
            case rel => exact ⟨i + 1, by omega, by go_num, hK7, hT7⟩
          · obtain rfl : i = m := by omega
            go_wp2_with (first
              | (go_at_call 25; (with_reducible refine (rmany_any _ _ _ _ _ hV).mono ?_)
                 rintro e w5 ⟨rfl, rfl⟩
                 rw [← Hm.out]))
            go_ret
            exact ⟨ret_bool (by simp), hKs.below HU'.out⟩
end Go.Proofs.Ytonbfolgdfkgnaa
