/- SectorWrites, walked. -/
import Derived.Test.YtonbfolgdfkgnaaSecU
set_option linter.unusedVariables false
set_option linter.unusedSimpArgs false
set_option maxRecDepth 100000
namespace Go.Proofs.Ytonbfolgdfkgnaa
open Go Go.RowKit

/-- up, with no cut to come -/
def Upp (d : DD) (m k : Nat) : Prop := d.down = false ∧ d.cut = none ∧ d.writes = k ∧ d.L.length = m
def Fine (i : Int) (m n : Nat) : Bool := decide (0 ≤ i ∧ i < m ∧ n ≤ 64)
theorem upp_step {d : DD} {m k : Nat} (h : Upp d m k) (i : Int) (b : List Nat) (f : Bool) (hf : Fine i m b.length = f) : ∃ d', d.write i b = (if f then 0 else 1, d') ∧ Upp d' m (if f then k + 1 else k) := by
  obtain ⟨h1, h2, h3, h4⟩ := h
  unfold Fine at hf
  by_cases hc : 0 ≤ i ∧ i < m ∧ b.length ≤ 64
  · rw [decide_eq_true hc] at hf
    subst hf
    refine ⟨{ d with L := d.L.set i.toNat (pad b), writes := d.writes + 1 }, ?_, ⟨h1, h2, by show d.writes + 1 = k + 1; omega, by simpa using h4⟩⟩
    rw [DD.write, if_neg (by simp [h1]), if_pos (by omega), h2]; rfl
  · rw [decide_eq_false hc] at hf
    subst hf
    refine ⟨d, ?_, ⟨h1, h2, h3, h4⟩⟩
    rw [DD.write, if_neg (by simp [h1]), if_neg (by omega)]; rfl
theorem upp_read {d : DD} {m k : Nat} (h : Upp d m k) (ho : d.ok) (i : Int) : ∃ (e n : Nat) (s : List Nat), d.read i = (e, s) ∧ s.length = n ∧ (e = 0 ∧ n = 64 ∨ e = 1 ∧ n = 0) := by
  obtain ⟨h1, h2, h3, h4⟩ := h
  by_cases hc : 0 ≤ i ∧ i < d.L.length
  · have hg : d.L[i.toNat]? = some (d.L.getD i.toNat []) := by
      rw [List.getD_eq_getElem?_getD, List.getElem?_eq_getElem (by omega)]; rfl
    exact ⟨0, 64, d.L.getD i.toNat [], by rw [DD.read, if_neg (by simp [h1]), if_pos hc], (ho.1 _ (List.mem_of_getElem? hg)).1, .inl ⟨rfl, rfl⟩⟩
  · exact ⟨1, 0, [], by rw [DD.read, if_neg (by simp [h1]), if_neg hc], rfl, .inr ⟨rfl, rfl⟩⟩
theorem upp_fresh (a : Int) (m : Nat) (hm : (m : Int) = max a 1) (h : m ≤ 256) : Upp (DD.fresh a) m 0 := ⟨rfl, rfl, rfl, by simp [DD.fresh]; omega⟩

set_option maxHeartbeats 4000000 in
theorem writes_walk (a : Int) (A : Option Addr) (n c : Nat) (l : List Opr) (w : World) (h1 : (Lit.int .u8 a).wf = true) (hr : Ops w w.heap.size A n l ∧ n ≤ maxLen) :
    Calls Try.prog 7 #[.int .u8 a, .slice A n c] w fun e w' => e = .returned (.bool true) ∧ Below w.heap.size w w' := by
  obtain ⟨p1, p1'⟩ := wf_u8_lt h1
  obtain ⟨hr, hnm⟩ := hr
  obtain ⟨U, hUd⟩ : ∃ U : Nat → Prop, U = fun k => k < w.heap.size := ⟨_, rfl⟩
  have HU : Hid (∀ k, U k → k < w.heap.size) := fun k hk => by rw [hUd] at hk; exact hk
  have HU' : Hid (∀ k, k < w.heap.size → U k) := fun k hk => by rw [hUd]; exact hk
  clear hUd h1
  go_enter Try.func7, Try.ntmps7
  go_wp2_with (first
    | (go_at_call 8; (with_reducible refine (head_any _).mono ?_); rintro e w1 ⟨rfl, hb1⟩
       have hU1 : Hid (∀ k, U k → k < w1.heap.size) := fun k hk => Nat.lt_of_lt_of_le (HU.out k hk) hb1.size)
    | (go_at_call 9; (with_reducible refine (new_any U w1 a hU1.out).mono ?_)
       rintro e w2 ⟨rfl, hH2, hb2⟩
       have hK2 : Kept U w w2 := (Kept.of hb1 HU.out).trans (Kept.of hb2 hU1.out)
       have hb12 := hb1.trans (hb2.mono hb1.size)
       have hr2 := hr.below hb12)
    | (go_at_call 11; (with_reducible refine (great_any A n c _ l _ hr2 hnm).mono ?_); rintro e w2 ⟨b, rfl, h400, rfl⟩))
  · go_ret
    exact ⟨ret_bool (by simp), hK2.below HU'.out⟩
  · obtain ⟨m, hm⟩ : ∃ m : Nat, (m : Int) = max a 1 := ⟨(max a 1).toNat, by omega⟩
    have hm256 : m ≤ 256 := by omega
    have hG2 := upp_fresh a m hm hm256
    subst (‹_ = false›)
    have hn400 : n ≤ 400 := h400 rfl
    have Hm := Lib.hid hm
    obtain ⟨d2, hd2⟩ : ∃ d, d = DD.fresh a := ⟨_, rfl⟩
    rw [← hd2] at hH2 hG2
    clear hm hd2 h400 hr2 hb2 hb12
    go_loopg [7, 8] n (fun q nn i wr => ∃ j k : Nat, q + j = n ∧ k ≤ j ∧ i = .int .i64 j ∧ nn = .int .i64 k ∧ Kept U w wr ∧ ∃ d, HD wr U (w1.heap.size + 1) w1.heap.size d ∧ Upp d m k)
    case atStart => exact ⟨0, 0, by omega, by omega, rfl, rfl, hK2, d2, hH2, hG2⟩
    case round =>
      obtain ⟨j, k, hj, hkj, rfl, rfl, hKr, d, hHr, hGr⟩ := hrel
      clear hK2 hH2 hG2
      have hrr := hr.below (hKr.below HU'.out)
      by_cases hlt : j < n
      · have hi0 : (0 : Int) ≤ (j : Int) := by omega
        have hi1 : (j : Int) < (n : Int) := by omega
        obtain ⟨b, o, rfl, hbB, hc⟩ := hrr.2.2 (by omega)
        obtain ⟨r, hr1⟩ : ∃ r, l[j]? = some r := ⟨_, List.getElem?_eq_getElem (by have := hr.1; omega)⟩
        obtain ⟨c0, c1, c2, c3⟩ := hc j r hr1
        obtain ⟨rb, rlt, rcap, rcm, rw_, ra_, rn_⟩ := hrr.2.1 r (List.mem_of_getElem? hr1)
        clear hc hr1
        have hB := InBox.make r hHr
        have hKa : Hid (Kept U w (wr.alloc r.box)) := hKr.trans (Kept.of (B := wr.heap.size) ((Below.refl _ _).alloc (Nat.le_refl _) _) (HD.old hHr))
        obtain ⟨wa, hwa⟩ : ∃ wa, wa = wr.alloc r.box := ⟨_, rfl⟩
        rw [← hwa] at hB hKa
        have Hwa := Lib.hid hwa
        have hxl : Hid (∀ w', Kept (fun k => U k ∨ wr.heap.size ≤ k ∧ k < wr.heap.size + 1) wa w' → Below w.heap.size wr w') := fun w' hk => by
          rw [hwa] at hk
          exact ((Below.refl _ wr).alloc (by have := hKr.size; omega) _).trans (hk.below fun k hk => .inl (HU'.out k hk))
        unfold Opr.box at Hwa
        clear hwa
        by_cases hwh : r.what = 2
        · obtain ⟨e0, n0, s0, he0, hs0, hen⟩ := upp_read hGr (HD.ok hHr) r.at_
          have hG' := Lib.hid hGr
          have Hs0 := Lib.hid hs0
          have He0 := Lib.hid he0
          have hw2 : (r.what == 2) = true := by simpa using hwh
          clear hs0 he0 hGr hwh hHr hKr
          rcases hen with ⟨rfl, rfl⟩ | ⟨rfl, rfl⟩
          all_goals
            go_wp2_with (first
              | (rw [← Hwa.out]
                 go_at_call 12; (with_reducible refine (read_any _ _ _ _ _ r.at_ hB.hd).mono ?_)
                 rintro e w4 ⟨A4, n4, c4, he, hown4, hb4⟩
                 rw [He0.out] at he hown4
                 subst he
                 have hn4 := own_len hown4
                 rw [List.length_map, Hs0.out] at hn4
                 subst hn4
                 have hk4 := Kept.of hb4 (HD.old hB.hd)
                 have hB4 := hB.next (hB.hd.below hb4) hk4
                 have hK4 := hKa.out.unbox hk4
                 have hr4 := Rd.of_own hown4
                 have hx4 := boxed hB4.hx
                 obtain ⟨f0, f1, f2, f3⟩ := hx4
                 clear hown4 hb4 hk4)
              | (go_at_call 12; (with_reducible refine (read_any _ _ _ _ w4 r.at_ hB4.hd).mono ?_)
                 rintro e w5 ⟨A5, n5, c5, he, hown5, hb5⟩
                 rw [He0.out] at he hown5
                 subst he
                 have hn5 := own_len hown5
                 rw [List.length_map, Hs0.out] at hn5
                 subst hn5
                 have hk5 := Kept.of hb5 (HD.old hB4.hd)
                 have hB5 := hB4.next (hB4.hd.below hb5) hk5
                 have hK5 := hK4.unbox hk5
                 have kv4 := kcv _ _ _ c4 _ _ (hr4.below hb5)
                 have kv5 := kcv _ _ _ c5 _ _ (Rd.of_own hown5)
                 clear hB4 hK4 hr4 hown5 hb5 f0 f1 f2 f3))
            go_roundg (gk - 1)
            case measure => omega
            case rel => exact ⟨j + 1, k, by omega, by omega, by go_num, rfl, hK5, d, hB5.out, hG'.out⟩
        · obtain ⟨f, hf⟩ : ∃ f, Fine r.at_ m r.b.length = f := ⟨_, rfl⟩
          obtain ⟨d', hd', hG'⟩ := upp_step hGr r.at_ r.b f hf
          have hbl : r.b.length = r.len := by have := rb.1; simpa using this
          have hm' := Hm.out
          have hw2 : (r.what == 2) = false := by simpa using hwh
          have Hw : Hid (d.writes < 1000000) := by have := hGr.2.2.1; show d.writes < 1000000; omega
          have Hr : Hid (Rd wa wa.heap.size 1 r.A r.len (r.b.map bv)) := by
            rw [Hwa.out]
            exact (rb.alloc (by have := hKr.size; omega) _).more (by rw [World.size_alloc]; have := hKr.size; omega)
          have Hd' := Lib.hid hd'
          have HG' := Lib.hid hG'
          have fin : (decide (0 ≤ r.at_ ∧ r.at_ < max a 1 ∧ (r.len : Int) ≤ 64)) = f := by
            rw [← hf]; unfold Fine; rw [hbl]; congr 1; simp; omega
          clear hd' hG' hGr hf hbl hm' hwh
          have go : f = true ∧ (0 ≤ r.at_ ∧ r.at_ < max a 1 ∧ (r.len : Int) ≤ 64) ∨ f = false ∧ ¬ 0 ≤ r.at_ ∨ f = false ∧ 0 ≤ r.at_ ∧ ¬ r.at_ < max a 1 ∨ f = false ∧ 0 ≤ r.at_ ∧ r.at_ < max a 1 ∧ ¬ (r.len : Int) ≤ 64 := by
            rw [← fin]; simp; omega
          clear fin hHr hKr
          rcases go with ⟨rfl, t1, t2, t3⟩ | ⟨rfl, t1⟩ | ⟨rfl, t1, t2⟩ | ⟨rfl, t1, t2, t3⟩
          all_goals
            go_wp2_with (first
              | (rw [← Hwa.out]
                 go_at_call 18; (with_reducible refine (write_any _ _ _ _ _ r.at_ _ _ _ r.b hB.hd Hr.out rlt Hw.out).mono ?_)
                 rintro e w4 ⟨he, hH4, hK4⟩
                 rw [Hd'.out] at he hH4
                 subst he
                 have hB4 := hB.next hH4 hK4
                 have hK4 := hKa.out.unbox hK4
                 obtain ⟨f0, f1, f2, f3⟩ := boxed hB4.hx
                 clear hH4))
            all_goals
              go_roundg (gk - 1)
              case measure => omega
              case rel => first
                | exact ⟨j + 1, k + 1, by omega, by omega, by go_num, by go_num, hK4, d', hB4.out, by simpa using HG'.out⟩
                | exact ⟨j + 1, k, by omega, by omega, by go_num, rfl, hK4, d', hB4.out, by simpa using HG'.out⟩
      · obtain rfl : j = n := by omega
        obtain ⟨_, _, h3, h4⟩ := hGr
        have hm := Hm.out
        have hkr := hKr.below HU'.out
        have e3 : (d.writes : Int) = (k : Int) := by omega
        have e4 : (d.L.length : Int) = (m : Int) := by omega
        have E3 := Lib.hid e3
        have E4 := Lib.hid e4
        clear h3 h4 hm e3 e4
        go_wp2_with (first
          | (go_at_call 22; (with_reducible refine (writes_any U _ _ _ _ hHr).mono ?_)
             rintro e w4 ⟨rfl, rfl⟩
             rw [E3.out])
          | (go_at_call 24; (with_reducible refine (many_any U _ _ _ _ hHr).mono ?_)
             rintro e w4 ⟨rfl, rfl⟩
             rw [E4.out]))
        all_goals
          go_ret
          have hm := Hm.out
          exact ⟨ret_bool (by simp; omega), hkr⟩
end Go.Proofs.Ytonbfolgdfkgnaa
