/- PanelOwn, walked. -/
import Derived.Test.YtphghclkfbhagaaPanLaw
set_option linter.unusedVariables false
set_option linter.unusedSimpArgs false
set_option maxRecDepth 100000
namespace Go.Proofs.Ytphghclkfbhagaa
open Go Go.RowKit

theorem zeros_getD (K : List Int) (k : Nat) : (List.replicate K.length (0 : Int)).getD k 0 = 0 := by
  rw [List.getD_eq_getElem?_getD, List.getElem?_replicate]
  split <;> rfl
theorem getD_some {l : List Int} {k : Nat} (h : k < l.length) : l[k]? = some (l.getD k 0) := by
  rw [List.getD_eq_getElem?_getD, List.getElem?_eq_getElem h]; rfl
theorem getD_someB {l : List Bool} {k : Nat} (h : k < l.length) : l[k]? = some (l.getD k false) := by
  rw [List.getD_eq_getElem?_getD, List.getElem?_eq_getElem h]; rfl
theorem each_get (d : PD) (hap : Nat → Int) (k : Nat) (hk : k < d.K.length) (hl : d.S.length = d.K.length) : (d.each hap).S.getD k 0 = nextI (d.K.getD k 0) (d.S.getD k 0) (hap k) := by
  show (allS d.K hap d.S d.K.length).1.getD k 0 = _
  rw [allS_get _ _ _ _ _ (by rw [hl]; exact Nat.le_refl _), if_pos hk]
def EndPost (w : World) (e : Ending) (w' : World) : Prop := e = .returned (.bool true) ∧ Below w.heap.size w w'
theorem Opr.box_cells (w : World) (r : Opr) (e : TypeId) (fr : Nat × Nat) (j : Nat) (v : Value) (h : r.cells[j]? = some v) : (w.alloc (.cells r.cells.toArray e fr)).cell? ⟨w.heap.size, j, none⟩ = some v := by
  rw [cell_of_row _ _ _ _ _ _ (heap_alloc_new w _)]
  simpa using h
set_option maxHeartbeats 4000000 in
theorem pown_walk (A : Option Addr) (n c : Nat) (K : List Int) (Ao : Option Addr) (no co : Nat) (lo : List Opr) (a : Int) (w : World)
    (h0 : Rd w w.heap.size 1 A n (K.map iv) ∧ n ≤ c ∧ c ≤ maxLen) (h1 : Ops w w.heap.size Ao no lo ∧ no ≤ co ∧ co ≤ maxLen) (ha : (Lit.int .u8 a).wf = true) :
    Calls Try.prog 3 #[.slice A n c, .slice Ao no co, .int .u8 a] w (EndPost w) := by
  obtain ⟨hr, hnc, hcm⟩ := h0
  obtain ⟨hro, hoc, hocm⟩ := h1
  have ha2 := wf_u8_lt ha
  obtain ⟨a, rfl⟩ : ∃ k : Nat, a = (k : Int) := ⟨a.toNat, by omega⟩
  have hKl : K.length = n := by have := hr.1; simpa using this
  have hn63 : n ≤ 9223372036854775807 := by unfold maxLen at hcm; omega
  have hno63 : no ≤ 9223372036854775807 := by unfold maxLen at hocm; omega
  have HKl := Lib.hid hKl
  have Hlo : Hid (lo.length = no) := hro.1.1
  clear hKl ha
  have hH := phead_any w
  by_cases hok : okK K
  · have HO := Lib.hid hok
    have hn64 : n ≤ 64 := by have := hok.1; have := HKl.out; omega
    clear hok
    by_cases hn0 : n = 0
    · subst hn0
      go_enter Try.func3, Try.ntmps3
      go_wp2_with (first
        | (go_at_call 6; (with_reducible refine hH.mono ?_); rintro e w1 ⟨rfl, hb1⟩)
        | (go_at_call 7; (with_reducible refine (pnew_any A 0 c _ K _ (hr.below hb1) hb1.size hnc hcm).mono ?_)
           rintro e w2 ⟨hy, -, hb2⟩
           obtain ⟨p, q, rfl, lp, lq, h2⟩ := hy HO.out
           have s2 : St w w2 p q ⟨K, List.replicate K.length 0, false, false⟩ := ⟨h2, hb1.trans (hb2.mono hb1.size), Nat.le_trans hb1.size lp, Nat.le_trans hb1.size lq⟩
           clear hb1 hb2 hy h2 lp lq)
        | (go_at_call 8; (with_reducible refine (great_any A 0 c Ao no co _ lo _ (hro.below s2.b) s2.b.size hoc hocm hn63).mono ?_)
           rintro e w3 ⟨gb, rfl, -, hb3⟩
           have s3 := s2.below hb3
           clear hb3 s2)
        | fail)
      all_goals
        go_ret
        exact ⟨rfl, s3.b⟩
    · have hnp : 0 < n := by omega
      have t0 : ((n : Int) == 0) = false := by rw [beq_eq_false_iff_ne]; omega
      obtain ⟨k, hk, hkn⟩ : ∃ k : Nat, (a : Int) % (n : Int) = (k : Int) ∧ k < n := ⟨a % n, by omega, Nat.mod_lt _ hnp⟩
      clear hn0
      go_enter Try.func3, Try.ntmps3
      go_wp2_with (first
        | (go_at_call 6; (with_reducible refine hH.mono ?_); rintro e w1 ⟨rfl, hb1⟩)
        | (go_at_call 7; (with_reducible refine (pnew_any A n c _ K _ (hr.below hb1) hb1.size hnc hcm).mono ?_)
           rintro e w2 ⟨hy, -, hb2⟩
           obtain ⟨p, q, rfl, lp, lq, h2⟩ := hy HO.out
           have s2 : St w w2 p q ⟨K, List.replicate K.length 0, false, false⟩ := ⟨h2, hb1.trans (hb2.mono hb1.size), Nat.le_trans hb1.size lp, Nat.le_trans hb1.size lq⟩
           clear hb1 hb2 hy h2 lp lq)
        | (go_at_call 8; (with_reducible refine (great_any A n c Ao no co _ lo _ (hro.below s2.b) s2.b.size hoc hocm hn63).mono ?_)
           rintro e w3 ⟨gb, rfl, -, hb3⟩
           have s3 := s2.below hb3
           clear hb3 s2)
        | fail)
      · go_ret
        exact ⟨rfl, s3.b⟩
      rw [hk]
      clear hk
      go_loopg [10, 11] no (fun kq sv i wr => ∃ (j : Nat) (d : PD), kq + j = no ∧ i = .int .i64 j ∧ St w wr p q d ∧ d.K = K ∧ sv = .int .i64 (d.S.getD k 0))
      case atStart => exact ⟨0, _, by omega, rfl, s3, rfl, by rw [zeros_getD]⟩
      case round =>
        obtain ⟨j, d, hj, rfl, s3, hdK, rfl⟩ := hrel
        by_cases hlt : j < no
        · have hi0 : (0 : Int) ≤ (j : Int) := by omega
          have hi1 : (j : Int) < (no : Int) := by omega
          have hrr := hro.below s3.b
          obtain ⟨b, o, rfl, hbB, hc⟩ := hrr.1.2 (by omega)
          obtain ⟨r, hr1⟩ : ∃ r, lo[j]? = some r := ⟨_, List.getElem?_eq_getElem (by rw [Hlo.out]; exact hlt)⟩
          have c0 : wr.cell? ⟨b, o + j * 5, none⟩ = some (.int .i64 r.what) := hc j r hr1 0 _ rfl
          have c1 := hc j r hr1 1 _ rfl
          have c2 := hc j r hr1 2 _ rfl
          have c3 := hc j r hr1 3 _ rfl
          have c4 := hc j r hr1 4 _ rfl
          have hok1 := hrr.2 r (List.mem_of_getElem? hr1)
          have Ook := Lib.hid s3.h.okay
          have HdK := Lib.hid hdK
          obtain ⟨kk, hkk⟩ : ∃ x, x = K.getD k 0 := ⟨_, rfl⟩
          obtain ⟨s, hss⟩ : ∃ x, x = d.S.getD k 0 := ⟨_, rfl⟩
          have K1 : 1 ≤ kk ∧ kk ≤ 6 := by rw [hkk]; exact HO.out.2 _ (getD_mem (by rw [HKl.out]; exact hkn))
          have S1 : 0 ≤ s ∧ s < 9 := by rw [hss]; exact Ook.out.ss _ (getD_mem (by rw [Ook.out.len, HdK.out, HKl.out]; exact hkn))
          obtain ⟨kb, ko, rfl, kbB, kc⟩ := (hr.below s3.b).2 hnp
          have ck : ∀ w', Below w.heap.size w w' → w'.cell? ⟨kb, ko + k, none⟩ = some (.int .i64 kk) := fun w' hb => by
            have h1 := (hr.below hb).2 hnp
            obtain ⟨b', o', e', _, hc'⟩ := h1
            injection e' with e'
            injection e' with e1 e2
            subst e1 e2
            exact hc' k _ (by rw [List.getElem?_map, getD_some (by rw [HKl.out]; exact hkn), ← hkk]; rfl)
          have Hck := Lib.hid ck
          have Hkk := Lib.hid hkk
          have Hss := Lib.hid hss.symm
          rw [← hss]
          have hki0 : (0 : Int) ≤ (k : Int) := by omega
          have hki1 : (k : Int) < (n : Int) := by omega
          clear hc hr1 hrr hdK hkk hss ck kc
          have go : ((r.what == 3) = true) ∨ ((r.what == 3) = false ∧ (r.what == 4) = true) ∨ ((r.what == 3) = false ∧ (r.what == 4) = false ∧ (r.what == 5) = true) ∨
              ((r.what == 3) = false ∧ (r.what == 4) = false ∧ (r.what == 5) = false ∧ (r.what == 6) = true) ∨ ((r.what == 3) = false ∧ (r.what == 4) = false ∧ (r.what == 5) = false ∧ (r.what == 6) = false) := by
            cases (r.what == 3) <;> cases (r.what == 4) <;> cases (r.what == 5) <;> cases (r.what == 6) <;> simp
          rcases go with t3 | ⟨t3, t4⟩ | ⟨t3, t4, t5⟩ | ⟨t3, t4, t5, t6⟩ | ⟨t3, t4, t5, t6⟩
          · obtain ⟨z, hz⟩ : ∃ z, z = refN kk s 4 := ⟨_, rfl⟩
            have Hz := Lib.hid hz
            clear hz
            go_wp2_with (first
              | (go_at_call 9; (with_reducible refine (ack_any p q d _ (s3.below (below1 _ _)).h).mono ?_)
                 rintro e w4 ⟨rfl, h, hk4⟩
                 have s4 : St w w4 p q d.ack := (s3.below (below1 _ _)).next h hk4
                 have cK4 := Hck.out w4 s4.b
                 have HK4 : Hid (d.ack.K = K) := HdK.out
                 have HS4 : Hid (d.ack.S.getD k 0 = z) := by
                   show _ = _
                   rw [Hz.out]
                   have h1 := each_get d (fun _ => 4) k (by rw [HdK.out, HKl.out]; exact hkn) Ook.out.len
                   rw [HdK.out, ← Hkk.out, Hss.out] at h1
                   exact h1
                 clear h hk4 s3)
              | (go_at_call 14; (with_reducible refine (rnext_any kk s _ _ K1.1 K1.2 S1.1 S1.2 (by omega) (by omega)).mono ?_)
                 rintro e w5 ⟨he, rfl⟩
                 rw [← Hz.out] at he
                 subst he)
              | (go_at_call 15; (with_reducible refine (states_any p q _ _ s4.h).mono ?_)
                 rintro e w6 ⟨A6, n6, c6, rfl, hl, ho, hb⟩
                 have s6 := s4.below hb
                 obtain rfl : n = n6 := by rw [← hl]; have h1 := s4.h.okay.len; rw [h1, HK4.out, HKl.out]
                 obtain ⟨_, g, rfl, _, _, hcell, _⟩ := own_some ho (by omega)
                 have cz : w6.cell? ⟨g, k, none⟩ = some (.int .i64 z) := hcell k _ (by rw [List.getElem?_map, getD_some (by rw [hl]; exact hkn), HS4.out]; rfl)
                 clear hl ho hb hcell s4)
              | fail)
            go_roundg (gk - 1)
            case measure => omega
            case rel => exact ⟨j + 1, _, by omega, by go_num, s6, HK4.out, by rw [HS4.out]⟩

          · obtain ⟨z, hz⟩ : ∃ z, z = refN kk s 5 := ⟨_, rfl⟩
            have Hz := Lib.hid hz
            clear hz
            go_wp2_with (first
              | (go_at_call 10; (with_reducible refine (reset_any p q d _ (s3.below (below1 _ _)).h).mono ?_)
                 rintro e w4 ⟨rfl, h, hk4⟩
                 have s4 : St w w4 p q d.reset := (s3.below (below1 _ _)).next h hk4
                 have cK4 := Hck.out w4 s4.b
                 have HK4 : Hid (d.reset.K = K) := HdK.out
                 have HS4 : Hid (d.reset.S.getD k 0 = z) := by
                   show _ = _
                   rw [Hz.out]
                   have h1 := each_get d (fun _ => 5) k (by rw [HdK.out, HKl.out]; exact hkn) Ook.out.len
                   rw [HdK.out, ← Hkk.out, Hss.out] at h1
                   exact h1
                 clear h hk4 s3)
              | (go_at_call 14; (with_reducible refine (rnext_any kk s _ _ K1.1 K1.2 S1.1 S1.2 (by omega) (by omega)).mono ?_)
                 rintro e w5 ⟨he, rfl⟩
                 rw [← Hz.out] at he
                 subst he)
              | (go_at_call 15; (with_reducible refine (states_any p q _ _ s4.h).mono ?_)
                 rintro e w6 ⟨A6, n6, c6, rfl, hl, ho, hb⟩
                 have s6 := s4.below hb
                 obtain rfl : n = n6 := by rw [← hl]; have h1 := s4.h.okay.len; rw [h1, HK4.out, HKl.out]
                 obtain ⟨_, g, rfl, _, _, hcell, _⟩ := own_some ho (by omega)
                 have cz : w6.cell? ⟨g, k, none⟩ = some (.int .i64 z) := hcell k _ (by rw [List.getElem?_map, getD_some (by rw [hl]; exact hkn), HS4.out]; rfl)
                 clear hl ho hb hcell s4)
              | fail)
            go_roundg (gk - 1)
            case measure => omega
            case rel => exact ⟨j + 1, _, by omega, by go_num, s6, HK4.out, by rw [HS4.out]⟩

          · obtain ⟨z, hz⟩ : ∃ z, z = refN kk s 0 := ⟨_, rfl⟩
            have Hz := Lib.hid hz
            clear hz
            go_wp2_with (first
              | (go_at_call 11; (with_reducible refine (silence_any p q d _ (s3.below (below1 _ _)).h).mono ?_)
                 rintro e w4 ⟨rfl, h, hk4⟩
                 have s4 : St w w4 p q ({ d with silent := true } : PD) := (s3.below (below1 _ _)).next h hk4
                 have cK4 := Hck.out w4 s4.b
                 have HK4 : Hid (({ d with silent := true } : PD).K = K) := HdK.out
                 have HS4 : Hid (({ d with silent := true } : PD).S.getD k 0 = z) := by
                   show _ = _
                   rw [Hz.out]
                   exact Hss.out
                 clear h hk4 s3)
              | (go_at_call 14; (with_reducible refine (rnext_any kk s _ _ K1.1 K1.2 S1.1 S1.2 (by omega) (by omega)).mono ?_)
                 rintro e w5 ⟨he, rfl⟩
                 rw [← Hz.out] at he
                 subst he)
              | (go_at_call 15; (with_reducible refine (states_any p q _ _ s4.h).mono ?_)
                 rintro e w6 ⟨A6, n6, c6, rfl, hl, ho, hb⟩
                 have s6 := s4.below hb
                 obtain rfl : n = n6 := by rw [← hl]; have h1 := s4.h.okay.len; rw [h1, HK4.out, HKl.out]
                 obtain ⟨_, g, rfl, _, _, hcell, _⟩ := own_some ho (by omega)
                 have cz : w6.cell? ⟨g, k, none⟩ = some (.int .i64 z) := hcell k _ (by rw [List.getElem?_map, getD_some (by rw [hl]; exact hkn), HS4.out]; rfl)
                 clear hl ho hb hcell s4)
              | fail)
            go_roundg (gk - 1)
            case measure => omega
            case rel => exact ⟨j + 1, _, by omega, by go_num, s6, HK4.out, by rw [HS4.out]⟩

          · obtain ⟨z, hz⟩ : ∃ z, z = refN kk s 0 := ⟨_, rfl⟩
            have Hz := Lib.hid hz
            clear hz
            go_wp2_with (first
              | (go_at_call 12; (with_reducible refine (test_any p q d _ r.on (s3.below (below1 _ _)).h).mono ?_)
                 rintro e w4 ⟨rfl, h, hk4⟩
                 have s4 : St w w4 p q ({ d with tested := r.on } : PD) := (s3.below (below1 _ _)).next h hk4
                 have cK4 := Hck.out w4 s4.b
                 have HK4 : Hid (({ d with tested := r.on } : PD).K = K) := HdK.out
                 have HS4 : Hid (({ d with tested := r.on } : PD).S.getD k 0 = z) := by
                   show _ = _
                   rw [Hz.out]
                   exact Hss.out
                 clear h hk4 s3)
              | (go_at_call 14; (with_reducible refine (rnext_any kk s _ _ K1.1 K1.2 S1.1 S1.2 (by omega) (by omega)).mono ?_)
                 rintro e w5 ⟨he, rfl⟩
                 rw [← Hz.out] at he
                 subst he)
              | (go_at_call 15; (with_reducible refine (states_any p q _ _ s4.h).mono ?_)
                 rintro e w6 ⟨A6, n6, c6, rfl, hl, ho, hb⟩
                 have s6 := s4.below hb
                 obtain rfl : n = n6 := by rw [← hl]; have h1 := s4.h.okay.len; rw [h1, HK4.out, HKl.out]
                 obtain ⟨_, g, rfl, _, _, hcell, _⟩ := own_some ho (by omega)
                 have cz : w6.cell? ⟨g, k, none⟩ = some (.int .i64 z) := hcell k _ (by rw [List.getElem?_map, getD_some (by rw [hl]; exact hkn), HS4.out]; rfl)
                 clear hl ho hb hcell s4)
              | fail)
            go_roundg (gk - 1)
            case measure => omega
            case rel => exact ⟨j + 1, _, by omega, by go_num, s6, HK4.out, by rw [HS4.out]⟩

          · obtain ⟨Wb, hWb⟩ : ∃ W, W = wr.alloc (.cells #[.int .i64 r.what, .slice r.A1 r.n1 r.c1, .slice r.A2 r.n2 r.c2, .bool r.on, .slice r.A3 r.n3 r.c3] 30) := ⟨_, rfl⟩
            have HWb := Lib.hid hWb
            have hbb : Below wr.heap.size wr Wb := by rw [hWb]; exact below1 _ _
            have sb := s3.below hbb
            have xo : Off p q Wb wr.heap.size := ⟨by rw [hWb, World.size_alloc]; omega, by have := s3.h.lp; omega, by have := s3.h.lq; omega⟩
            have b1 : Wb.cell? ⟨wr.heap.size, 1, none⟩ = some (.slice r.A1 r.n1 r.c1) := by rw [hWb]; exact Opr.box_cells wr r _ _ 1 _ rfl
            have b2 : Wb.cell? ⟨wr.heap.size, 2, none⟩ = some (.slice r.A2 r.n2 r.c2) := by rw [hWb]; exact Opr.box_cells wr r _ _ 2 _ rfl
            have R1 := Lib.hid (RdU.of_old (p := p) (q := q) (hok1.r1.below (hbb.mono s3.b.size)) sb.b.size sb.lp sb.lq)
            have R2 := Lib.hid (RdU.of_old (p := p) (q := q) (hok1.r2.below (hbb.mono s3.b.size)) sb.b.size sb.lp sb.lq)
            have HSb := Lib.hid sb
            have Hb1 := Lib.hid b1
            have Hb2 := Lib.hid b2
            clear hWb hbb b1 b2 hok1 s3 sb
            by_cases hlen : r.n1 = n ∧ r.n2 = n
            · obtain ⟨hl1, hl2⟩ := hlen
              have HB1 : Hid (r.bad.length = n) := by have := R1.out.1; show _ = _; rw [← hl1]; simpa using this
              have HB2 : Hid (r.first.length = n) := by have := R2.out.1; show _ = _; rw [← hl2]; simpa using this
              have HL1 := Lib.hid hl1
              have HL2 := Lib.hid hl2
              obtain ⟨u, hu⟩ : ∃ u, u = r.bad.getD k false := ⟨_, rfl⟩
              obtain ⟨v, hv⟩ : ∃ v, v = r.first.getD k false := ⟨_, rfl⟩
              have HU := Lib.hid hu
              have HV := Lib.hid hv
              have HsK : Hid ((d.see r.bad r.first).2.K = K) := by show _ = _; rw [see_K]; exact HdK.out
              have HsB : Hid ((d.see r.bad r.first).1 = true) := by show _ = _; rw [PD.see, if_pos (by rw [HB1.out, HB2.out, HdK.out, HKl.out]; exact ⟨rfl, rfl⟩)]
              have HsS : Hid ((d.see r.bad r.first).2.S.getD k 0 = nextI kk s (hapI u v)) := by
                show _ = _
                rw [PD.see, if_pos (by rw [HB1.out, HB2.out, HdK.out, HKl.out]; exact ⟨rfl, rfl⟩)]
                have h1 := each_get d (PD.seeH r.bad r.first) k (by rw [HdK.out, HKl.out]; exact hkn) Ook.out.len
                rw [HdK.out, ← Hkk.out, Hss.out] at h1
                rw [hu, hv]
                exact h1
              clear hl1 hl2 hu hv
              have hvv : u = false ∨ (u = true ∧ v = false) ∨ (u = true ∧ v = true) := by cases u <;> cases v <;> simp
              rcases hvv with rfl | ⟨rfl, rfl⟩ | ⟨rfl, rfl⟩
              · obtain ⟨z, hz⟩ : ∃ z, z = refN kk s 3 := ⟨_, rfl⟩
                have Hz := Lib.hid hz
                clear hz
                go_wp2_with (first
                  | (go_at_call 13; rw [← HWb.out]; (with_reducible refine (see_any p q d _ HSb.out.h r.A1 r.A2 r.n1 r.c1 r.n2 r.c2 r.bad r.first R1.out R2.out).mono ?_)
                     rintro e w4 ⟨he, h, hk4⟩
                     rw [HsB.out] at he
                     subst he
                     have s4 : St w w4 p q (d.see r.bad r.first).2 := HSb.out.next h hk4
                     have cK4 := Hck.out w4 s4.b
                     have HK4 : Hid ((d.see r.bad r.first).2.K = K) := HsK.out
                     have HS4 : Hid ((d.see r.bad r.first).2.S.getD k 0 = z) := by
                       show _ = _
                       rw [Hz.out]
                       rw [HsS.out, show hapI false v = 3 from rfl, refN, if_neg (by omega)]
                     have d1 := (World.cell?_of_block (hk4.block wr.heap.size xo)).trans Hb1.out
                     have d2 := (World.cell?_of_block (hk4.block wr.heap.size xo)).trans Hb2.out
                     have q1 := R1.out.next hk4
                     have q2 := R2.out.next hk4
                     obtain ⟨x1, o1, hA1, _, hq1⟩ := q1.2 (by rw [HL1.out]; exact hnp)
                     obtain ⟨x2, o2, hA2, _, hq2⟩ := q2.2 (by rw [HL2.out]; exact hnp)
                     have d3 : w4.cell? ⟨x1, o1 + k, none⟩ = some (.bool false) := hq1 k _ (by rw [List.getElem?_map, getD_someB (by rw [HB1.out]; exact hkn), ← HU.out]; rfl)
                     rw [hA1, HL1.out] at d1
                     rw [hA2, HL2.out] at d2
                     clear q1 q2 hq1 hq2 hA1 hA2
                     clear h hk4)
                  | (go_at_call 14; (with_reducible refine (rnext_any kk s _ _ K1.1 K1.2 S1.1 S1.2 (by omega) (by omega)).mono ?_)
                     rintro e w5 ⟨he, rfl⟩
                     rw [← Hz.out] at he
                     subst he)
                  | (go_at_call 15; (with_reducible refine (states_any p q _ _ s4.h).mono ?_)
                     rintro e w6 ⟨A6, n6, c6, rfl, hl, ho, hb⟩
                     have s6 := s4.below hb
                     obtain rfl : n = n6 := by rw [← hl]; have h1 := s4.h.okay.len; rw [h1, HK4.out, HKl.out]
                     obtain ⟨_, g, rfl, _, _, hcell, _⟩ := own_some ho (by omega)
                     have cz : w6.cell? ⟨g, k, none⟩ = some (.int .i64 z) := hcell k _ (by rw [List.getElem?_map, getD_some (by rw [hl]; exact hkn), HS4.out]; rfl)
                     clear hl ho hb hcell s4)
                  | fail)
                go_roundg (gk - 1)
                case measure => omega
                case rel => exact ⟨j + 1, _, by omega, by go_num, s6, HK4.out, by rw [HS4.out]⟩
              · obtain ⟨z, hz⟩ : ∃ z, z = refN kk s 1 := ⟨_, rfl⟩
                have Hz := Lib.hid hz
                clear hz
                go_wp2_with (first
                  | (go_at_call 13; rw [← HWb.out]; (with_reducible refine (see_any p q d _ HSb.out.h r.A1 r.A2 r.n1 r.c1 r.n2 r.c2 r.bad r.first R1.out R2.out).mono ?_)
                     rintro e w4 ⟨he, h, hk4⟩
                     rw [HsB.out] at he
                     subst he
                     have s4 : St w w4 p q (d.see r.bad r.first).2 := HSb.out.next h hk4
                     have cK4 := Hck.out w4 s4.b
                     have HK4 : Hid ((d.see r.bad r.first).2.K = K) := HsK.out
                     have HS4 : Hid ((d.see r.bad r.first).2.S.getD k 0 = z) := by
                       show _ = _
                       rw [Hz.out]
                       rw [HsS.out, show hapI true false = 1 from rfl, refN, if_neg (by omega)]
                     have d1 := (World.cell?_of_block (hk4.block wr.heap.size xo)).trans Hb1.out
                     have d2 := (World.cell?_of_block (hk4.block wr.heap.size xo)).trans Hb2.out
                     have q1 := R1.out.next hk4
                     have q2 := R2.out.next hk4
                     obtain ⟨x1, o1, hA1, _, hq1⟩ := q1.2 (by rw [HL1.out]; exact hnp)
                     obtain ⟨x2, o2, hA2, _, hq2⟩ := q2.2 (by rw [HL2.out]; exact hnp)
                     have d3 : w4.cell? ⟨x1, o1 + k, none⟩ = some (.bool true) := hq1 k _ (by rw [List.getElem?_map, getD_someB (by rw [HB1.out]; exact hkn), ← HU.out]; rfl)
                     have d4 : w4.cell? ⟨x2, o2 + k, none⟩ = some (.bool false) := hq2 k _ (by rw [List.getElem?_map, getD_someB (by rw [HB2.out]; exact hkn), ← HV.out]; rfl)
                     rw [hA1, HL1.out] at d1
                     rw [hA2, HL2.out] at d2
                     clear q1 q2 hq1 hq2 hA1 hA2
                     clear h hk4)
                  | (go_at_call 14; (with_reducible refine (rnext_any kk s _ _ K1.1 K1.2 S1.1 S1.2 (by omega) (by omega)).mono ?_)
                     rintro e w5 ⟨he, rfl⟩
                     rw [← Hz.out] at he
                     subst he)
                  | (go_at_call 15; (with_reducible refine (states_any p q _ _ s4.h).mono ?_)
                     rintro e w6 ⟨A6, n6, c6, rfl, hl, ho, hb⟩
                     have s6 := s4.below hb
                     obtain rfl : n = n6 := by rw [← hl]; have h1 := s4.h.okay.len; rw [h1, HK4.out, HKl.out]
                     obtain ⟨_, g, rfl, _, _, hcell, _⟩ := own_some ho (by omega)
                     have cz : w6.cell? ⟨g, k, none⟩ = some (.int .i64 z) := hcell k _ (by rw [List.getElem?_map, getD_some (by rw [hl]; exact hkn), HS4.out]; rfl)
                     clear hl ho hb hcell s4)
                  | fail)
                go_roundg (gk - 1)
                case measure => omega
                case rel => exact ⟨j + 1, _, by omega, by go_num, s6, HK4.out, by rw [HS4.out]⟩
              · obtain ⟨z, hz⟩ : ∃ z, z = refN kk s 2 := ⟨_, rfl⟩
                have Hz := Lib.hid hz
                clear hz
                go_wp2_with (first
                  | (go_at_call 13; rw [← HWb.out]; (with_reducible refine (see_any p q d _ HSb.out.h r.A1 r.A2 r.n1 r.c1 r.n2 r.c2 r.bad r.first R1.out R2.out).mono ?_)
                     rintro e w4 ⟨he, h, hk4⟩
                     rw [HsB.out] at he
                     subst he
                     have s4 : St w w4 p q (d.see r.bad r.first).2 := HSb.out.next h hk4
                     have cK4 := Hck.out w4 s4.b
                     have HK4 : Hid ((d.see r.bad r.first).2.K = K) := HsK.out
                     have HS4 : Hid ((d.see r.bad r.first).2.S.getD k 0 = z) := by
                       show _ = _
                       rw [Hz.out]
                       rw [HsS.out, show hapI true true = 2 from rfl, refN, if_neg (by omega)]
                     have d1 := (World.cell?_of_block (hk4.block wr.heap.size xo)).trans Hb1.out
                     have d2 := (World.cell?_of_block (hk4.block wr.heap.size xo)).trans Hb2.out
                     have q1 := R1.out.next hk4
                     have q2 := R2.out.next hk4
                     obtain ⟨x1, o1, hA1, _, hq1⟩ := q1.2 (by rw [HL1.out]; exact hnp)
                     obtain ⟨x2, o2, hA2, _, hq2⟩ := q2.2 (by rw [HL2.out]; exact hnp)
                     have d3 : w4.cell? ⟨x1, o1 + k, none⟩ = some (.bool true) := hq1 k _ (by rw [List.getElem?_map, getD_someB (by rw [HB1.out]; exact hkn), ← HU.out]; rfl)
                     have d4 : w4.cell? ⟨x2, o2 + k, none⟩ = some (.bool true) := hq2 k _ (by rw [List.getElem?_map, getD_someB (by rw [HB2.out]; exact hkn), ← HV.out]; rfl)
                     rw [hA1, HL1.out] at d1
                     rw [hA2, HL2.out] at d2
                     clear q1 q2 hq1 hq2 hA1 hA2
                     clear h hk4)
                  | (go_at_call 14; (with_reducible refine (rnext_any kk s _ _ K1.1 K1.2 S1.1 S1.2 (by omega) (by omega)).mono ?_)
                     rintro e w5 ⟨he, rfl⟩
                     rw [← Hz.out] at he
                     subst he)
                  | (go_at_call 15; (with_reducible refine (states_any p q _ _ s4.h).mono ?_)
                     rintro e w6 ⟨A6, n6, c6, rfl, hl, ho, hb⟩
                     have s6 := s4.below hb
                     obtain rfl : n = n6 := by rw [← hl]; have h1 := s4.h.okay.len; rw [h1, HK4.out, HKl.out]
                     obtain ⟨_, g, rfl, _, _, hcell, _⟩ := own_some ho (by omega)
                     have cz : w6.cell? ⟨g, k, none⟩ = some (.int .i64 z) := hcell k _ (by rw [List.getElem?_map, getD_some (by rw [hl]; exact hkn), HS4.out]; rfl)
                     clear hl ho hb hcell s4)
                  | fail)
                go_roundg (gk - 1)
                case measure => omega
                case rel => exact ⟨j + 1, _, by omega, by go_num, s6, HK4.out, by rw [HS4.out]⟩
            · have HsE : Hid (d.see r.bad r.first = (false, d)) := by
                show _ = _
                rw [PD.see, if_neg]
                have e1 := R1.out.1
                have e2 := R2.out.1
                simp only [List.length_map] at e1 e2
                rw [e1, e2, HdK.out, HKl.out]
                exact hlen
              clear hlen
              obtain ⟨z, hz⟩ : ∃ z, z = refN kk s 0 := ⟨_, rfl⟩
              have Hz := Lib.hid hz
              clear hz
              go_wp2_with (first
                | (go_at_call 13; rw [← HWb.out]; (with_reducible refine (see_any p q d _ HSb.out.h r.A1 r.A2 r.n1 r.c1 r.n2 r.c2 r.bad r.first R1.out R2.out).mono ?_)
                   rintro e w4 ⟨he, h, hk4⟩
                   rw [HsE.out] at he h
                   subst he
                   have s4 : St w w4 p q d := HSb.out.next h hk4
                   have cK4 := Hck.out w4 s4.b
                   have HK4 : Hid (d.K = K) := HdK.out
                   have HS4 : Hid (d.S.getD k 0 = z) := by
                     show _ = _
                     rw [Hz.out]
                     exact Hss.out
                   clear h hk4)
                | (go_at_call 14; (with_reducible refine (rnext_any kk s _ _ K1.1 K1.2 S1.1 S1.2 (by omega) (by omega)).mono ?_)
                   rintro e w5 ⟨he, rfl⟩
                   rw [← Hz.out] at he
                   subst he)
                | (go_at_call 15; (with_reducible refine (states_any p q _ _ s4.h).mono ?_)
                   rintro e w6 ⟨A6, n6, c6, rfl, hl, ho, hb⟩
                   have s6 := s4.below hb
                   obtain rfl : n = n6 := by rw [← hl]; have h1 := s4.h.okay.len; rw [h1, HK4.out, HKl.out]
                   obtain ⟨_, g, rfl, _, _, hcell, _⟩ := own_some ho (by omega)
                   have cz : w6.cell? ⟨g, k, none⟩ = some (.int .i64 z) := hcell k _ (by rw [List.getElem?_map, getD_some (by rw [hl]; exact hkn), HS4.out]; rfl)
                   clear hl ho hb hcell s4)
                | fail)
              go_roundg (gk - 1)
              case measure => omega
              case rel => exact ⟨j + 1, _, by omega, by go_num, s6, HK4.out, by rw [HS4.out]⟩
        · obtain rfl : j = no := by omega
          go_wp2_with fail
          go_ret
          exact ⟨rfl, s3.b⟩
  · have HO := Lib.hid hok
    clear hok
    go_enter Try.func3, Try.ntmps3
    go_wp2_with (first
      | (go_at_call 6; (with_reducible refine hH.mono ?_); rintro e w1 ⟨rfl, hb1⟩)
      | (go_at_call 7; (with_reducible refine (pnew_any A n c _ K _ (hr.below hb1) hb1.size hnc hcm).mono ?_)
         rintro e w2 ⟨-, hn, hb2⟩
         obtain rfl := hn HO.out
         have HB : Hid (Below w.heap.size w w2) := hb1.trans (hb2.mono hb1.size)
         clear hb1 hb2 hn)
      | fail)
    go_ret
    exact ⟨rfl, HB.out⟩
end Go.Proofs.Ytphghclkfbhagaa
