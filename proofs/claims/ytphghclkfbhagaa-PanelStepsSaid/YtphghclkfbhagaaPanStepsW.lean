/- PanelSteps, walked. -/
import Derived.Test.YtphghclkfbhagaaPanLaw
set_option linter.unusedVariables false
set_option linter.unusedSimpArgs false
set_option maxRecDepth 100000
namespace Go.Proofs.Ytphghclkfbhagaa
open Go Go.RowKit

theorem len64 {w : World} {p q n : Nat} {d : PD} (hl : d.S.length = n) (h : HP w p q d) : n ≤ 64 := by
  obtain ⟨A, c, h⟩ := h
  have := h.n64
  have := h.len
  omega
def EndPost (w : World) (e : Ending) (w' : World) : Prop := e = .returned (.bool true) ∧ Below w.heap.size w w'
set_option maxHeartbeats 4000000 in
theorem psteps_walk (A : Option Addr) (n c : Nat) (K : List Int) (Ao : Option Addr) (no co : Nat) (lo : List Opr) (Ab : Option Addr) (nb cb : Nat) (bs : List Bool) (Af : Option Addr) (nf cf : Nat) (fs : List Bool) (w : World)
    (h0 : Rd w w.heap.size 1 A n (K.map iv) ∧ n ≤ c ∧ c ≤ maxLen) (h1 : Ops w w.heap.size Ao no lo ∧ no ≤ co ∧ co ≤ maxLen)
    (h2 : Rd w w.heap.size 1 Ab nb (bs.map bo) ∧ nb ≤ cb ∧ cb ≤ maxLen) (h3 : Rd w w.heap.size 1 Af nf (fs.map bo) ∧ nf ≤ cf ∧ cf ≤ maxLen) :
    Calls Try.prog 5 #[.slice A n c, .slice Ao no co, .slice Ab nb cb, .slice Af nf cf] w (EndPost w) := by
  obtain ⟨hr, hnc, hcm⟩ := h0
  obtain ⟨hro, hoc, hocm⟩ := h1
  obtain ⟨hrb, hbc, hbcm⟩ := h2
  obtain ⟨hrf, hfc, hfcm⟩ := h3
  have hKl : K.length = n := by have := hr.1; simpa using this
  have hn63 : n ≤ 9223372036854775807 := by unfold maxLen at hcm; omega
  have hno63 : no ≤ 9223372036854775807 := by unfold maxLen at hocm; omega
  have HKl := Lib.hid hKl
  have Hlo : Hid (lo.length = no) := hro.1.1
  clear hKl
  have hH := phead_any w
  by_cases hok : okK K
  · have HO := Lib.hid hok
    have hn64 : n ≤ 64 := by have := hok.1; have := HKl.out; omega
    clear hok
    obtain ⟨sm, hsm⟩ : ∃ s, IntKind.i64.wrap ((nb : Int) + (nf : Int)) = s := ⟨_, rfl⟩
    obtain ⟨big, hbig⟩ : ∃ b, decide (900 < sm) = b := ⟨_, rfl⟩
    go_enter Try.func5, Try.ntmps5
    go_wp2_with (first
      | (go_at_call 6; (with_reducible refine hH.mono ?_); rintro e w1 ⟨rfl, hb1⟩)
      | (go_at_call 7; (with_reducible refine (pnew_any A n c _ K _ (hr.below hb1) hb1.size hnc hcm).mono ?_)
         rintro e w2 ⟨hy, -, hb2⟩
         obtain ⟨p, q, rfl, lp, lq, h2⟩ := hy HO.out
         have s2 : St w w2 p q ⟨K, List.replicate K.length 0, false, false⟩ := ⟨h2, hb1.trans (hb2.mono hb1.size), Nat.le_trans hb1.size lp, Nat.le_trans hb1.size lq⟩
         clear hb1 hb2 hy h2 lp lq)
      | (go_at_call 8; (with_reducible refine (great_any A n c Ao no co _ lo _ (hro.below s2.b) s2.b.size hoc hocm hn63).mono ?_)
         rintro e w3 ⟨gb, rfl, -, hb3⟩
         have s3 := s2.below hb3
         clear hb3 s2)
      | fail)
    · go_ret
      exact ⟨rfl, s3.b⟩
    · go_ret
      exact ⟨rfl, s3.b⟩
    have hbf : big = false := by assumption
    subst hbf
    clear hsm hbig
    go_loopg [11] no (fun k i wr => ∃ (j : Nat) (d : PD), k + j = no ∧ i = .int .i64 j ∧ St w wr p q d)
    case atStart => exact ⟨0, _, by omega, rfl, s3⟩
    case round =>
      obtain ⟨j, d, hj, rfl, s⟩ := hrel
      clear s3
      by_cases hlt : j < no
      · have hi0 : (0 : Int) ≤ (j : Int) := by omega
        have hi1 : (j : Int) < (no : Int) := by omega
        have hrr := hro.below s.b
        obtain ⟨b, o, rfl, hbB, hc⟩ := hrr.1.2 (by omega)
        obtain ⟨r, hr1⟩ : ∃ r, lo[j]? = some r := ⟨_, List.getElem?_eq_getElem (by rw [Hlo.out]; exact hlt)⟩
        have c0 : wr.cell? ⟨b, o + j * 5, none⟩ = some (.int .i64 r.what) := hc j r hr1 0 _ rfl
        have c1 := hc j r hr1 1 _ rfl
        have c2 := hc j r hr1 2 _ rfl
        have hok1 := hrr.2 r (List.mem_of_getElem? hr1)
        have hbo : Off p q wr b := ⟨Nat.lt_of_lt_of_le hbB s.b.size, by have := s.lp; omega, by have := s.lq; omega⟩
        have R1 := Lib.hid (RdU.of_old (p := p) (q := q) hok1.r1 s.b.size s.lp s.lq)
        have R2 := Lib.hid (RdU.of_old (p := p) (q := q) hok1.r2 s.b.size s.lp s.lq)
        clear hc hr1 hok1 hrr
        have go : (r.what == 3) = true ∨ (r.what == 3) = false ∧ (r.what == 4) = true ∨ (r.what == 3) = false ∧ (r.what == 4) = false := by
          cases (r.what == 3) <;> cases (r.what == 4) <;> simp
        rcases go with t1 | ⟨t1, t2⟩ | ⟨t1, t2⟩
        · go_wp2_with (first
            | (go_at_call 9; (with_reducible refine (ack_any p q d _ s.h).mono ?_)
               rintro e w4 ⟨rfl, h, k⟩
               have s4 := s.next h k
               clear h k)
            | fail)
          go_roundg (gk - 1)
          case measure => omega
          case rel => exact ⟨j + 1, _, by omega, by go_num, s4⟩
        · go_wp2_with (first
            | (go_at_call 10; (with_reducible refine (reset_any p q d _ s.h).mono ?_)
               rintro e w4 ⟨rfl, h, k⟩
               have s4 := s.next h k
               clear h k)
            | fail)
          go_roundg (gk - 1)
          case measure => omega
          case rel => exact ⟨j + 1, _, by omega, by go_num, s4⟩
        · go_wp2_with fail
          refine startH (fun w' => Kept (Off p q wr) wr w' ∧ w'.cell? ⟨b, o + j * 5 + 1, none⟩ = some (.slice r.A1 r.n1 r.c1) ∧ w'.cell? ⟨b, o + j * 5 + 2, none⟩ = some (.slice r.A2 r.n2 r.c2)) 12 #[false, false, false, false, false, false, false, false, false, false, false, false] rfl rfl (by kernel_rfl) ?_ (fun hHeld => ?_)
          · (first | exact ⟨(Kept.refl _ _).drew, c1, c2⟩ | assumption)
          refine takeH 0 58 #[true, false, false, false, false, false, false, false, false, false, false, false] (v := ?_) rfl rfl rfl (by kernel_rfl) (by kernel_rfl) (by kernel_rfl) (fun _ _ _ h => h) (Or.inl ⟨by rfl, ?_⟩) hHeld ?_
          rotate_left
          · (intro w' hSw; (try dsimp only at hSw); go_simp; (try with_reducible rfl))
          simp only [List.set_cons_zero, List.set_cons_succ]
          refine takeH 1 59 #[true, true, false, false, false, false, false, false, false, false, false, false] (v := ?_) rfl rfl rfl (by kernel_rfl) (by kernel_rfl) (by kernel_rfl) (fun _ _ _ h => h) (Or.inl ⟨by rfl, ?_⟩) hHeld ?_
          rotate_left
          · (intro w' hSw; (try dsimp only at hSw); go_simp; (try with_reducible rfl))
          simp only [List.set_cons_zero, List.set_cons_succ]
          refine takeH 2 60 #[true, true, true, false, false, false, false, false, false, false, false, false] (v := ?_) rfl rfl rfl (by kernel_rfl) (by kernel_rfl) (by kernel_rfl) (fun _ _ _ h => h) (Or.inl ⟨by rfl, ?_⟩) hHeld ?_
          rotate_left
          · (intro w' hSw; (try dsimp only at hSw); go_simp; (try with_reducible rfl))
          simp only [List.set_cons_zero, List.set_cons_succ]
          refine takeH 3 61 #[true, true, true, true, false, false, false, false, false, false, false, false] (v := ?_) rfl rfl rfl (by kernel_rfl) (by kernel_rfl) (by kernel_rfl) (fun _ _ _ h => h) (Or.inl ⟨by rfl, ?_⟩) hHeld ?_
          rotate_left
          · (intro w' hSw; (try dsimp only at hSw); go_simp; (try with_reducible rfl))
          simp only [List.set_cons_zero, List.set_cons_succ]
          refine takeH 4 62 #[true, true, true, true, true, false, false, false, false, false, false, false] (v := ?_) rfl rfl rfl (by kernel_rfl) (by kernel_rfl) (by kernel_rfl) (fun _ _ _ h => h) (Or.inl ⟨by rfl, ?_⟩) hHeld ?_
          rotate_left
          · (intro w' hSw; (try dsimp only at hSw); go_simp; (try with_reducible rfl))
          simp only [List.set_cons_zero, List.set_cons_succ]
          refine takeH 5 63 #[true, true, true, true, true, true, false, false, false, false, false, false] (v := ?_) rfl rfl rfl (by kernel_rfl) (by kernel_rfl) (by kernel_rfl) (fun _ _ _ h => h) (Or.inl ⟨by rfl, ?_⟩) hHeld ?_
          rotate_left
          · (intro w' hSw; (try dsimp only at hSw); go_simp; (try with_reducible rfl))
          simp only [List.set_cons_zero, List.set_cons_succ]
          refine takeH 6 64 #[true, true, true, true, true, true, true, false, false, false, false, false] (v := ?_) rfl rfl rfl (by kernel_rfl) (by kernel_rfl) (by kernel_rfl) (fun _ _ _ h => h) (Or.inl ⟨by rfl, ?_⟩) hHeld ?_
          rotate_left
          · (intro w' hSw; (try dsimp only at hSw); go_simp; (try with_reducible rfl))
          simp only [List.set_cons_zero, List.set_cons_succ]
          refine takeH 7 65 #[true, true, true, true, true, true, true, true, false, false, false, false] (v := ?_) rfl rfl rfl (by kernel_rfl) (by kernel_rfl) (by kernel_rfl) (fun _ _ _ h => h) (Or.inl ⟨by rfl, ?_⟩) hHeld ?_
          rotate_left
          · (intro w' hSw; (try dsimp only at hSw); go_simp; (try with_reducible rfl))
          simp only [List.set_cons_zero, List.set_cons_succ]
          refine takeH 8 66 #[true, true, true, true, true, true, true, true, true, false, false, false] (v := ?_) rfl rfl rfl (by kernel_rfl) (by kernel_rfl) (by kernel_rfl) (fun _ _ _ h => h) (Or.inl ⟨by rfl, ?_⟩) hHeld ?_
          rotate_left
          · (intro w' hSw; (try dsimp only at hSw); go_simp; (try with_reducible rfl))
          simp only [List.set_cons_zero, List.set_cons_succ]
          refine takeH 9 67 #[true, true, true, true, true, true, true, true, true, true, false, false] (v := ?_) rfl rfl rfl (by kernel_rfl) (by kernel_rfl) (by kernel_rfl) (fun _ _ _ h => h) (Or.inl ⟨by rfl, ?_⟩) hHeld ?_
          rotate_left
          · (intro w' hSw; (try dsimp only at hSw); go_simp; (try with_reducible rfl))
          simp only [List.set_cons_zero, List.set_cons_succ]
          refine takeH 10 68 #[true, true, true, true, true, true, true, true, true, true, true, false] (v := ?_) rfl rfl rfl (by kernel_rfl) (by kernel_rfl) (by kernel_rfl) (fun _ _ _ h => h) (Or.inl ⟨by rfl, ?_⟩) hHeld ?_
          rotate_left
          · (intro w' hSw; (try dsimp only at hSw); go_simp; (try with_reducible rfl))
          simp only [List.set_cons_zero, List.set_cons_succ]
          refine branchH 11 69 #[true, true, true, true, true, true, true, true, true, true, true, true] (by kernel_rfl) rfl rfl rfl (by rfl) (fun K hK => ?_)
          go_simp
          have hbd : Below wr.heap.size wr wr.drew := (Below.refl _ _).drew
          (go_at_call 13; (with_reducible refine (see_any p q d _ (s.h.below hbd) r.A1 r.A2 r.n1 r.c1 r.n2 r.c2 r.bad r.first (R1.out.next (Off.of hbd)) (R2.out.next (Off.of hbd))).mono ?_))
          rintro e w4 ⟨rfl, h, k⟩
          have s4 := (s.below hbd).next h k
          have k4 := Off.trans (Off.of hbd) k
          have hS4 : Kept (Off p q wr) wr w4 ∧ w4.cell? ⟨b, o + j * 5 + 1, none⟩ = some (.slice r.A1 r.n1 r.c1) ∧ w4.cell? ⟨b, o + j * 5 + 2, none⟩ = some (.slice r.A2 r.n2 r.c2) :=
            ⟨k4, (World.cell?_of_block (k4.block b hbo)).trans c1, (World.cell?_of_block (k4.block b hbo)).trans c2⟩
          clear h k k4
          refine hK.out _ _ ?_ (fun hHeld' => ?_)
          · (first | exact ⟨(Kept.refl _ _).drew, c1, c2⟩ | assumption)
          clear hK K hHeld
          have hHeld := hHeld'
          clear hHeld'
          simp only [List.set_cons_zero, List.set_cons_succ]
          refine wpAnyH_done (by kernel_rfl) ?_ _
          refine NoPanic.normal ?_
          clear hHeld c1 c2
          go_wp2_with fail
          go_roundg (gk - 1)
          case measure => omega
          case rel => exact ⟨j + 1, _, by omega, by go_num, s4⟩
      · obtain rfl : j = no := by omega
        have s10 := s
        have HD : Hid d.okay := s.h.okay
        clear s
        go_wp2_with (first
          | (go_at_call 13; (with_reducible refine (see_any p q _ _ s10.h Ab Af nb cb nf cf bs fs (RdU.of_old (hrb.below s10.b) s10.b.size s10.lp s10.lq) (RdU.of_old (hrf.below s10.b) s10.b.size s10.lp s10.lq)).mono ?_)
             rintro e w11 ⟨rfl, h, k⟩
             have s11 : St w w11 p q (d.see bs fs).2 := s10.next h k
             clear h k s10 )
          | (go_at_call 15; (with_reducible refine (states_any p q _ _ s11.h).mono ?_)
             rintro e w12 ⟨Aa, na, ca, rfl, hl, ho, hb⟩
             have xa_12 : RdU (Off p q w12) w12 Aa na ((d.see bs fs).2.S.map iv) := RdU.of_own ho s11.h.lp s11.h.lq
             have s12 := s11.below hb
             have hna : na ≤ 64 := len64 hl s11.h
             have Oa : Hid ((d.see bs fs).2.okay) := s11.h.okay
             clear hl ho hb s11 )
          | (go_at_call 13; (with_reducible refine (see_any p q _ _ s12.h Ab Af nb cb nf cf bs fs (RdU.of_old (hrb.below s12.b) s12.b.size s12.lp s12.lq) (RdU.of_old (hrf.below s12.b) s12.b.size s12.lp s12.lq)).mono ?_)
             rintro e w13 ⟨rfl, h, k⟩
             have s13 : St w w13 p q ((d.see bs fs).2.see bs fs).2 := s12.next h k
             have xa_13 := xa_12.next k
             clear h k s12 xa_12)
          | (go_at_call 15; (with_reducible refine (states_any p q _ _ s13.h).mono ?_)
             rintro e w14 ⟨Ab, nb, cb, rfl, hl, ho, hb⟩
             have xb_14 : RdU (Off p q w14) w14 Ab nb (((d.see bs fs).2.see bs fs).2.S.map iv) := RdU.of_own ho s13.h.lp s13.h.lq
             have s14 := s13.below hb
             have xa_14 := xa_13.next (Off.of hb)
             have hnb : nb ≤ 64 := len64 hl s13.h
             have Ob : Hid (((d.see bs fs).2.see bs fs).2.okay) := s13.h.okay
             clear hl ho hb s13 xa_13)
          | (go_at_call 9; (with_reducible refine (ack_any p q _ _ s14.h).mono ?_)
             rintro e w15 ⟨rfl, h, k⟩
             have s15 : St w w15 p q ((d.see bs fs).2.see bs fs).2.ack := s14.next h k
             have xa_15 := xa_14.next k
             have xb_15 := xb_14.next k
             clear h k s14 xa_14 xb_14)
          | (go_at_call 15; (with_reducible refine (states_any p q _ _ s15.h).mono ?_)
             rintro e w16 ⟨Ac, nc, cc, rfl, hl, ho, hb⟩
             have xc_16 : RdU (Off p q w16) w16 Ac nc (((d.see bs fs).2.see bs fs).2.ack.S.map iv) := RdU.of_own ho s15.h.lp s15.h.lq
             have s16 := s15.below hb
             have xa_16 := xa_15.next (Off.of hb)
             have xb_16 := xb_15.next (Off.of hb)
             have hnc : nc ≤ 64 := len64 hl s15.h
             have Oc : Hid (((d.see bs fs).2.see bs fs).2.ack.okay) := s15.h.okay
             clear hl ho hb s15 xa_15 xb_15)
          | (go_at_call 9; (with_reducible refine (ack_any p q _ _ s16.h).mono ?_)
             rintro e w17 ⟨rfl, h, k⟩
             have s17 : St w w17 p q ((d.see bs fs).2.see bs fs).2.ack.ack := s16.next h k
             have xa_17 := xa_16.next k
             have xb_17 := xb_16.next k
             have xc_17 := xc_16.next k
             clear h k s16 xa_16 xb_16 xc_16)
          | (go_at_call 15; (with_reducible refine (states_any p q _ _ s17.h).mono ?_)
             rintro e w18 ⟨Ae, ne, ce, rfl, hl, ho, hb⟩
             have xe_18 : RdU (Off p q w18) w18 Ae ne (((d.see bs fs).2.see bs fs).2.ack.ack.S.map iv) := RdU.of_own ho s17.h.lp s17.h.lq
             have s18 := s17.below hb
             have xa_18 := xa_17.next (Off.of hb)
             have xb_18 := xb_17.next (Off.of hb)
             have xc_18 := xc_17.next (Off.of hb)
             have hne : ne ≤ 64 := len64 hl s17.h
             have Oe : Hid (((d.see bs fs).2.see bs fs).2.ack.ack.okay) := s17.h.okay
             clear hl ho hb s17 xa_17 xb_17 xc_17)
          | (go_at_call 10; (with_reducible refine (reset_any p q _ _ s18.h).mono ?_)
             rintro e w19 ⟨rfl, h, k⟩
             have s19 : St w w19 p q ((d.see bs fs).2.see bs fs).2.ack.ack.reset := s18.next h k
             have xa_19 := xa_18.next k
             have xb_19 := xb_18.next k
             have xc_19 := xc_18.next k
             have xe_19 := xe_18.next k
             clear h k s18 xa_18 xb_18 xc_18 xe_18)
          | (go_at_call 15; (with_reducible refine (states_any p q _ _ s19.h).mono ?_)
             rintro e w20 ⟨Af, nf, cf, rfl, hl, ho, hb⟩
             have xf_20 : RdU (Off p q w20) w20 Af nf (((d.see bs fs).2.see bs fs).2.ack.ack.reset.S.map iv) := RdU.of_own ho s19.h.lp s19.h.lq
             have s20 := s19.below hb
             have xa_20 := xa_19.next (Off.of hb)
             have xb_20 := xb_19.next (Off.of hb)
             have xc_20 := xc_19.next (Off.of hb)
             have xe_20 := xe_19.next (Off.of hb)
             have hnf : nf ≤ 64 := len64 hl s19.h
             have Of : Hid (((d.see bs fs).2.see bs fs).2.ack.ack.reset.okay) := s19.h.okay
             clear hl ho hb s19 xa_19 xb_19 xc_19 xe_19)
          | (go_at_call 10; (with_reducible refine (reset_any p q _ _ s20.h).mono ?_)
             rintro e w21 ⟨rfl, h, k⟩
             have s21 : St w w21 p q ((d.see bs fs).2.see bs fs).2.ack.ack.reset.reset := s20.next h k
             have xa_21 := xa_20.next k
             have xb_21 := xb_20.next k
             have xc_21 := xc_20.next k
             have xe_21 := xe_20.next k
             have xf_21 := xf_20.next k
             clear h k s20 xa_20 xb_20 xc_20 xe_20 xf_20)
          | (go_at_call 17; (with_reducible refine (sameints_any Aa Ab na nb ca cb _ _ _ _ xa_21.rd xb_21.rd (Nat.le_refl _) (by omega)).mono ?_)
             rintro e w22 ⟨he, hb⟩
             rw [decide_eq_true ((see_twice d bs fs HD.out).symm)] at he
             subst he
             have s22 := s21.below hb
             have xc_22 := xc_21.next (Off.of hb)
             have xe_22 := xe_21.next (Off.of hb)
             have xf_22 := xf_21.next (Off.of hb)
             clear hb s21 xa_21 xb_21 xc_21 xe_21 xf_21)
          | (go_at_call 17; (with_reducible refine (sameints_any Ac Ae nc ne cc ce _ _ _ _ xc_22.rd xe_22.rd (Nat.le_refl _) (by omega)).mono ?_)
             rintro e w23 ⟨he, hb⟩
             rw [decide_eq_true ((ack_twice ((d.see bs fs).2.see bs fs).2 Ob.out).symm)] at he
             subst he
             have s23 := s22.below hb
             have xf_23 := xf_22.next (Off.of hb)
             clear hb s22 xc_22 xe_22 xf_22)
          | (go_at_call 15; (with_reducible refine (states_any p q _ _ s23.h).mono ?_)
             rintro e w24 ⟨Ag, ng, cg, rfl, hl, ho, hb⟩
             have xg_24 : RdU (Off p q w24) w24 Ag ng (((d.see bs fs).2.see bs fs).2.ack.ack.reset.reset.S.map iv) := RdU.of_own ho s23.h.lp s23.h.lq
             have s24 := s23.below hb
             have xf_24 := xf_23.next (Off.of hb)
             clear hl ho hb s23 xf_23)
          | (go_at_call 17; (with_reducible refine (sameints_any Af Ag nf ng cf cg _ _ _ _ xf_24.rd xg_24.rd (Nat.le_refl _) (by omega)).mono ?_)
             rintro e w25 ⟨he, hb⟩
             rw [decide_eq_true ((reset_twice ((d.see bs fs).2.see bs fs).2.ack.ack Oe.out).symm)] at he
             subst he
             have s25 := s24.below hb
             clear hb s24 xf_24 xg_24)
          | fail)
        go_ret
        exact ⟨ret_bool (by simp), s25.b⟩
  · have HO := Lib.hid hok
    clear hok
    go_enter Try.func5, Try.ntmps5
    go_wp2_with (first
      | (go_at_call 6; (with_reducible refine hH.mono ?_); rintro e w1 ⟨rfl, hb1⟩)
      | (go_at_call 7; (with_reducible refine (pnew_any A n c _ K _ (hr.below hb1) hb1.size hnc hcm).mono ?_)
         rintro e w2 ⟨-, hn, hb2⟩
         obtain rfl := hn HO.out
         have HB : Hid (Below w.heap.size w w2) := hb1.trans (hb2.mono hb1.size)
         clear hb1 hb2 hn)
      | fail)
    go_ret
    exact ⟨rfl, HB.out⟩
end Go.Proofs.Ytphghclkfbhagaa
