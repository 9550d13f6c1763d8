/- StoreCrash: is a torn sector's sum right by luck? -/
import Derived.Test.YtcdgaeenfhpnkaaPk48
set_option linter.unusedVariables false
set_option linter.unusedSimpArgs false
set_option maxRecDepth 100000
namespace Go.Proofs.Ytcdgaeenfhpnkaa.Cr
open Go Go.RowKit CrcMath
attribute [local go_sem] Oper.semAt_some

section
variable {w w' : World} {p g lb sb c e k : Nat} {s : CS} {r : RD}
theorem setCut_w (d : DD) (a b : Int) : (d.setCut a b).writes = d.writes := by
  unfold DD.setCut
  split <;> rfl
theorem rcut_t (r : RD) (p g : Nat) (w : World) (a b : Int) (ha : a ≤ 9223372036854775807) (h : HT w (Off2 w p g) p g r) :
    Calls Try.prog 56 #[.pointer (some ⟨p, 0, none⟩), .int .i64 a, .int .i64 b] w fun e w' => e = .returned (.tuple #[]) ∧ HT w' (Off2 w' p g) p g ⟨r.d.setCut a b, r.torn, r.was, r.meant⟩ ∧ Chg (X2 p g) w w' := by
  refine (rcut_any _ _ p g r.d w a b ha h.hr).mono ?_
  rintro e w' ⟨he, h1, h2⟩
  have h3 : HT w' (Off2 w p g) p g ⟨r.d.setCut a b, r.torn, r.was, r.meant⟩ := ⟨h1, fun q hq => by show q < (r.d.setCut a b).L.length; rw [(setCut_L r.d a b).1]; exact h.lt q hq, h.wb, h.mb⟩
  exact ⟨he, h3.off, off_chg h2⟩
theorem rboot_t (r : RD) (p g : Nat) (w : World) (h : HT w (Off2 w p g) p g r) :
    Calls Try.prog 57 #[.pointer (some ⟨p, 0, none⟩)] w fun e w' => e = .returned (.tuple #[]) ∧ HT w' (Off2 w' p g) p g ⟨r.d.boot, r.torn, r.was, r.meant⟩ ∧ Chg (X2 p g) w w' := by
  refine (rboot_any _ _ p g r.d w h.hr).mono ?_
  rintro e w' ⟨he, h1, h2⟩
  have h3 : HT w' (Off2 w p g) p g ⟨r.d.boot, r.torn, r.was, r.meant⟩ := ⟨h1, h.lt, h.wb, h.mb⟩
  exact ⟨he, h3.off, off_chg h2⟩
theorem rdown_t (r : RD) (p g : Nat) (w : World) (h : HT w (Off2 w p g) p g r) :
    Calls Try.prog 58 #[.pointer (some ⟨p, 0, none⟩)] w fun e w' => e = .returned (.bool r.d.down) ∧ w' = w := rdown_any _ _ p g r.d w h.hr
/-- the disk alone has turned -/
theorem RM.disk {r' : RD} {k' : Nat} (h : RM w p g lb sb c e k s) (h1 : HT w' (Off2 w' p g) p g r') (hc : Chg (X2 p g) w w') (hk : r'.d.writes ≤ k') : RM w' p g lb sb c e k' ⟨r', s.half, s.turn, s.taken, s.N⟩ := by
  have hs := h.sto
  obtain ⟨A0, n0, cap0, s1, s2, s3⟩ := h.sto
  exact ⟨h1, hk, (hc.at_ h.at_.lt (h.ht.lne h.at_)).trans h.at_, hs.chg hc (h.ht.ne s1 (by decide)) (fun g cur fr hg => h.ht.ne hg (by decide))⟩
end
theorem mixed_ok {w : World} {U : Nat → Prop} {p g : Nat} {r : RD} (h : HT w U p g r) : (∀ x ∈ r.mixed, x < 256) ∧ r.mixed.length ≤ 64 := by
  unfold RD.mixed
  split
  · exact ⟨by simp, by simp⟩
  · rename_i a ha
    split
    · exact ⟨by simp, by simp⟩
    · have hal := h.lt a ha
      rw [List.getD_eq_getElem?_getD, List.getElem?_eq_getElem hal]
      have := h.ok.1 _ (List.getElem_mem hal)
      exact ⟨this.2, Nat.le_of_eq this.1⟩
theorem ropen_nil (p g : Nat) (r : RD) (L : List (List Nat)) (half turn taken : Nat) (y : St × List Nt) (w : World) (h : HT w (Off2 w p g) p g r) (hup : r.d.down = false) (ho : openR r.d.L = ⟨L, half, turn, taken⟩) (hL : L.length ≤ 1000) (hf : ∀ b ∈ L, fineB b) (hop : openF 1 2 (zero0 1 2) [] L = some y) :
    Calls Try.prog 55 #[.pointer (some ⟨p, 0, none⟩), .int .i64 1, .int .i64 2] w (ROpP p half turn taken 1 2 y.2 w) :=
  ropen22_go 1 2 r p g half turn taken L y w h hup ho (by omega) (by omega) hL hf hop
def start (a : Int) : CS := ⟨⟨DD.fresh a, none, [], []⟩, 0, 1, 0, []⟩
theorem fresh_64 (a : Int) : ∀ s ∈ (DD.fresh a).L, s.length = 64 := fun s hs => by
  unfold DD.fresh at hs
  rw [(List.mem_replicate.1 hs).2]
  rfl
theorem start_open (a : Int) : openR (start a).r.d.L = ⟨[], 0, 1, 0⟩ := (J.fresh a).openR (fresh_64 a)
theorem start_up (a : Int) : (start a).r.d.down = false := rfl
set_option maxHeartbeats 16000000 in
theorem lucky_any (a : Int) (A : Option Addr) (n c : Nat) (l : List Opr) (w : World) (hr : Ops w w.heap.size A n l) (hg : grB l n = false) (ha : 0 ≤ a ∧ a ≤ 255) :
    Calls Try.prog 21 #[.int .u8 a, .slice A n c] w fun e w' => e = .returned (.bool (luckyF (start a) l)) ∧ Below w.heap.size w w' := by
  have hn100 := grB_no hg
  obtain ⟨ha0, ha1⟩ := ha
  have hll : l.length = n := hr.1.1
  have hbig : ∀ (j : Nat) (r : Opr), l[j]? = some r → r.v.n1 + r.v.n2 + r.v.n3 + r.len ≤ 500 := fun j r hj => by
    have hjl := (List.getElem?_eq_some_iff.1 hj).1
    cases hb : bigO r with
    | false =>
      unfold bigO at hb
      have := of_decide_eq_false hb
      omega
    | true => rw [grB_yes hj (by omega) hb] at hg; cases hg
  obtain ⟨R, hR⟩ : ∃ R, luckyF (start a) l = R := ⟨_, rfl⟩
  rw [hR]
  have Hr := Lib.hid hr
  have HR := Lib.hid hR
  have Hll := Lib.hid hll
  have Hbig := Lib.hid hbig
  have Hz : Hid (sv (List.replicate 0 0) = sv []) := rfl
  clear hr hR hll hbig hg
  go_enter Try.func21, Try.ntmps21
  go_wp2_with (first
    | (go_at_call 54; (with_reducible refine (rnew_any (fun k => k < w.heap.size) w a (fun k hk => hk)).mono ?_)
       rintro e w1 ⟨rfl, ⟨g, hg1, hr1⟩, hb1⟩
       obtain ⟨p, hp⟩ : ∃ p, p = w.heap.size := ⟨_, rfl⟩
       have ht1 : HT w1 (Off2 w1 p g) p g (start a).r := by
         rw [hp]
         exact (⟨hr1, (fun q hq => by cases hq), (by intro x hx; cases hx), (by intro x hx; cases hx)⟩ : HT w1 (fun k => k < w.heap.size) w.heap.size g (start a).r).off
       have HT1 := Lib.hid ht1
       have HB1 := Lib.hid hb1
       have Hpg : Hid (w.heap.size ≤ p ∧ w.heap.size ≤ g) := ⟨by omega, by omega⟩
       rw [← hp]
       clear hr1 hb1 ht1 hp hg1)
    | (go_at_call 55; (with_reducible refine (ropen_nil p g (start a).r [] 0 1 0 (zero0 1 2, []) w1 HT1.out (start_up a) (start_open a) (by simp) (by simp) rfl).mono ?_)
       rintro e w2 ⟨sb, lb, ⟨Q1, q1, k1, Q2, q2, k2, Q3, q3, k3⟩, A2, n2, c2, rfl, hl2, hs2, hb2, hlb2, hsb2⟩
       have HM2 : Hid (RM w2 p g lb sb 1 2 0 (start a)) := ⟨(HT1.out.below hb2).off, Nat.le_refl _, hl2, hs2⟩
       have HB2 : Hid (Below w.heap.size w w2) := HB1.out.trans (hb2.mono HB1.out.size)
       have Hlo : Hid (w.heap.size ≤ lb ∧ w.heap.size ≤ sb) := ⟨Nat.le_trans HB1.out.size hlb2, Nat.le_trans HB1.out.size hsb2⟩
       clear hl2 hs2 hb2 hlb2 hsb2 HT1 HB1))
  go_loopg [6, 10] n (fun q v6 vi wr => ∃ (j sb lb : Nat) (s : CS) (y : St × List Nt), q + j = n ∧ v6 = .pointer (some ⟨sb, 0, none⟩) ∧ vi = .int .i64 j ∧ CI s j y ∧ RM wr p g lb sb 1 2 (16 * j) s ∧ luckyF s (l.drop j) = R ∧ Below w.heap.size w wr ∧ w.heap.size ≤ lb ∧ w.heap.size ≤ sb)
  case atStart => exact ⟨0, sb, lb, start a, _, by omega, rfl, rfl, CI.start a, HM2.out.below (al_ w2 _), HR.out, HB2.out.trans ((al_ w2 _).mono HB2.out.size), Hlo.out.1, Hlo.out.2⟩
  case round =>
    clear HM2 HB2 Hlo
    obtain ⟨j, sb, lb, s, y, hj, rfl, rfl, hci, hM, hlk, hB, hlb, hsb⟩ := hrel
    have Hci := Lib.hid hci
    have HM := Lib.hid hM
    have Hlk := Lib.hid hlk
    have HB := Lib.hid hB
    have Hlo : Hid (w.heap.size ≤ lb ∧ w.heap.size ≤ sb) := ⟨hlb, hsb⟩
    clear hci hM hlk hB hlb hsb
    have hnm : (n : Int) ≤ 100 := by omega
    by_cases hlt : j < n
    rotate_left
    · have hi0 : ¬ (j : Int) < (n : Int) := by omega
      have HE : Hid (R = false) := by
        have h := Hlk.out
        rw [List.drop_eq_nil_of_le (by have := Hll.out; omega)] at h
        exact h.symm
      clear hlt
      go_wp2_with fail
      go_ret
      rw [HE.out]
      exact ⟨rfl, HB.out⟩
    · have hi0 : (0 : Int) ≤ (j : Int) := by omega
      have hi1 : (j : Int) < (n : Int) := by omega
      obtain ⟨bb, o, rfl, hbB, _⟩ := Hr.out.1.2 (by omega)
      obtain ⟨r, hr1⟩ : ∃ r, l[j]? = some r := ⟨_, List.getElem?_eq_getElem (by have := Hll.out; omega)⟩
      have hok := Hr.out.2 r (List.mem_of_getElem? hr1)
      have hb500 := Hbig.out j r hr1
      have Hok := Lib.hid hok
      have hcl := (opr_cells Hr.out.1 hr1 (by omega)) wr HB.out
      obtain ⟨⟨c0, c1, c2⟩, ⟨c3, c4, c5⟩, c6⟩ := hcl
      have hdrop : l.drop j = r :: l.drop (j + 1) := by
        rw [List.drop_eq_getElem_cons (List.getElem?_eq_some_iff.1 hr1).1, (List.getElem?_eq_some_iff.1 hr1).2]
      have Hlk' : Hid ((if r.what = 3 then luckyF (s.cut r.at_ r.n) (l.drop (j + 1)) else if r.what = 4 then luckyF s.again (l.drop (j + 1))
          else if (s.put 1 2 r.x r.l).2.r.d.down = true ∧ s.r.d.down = false ∧ opens (s.put 1 2 r.x r.l).2.r.mixed = true then true else luckyF (s.put 1 2 r.x r.l).2 (l.drop (j + 1))) = R) := by
        show _ = _
        have h := Hlk.out
        rw [hdrop] at h
        exact h
      have Hw : Hid (wr.heap.size = wr.heap.size) := rfl
      obtain ⟨wx, hwx⟩ : ∃ W, W = wr.alloc (.cells #[.int .i64 r.what, .int .i64 r.at_, .int .i64 r.n, .slice r.v.A1 r.v.n1 r.v.c1, .slice r.v.A2 r.v.n2 r.v.c2, .slice r.v.A3 r.v.n3 r.v.c3, .slice r.A r.len r.cap] 49) := ⟨_, rfl⟩
      have hbx : Below wr.heap.size wr wx := by rw [hwx]; exact al_ _ _
      have hxx : wx.heap[wr.heap.size]? = some (.cells #[.int .i64 r.what, .int .i64 r.at_, .int .i64 r.n, .slice r.v.A1 r.v.n1 r.v.c1, .slice r.v.A2 r.v.n2 r.v.c2, .slice r.v.A3 r.v.n3 r.v.c3, .slice r.A r.len r.cap] 49) := by rw [hwx]; exact heap_alloc_new _ _
      have d0 := cell_of_row _ wr.heap.size 0 _ _ _ hxx
      have d1 := cell_of_row _ wr.heap.size 1 _ _ _ hxx
      have d2 := cell_of_row _ wr.heap.size 2 _ _ _ hxx
      have d3 := cell_of_row _ wr.heap.size 3 _ _ _ hxx
      have d4 := cell_of_row _ wr.heap.size 4 _ _ _ hxx
      have d5 := cell_of_row _ wr.heap.size 5 _ _ _ hxx
      have d6 := cell_of_row _ wr.heap.size 6 _ _ _ hxx
      simp at d0 d1 d2 d3 d4 d5 d6
      have HMx := Lib.hid (HM.out.below hbx)
      have HBx : Hid (Below w.heap.size w wx) := HB.out.trans (hbx.mono HB.out.size)
      have Hxx := Lib.hid hxx
      have Hwx := Lib.hid hwx
      have hat : r.at_ ≤ 9223372036854775807 := hok.w2.2
      clear hok hr1 hdrop hbx hxx hwx hlt
      by_cases h3 : r.what = 3
      · have HL : Hid (luckyF (s.cut r.at_ r.n) (l.drop (j + 1)) = R) := by
          have h := Hlk'.out
          rw [if_pos h3] at h
          exact h
        have t3 : (r.what == 3) = true := by rw [h3]; rfl
        clear h3
        go_wp2_with (first
          | (rw [← Hwx.out]
             go_at_call 56; (with_reducible refine (rcut_t s.r p g wx r.at_ r.n hat HMx.out.ht).mono ?_)
             rintro e w5 ⟨rfl, ht5, hc5⟩
             have HM5 : Hid (RM w5 p g lb sb 1 2 (16 * (j + 1)) (s.cut r.at_ r.n)) := HMx.out.disk ht5 hc5 (by show (s.r.d.setCut r.at_ r.n).writes ≤ _; rw [setCut_w]; have := HMx.out.wk; omega)
             have HB5 : Hid (Below w.heap.size w w5) := HBx.out.trans (hc5.below HBx.out.size (fun k hk => by rcases hk with rfl | rfl; exact Hpg.out.1; exact Hpg.out.2))
             clear ht5 hc5))
        go_roundg (gk - 1)
        case measure => omega
        case rel => exact ⟨j + 1, sb, lb, s.cut r.at_ r.n, y, by omega, rfl, by go_num, (Hci.out.cut _ _).more (by omega), HM5.out, HL.out, HB5.out, Hlo.out.1, Hlo.out.2⟩
      · have t3 : (r.what == 3) = false := beq_eq_false_iff_ne.2 h3
        by_cases h4 : r.what = 4
        · have HL : Hid (luckyF s.again (l.drop (j + 1)) = R) := by
            have h := Hlk'.out
            rw [if_neg h3, if_pos h4] at h
            exact h
          have t4 : (r.what == 4) = true := by rw [h4]; rfl
          obtain ⟨L, half, turn, taken, a1, a2, a3, a4, a5, a6, a7⟩ := Hci.out.again (fun x hx => (HMx.out.ht.ok.1 x hx).1)
          have hL1000 : L.length ≤ 1000 := by have := a1.len; have := HMx.out.ht.ok.2.1; omega
          have Ha := Lib.hid (And.intro a1.fine (And.intro a3 (And.intro a4 (And.intro a5 a6))))
          have Hcall : Hid (∀ w5, HT w5 (Off2 w5 p g) p g ⟨s.r.d.boot, s.r.torn, s.r.was, s.r.meant⟩ → Calls Try.prog 55 #[.pointer (some ⟨p, 0, none⟩), .int .i64 1, .int .i64 2] w5 (ROpP p half turn taken 1 2 y.2 w5)) :=
            fun w5 h => ropen_nil p g _ L half turn taken y w5 h rfl a3 hL1000 a1.fine a4
          clear h3 h4 a1 a2 a3 a4 a5 a6 a7
          go_wp2_with (first
            | (rw [← Hwx.out]
               go_at_call 57; (with_reducible refine (rboot_t s.r p g wx HMx.out.ht).mono ?_)
               rintro e w5 ⟨rfl, ht5, hc5⟩
               have HT5 := Lib.hid ht5
               have HB5 : Hid (Below w.heap.size w w5) := HBx.out.trans (hc5.below HBx.out.size (fun k hk => by rcases hk with rfl | rfl; exact Hpg.out.1; exact Hpg.out.2))
               clear ht5 hc5)
            | (go_at_call 55; (with_reducible refine (Hcall.out w5 HT5.out).mono ?_)
               rintro e w6 ⟨sb6, lb6, ⟨Q1, q1, k1, Q2, q2, k2, Q3, q3, k3⟩, A6, n6, c6, rfl, hl6, hs6, hb6, hlb6, hsb6⟩
               have hM6 : RM w6 p g lb6 sb6 1 2 (16 * (j + 1)) s.again := by
                 rw [Ha.out.2.2.2.1]
                 exact ⟨(HT5.out.below hb6).off, by show s.r.d.writes ≤ _; have := HMx.out.wk; omega, hl6, hs6⟩
               have HM6 := Lib.hid hM6
               have HB6 : Hid (Below w.heap.size w w6) := HB5.out.trans (hb6.mono HB5.out.size)
               have Hlo6 : Hid (w.heap.size ≤ lb6 ∧ w.heap.size ≤ sb6) := ⟨Nat.le_trans HB5.out.size hlb6, Nat.le_trans HB5.out.size hsb6⟩
               clear hl6 hs6 hb6 hlb6 hsb6 hM6))
          go_roundg (gk - 1)
          case measure => omega
          case rel => exact ⟨j + 1, sb6, lb6, s.again, y, by omega, rfl, by go_num, Ha.out.2.2.2.2.more (by omega), HM6.out.below (al_ w6 _), HL.out, HB6.out.trans ((al_ w6 _).mono HB6.out.size), Hlo6.out.1, Hlo6.out.2⟩
        · have t4 : (r.what == 4) = false := beq_eq_false_iff_ne.2 h4
          obtain ⟨dn, hdn⟩ : ∃ dn, s.r.d.down = dn := ⟨_, rfl⟩
          obtain ⟨en, s', hput⟩ : ∃ en s', s.put 1 2 r.x r.l = (en, s') := ⟨_, _, rfl⟩
          obtain ⟨dn', hdn'⟩ : ∃ dn', s'.r.d.down = dn' := ⟨_, rfl⟩
          obtain ⟨rt, hrt⟩ : ∃ rt, opens s'.r.mixed = rt := ⟨_, rfl⟩
          have HL : Hid ((if dn' = true ∧ dn = false ∧ rt = true then true else luckyF s' (l.drop (j + 1))) = R) := by
            have h := Hlk'.out
            rw [if_neg h3, if_neg h4, hput] at h
            dsimp only at h
            rw [hdn, hdn', hrt] at h
            exact h
          have HCI : Hid (¬ (dn' = true ∧ dn = false ∧ rt = true) → ∃ y', CI s' (j + 1) y') := by
            show _ → _
            intro hno
            cases dn with
            | true =>
              have h := (CS.put_down (c := 1) (e := 2) (x := r.x) (l := r.l) Hci.out.okn hdn).2
              rw [hput] at h
              have h : s' = s := h
              rw [h]
              exact ⟨y, Hci.out.more (by omega)⟩
            | false =>
              have h := Hci.out.put (by omega) hdn r.x r.l
              rw [hput] at h
              dsimp only at h
              rcases h with ⟨_, _, _, h⟩ | ⟨_, h⟩ | ⟨_, h1, _, h⟩
              · exact ⟨_, h⟩
              · rw [h]; exact ⟨y, Hci.out.more (by omega)⟩
              · have h2 : dn' = true := hdn'.symm.trans h1
                rcases h (fun hrt' => hno ⟨h2, rfl, hrt.symm.trans hrt'⟩) with h | h
                · exact ⟨_, h⟩
                · exact ⟨_, h⟩
          have hcall := rput22 sb lb p g (16 * j) 1 2 s r.v r.x r.A r.len r.cap r.l wx HMx.out ((Hok.out.x.below HBx.out).more HBx.out.size) ((Hok.out.l.below HBx.out).more HBx.out.size) (by omega) (by omega) Hci.out.h1 Hci.out.tk (by have := Hci.out.tu; omega) Hci.out.n32 Hci.out.okn
          unfold RPutP at hcall
          rw [hput] at hcall
          have Hcall := Lib.hid hcall
          have Hdn := Lib.hid hdn
          have Hdn' := Lib.hid hdn'
          have Hrt := Lib.hid hrt
          have kb := fun w' => Lib.run_convert_string_bytes (P := Try.prog) w' 9 27 5 (bstr s'.r.mixed) Try.underlying9 Try.underlying27 Try.underlying5
          obtain ⟨mx, hmx⟩ : ∃ mx, mx = s'.r.mixed := ⟨_, rfl⟩
          obtain ⟨ml, hml⟩ : ∃ ml, ml = mx.length := ⟨_, rfl⟩
          rw [← hmx, bstr_size, ← hml] at kb
          have Hmx := Lib.hid hmx
          have Hml := Lib.hid hml
          clear h3 h4 hdn hput hdn' hrt hcall hmx hml
          have step : (dn' = false ∨ dn' = true ∧ dn = true ∨ dn' = true ∧ dn = false ∧ rt = false) ∨ dn' = true ∧ dn = false ∧ rt = true := by
            cases dn' <;> cases dn <;> cases rt <;> simp
          rcases step with (rfl | ⟨rfl, rfl⟩ | ⟨rfl, rfl, rfl⟩) | ⟨rfl, rfl, rfl⟩
          all_goals
            go_wp2_with (first
              | (rw [← Hwx.out]
                 go_at_call 58; (with_reducible refine (rdown_t s.r p g wx HMx.out.ht).mono ?_)
                 rintro e w5 ⟨he, hw5⟩
                 obtain rfl := hw5.symm
                 rw [Hdn.out] at he
                 subst he)
              | (go_at_call 59; (with_reducible refine Hcall.out.mono ?_)
                 rintro e w6 ⟨rfl, hM6, hc6⟩
                 have HM6 := Lib.hid hM6
                 have HB6 : Hid (Below w.heap.size w w6) := HBx.out.trans (hc6.below HBx.out.size (fun k hk => by rcases hk with (rfl | rfl | rfl) | rfl; exact Hpg.out.1; exact Hpg.out.2; exact Hlo.out.1; exact Hlo.out.2))
                 clear hM6 hc6)
              | (go_at_call 61; (with_reducible refine (mixed_any s'.r _ p g w6 HM6.out.ht).mono ?_)
                 rintro e w7 ⟨he, hb7⟩
                 rw [← Hmx.out] at he
                 unfold sv at he
                 subst he
                 have HM7 := Lib.hid (HM6.out.below hb7)
                 have HB7 : Hid (Below w.heap.size w w7) := HB6.out.trans (hb7.mono HB6.out.size)
                 have Hmo : Hid ((∀ x ∈ mx, x < 256) ∧ ml ≤ 64) := by rw [Hml.out, Hmx.out]; exact mixed_ok HM7.out.ht
                 clear hb7)
              | (go_at_call 60; (with_reducible refine (ropen_any (some ⟨w7.heap.size, 0, none⟩) ml _ (w7.heap.size + 1) mx _ (bw_rd w7 _ mx ml Hml.out.symm Hmo.out.1) (by rw [Lib.bytesWorld_size]; exact Nat.le_refl _) Hmo.out.1 (by have := Hmo.out.2; omega) (grownCap_ge _ _ _ _)).mono ?_)
                 rintro e w8 ⟨A8, n8, c8, he, _, hb8⟩
                 have hrt8 := Hrt.out
                 rw [← Hmx.out] at hrt8
                 rw [hrt8] at he
                 subst he
                 have hb8' := (bw_below w7 5 (bstr mx)).trans (hb8.mono (bw_below w7 5 (bstr mx)).size)
                 have HM8 := Lib.hid (HM7.out.below hb8')
                 have HB8 : Hid (Below w.heap.size w w8) := HB7.out.trans (hb8'.mono HB7.out.size)
                 clear hb8 hb8' hrt8)
              | (go_at_call 58; (with_reducible refine (rdown_t s'.r p g w8 HM8.out.ht).mono ?_)
                 rintro e w9 ⟨he, hw9⟩
                 obtain rfl := hw9.symm
                 rw [Hdn'.out] at he
                 subst he))
          all_goals first
            | (have HL' : Hid (luckyF s' (l.drop (j + 1)) = R) := by
                 have h := HL.out
                 rw [if_neg (by simp)] at h
                 exact h
               obtain ⟨y', hy'⟩ := HCI.out (by simp)
               go_roundg (gk - 1)
               case measure => omega
               case rel => exact ⟨j + 1, sb, lb, s', y', by omega, rfl, by go_num, hy', HM8.out.more (by omega), HL'.out, HB8.out, Hlo.out.1, Hlo.out.2⟩)
            | (have HL' : Hid (true = R) := by
                 have h := HL.out
                 rw [if_pos (by simp)] at h
                 exact h
               go_ret
               rw [← HL'.out]
               exact ⟨rfl, HB8.out⟩)
end Go.Proofs.Ytcdgaeenfhpnkaa.Cr
/- StoreCrash: what its variables hold. -/
set_option linter.unusedVariables false
set_option linter.unusedSimpArgs false
set_option maxRecDepth 100000
namespace Go.Proofs.Ytcdgaeenfhpnkaa.Cr
open Go Go.RowKit CrcMath
attribute [local go_sem] Oper.semAt_some

/-- types of blocks that no step of a store turns -/
def Un5 (T : TypeId) : Prop := (T ≠ 82 ∧ T ≠ 150) ∧ T ≠ 101 ∧ T ≠ 109 ∧ T ≠ 88
section
variable {B0 g p q lb sb base k c e : Nat} {w w' : World} {s : PS} {T : TypeId} {cur : Array Value} {fr : Nat × Nat} {X : Nat → Prop}
theorem yt_not (h : StM B0 w p q lb sb base k c e s) (hg : w.heap[g]? = some (.cells cur T fr)) (h1 : Un5 T) : ¬ YT B0 w p q lb sb g := by
  rintro (h2 | rfl)
  · exact x_not h.hd h.at_ hg ⟨h1.1.1, h1.1.2, h1.2.1, h1.2.2.1⟩ h2
  · obtain ⟨A, n, cap, h3, _⟩ := h.sto
    rw [h3] at hg
    injection hg with hg
    injection hg with _ hg
    exact h1.2.2.2 hg.symm
/-- a state's box has turned -/
theorem StM.chgX (h : StM B0 w p q lb sb base k c e s) (hc : Chg X w w') (hX : ∀ (g : Nat) (cur : Array Value) (T : TypeId) (fr : Nat × Nat), w.heap[g]? = some (.cells cur T fr) → T ≠ 25 → ¬ X g) : StM B0 w' p q lb sb base k c e s := by
  have keep : ∀ {g : Nat} {cur : Array Value} {T : TypeId} {fr : Nat × Nat}, w.heap[g]? = some (.cells cur T fr) → T ≠ 25 → w'.heap[g]? = some (.cells cur T fr) := fun {g} {cur} {T} {fr} hg hT =>
    (hc.at_ (Array.getElem?_eq_some_iff.1 hg).1 (hX g cur T fr hg hT)).trans hg
  obtain ⟨A, n, cap, h1, h2, h3⟩ := h.sto
  refine ⟨?_, h.wk, keep (show w.heap[lb]? = _ from h.at_) (by decide), ⟨A, n, cap, keep h1 (by decide), own_chg h2 hc (fun g cur fr hg _ => hX g cur _ fr hg (by decide)), h3⟩, h.n32, h.okn, Nat.le_trans h.le hc.size, h.h1, h.tk⟩
  obtain ⟨c', hh⟩ := h.hd
  exact ⟨c', hh.ok, fun k hk => Nat.lt_of_lt_of_le (hh.old k hk) hc.size, hh.pq, hh.up, hh.uq, keep hh.hp (by decide), keep hh.hq (by decide), fun a b e => ⟨(hh.hc a b e).1, (hh.hc a b e).2.1, (hh.hc a b e).2.2.1, keep (hh.hc a b e).2.2.2 (by decide)⟩⟩
theorem un_chg {d : DD} (hk : Kept (Un B0 w p q) w w') : Chg (YT B0 w p q lb sb) w w' := ⟨hk.os, hk.tape, hk.output, hk.size, fun i hi => hk.block i ⟨hi.1, fun e => hi.2 (.inl (.inl e)), fun e => hi.2 (.inl (.inr (.inl e))), fun e => hi.2 (.inl (.inr (.inr (.inr e))))⟩⟩
theorem StM.disk {d' : DD} {k' : Nat} (h : StM B0 w p q lb sb base k c e s) (hd : HD w' (Un B0 w p q) p q d') (hk : Kept (Un B0 w p q) w w') (hl : d'.L.length = s.d.L.length) (hw : d'.writes ≤ k') : StM B0 w' p q lb sb base k' c e ⟨d', s.half, s.turn, s.taken, s.N⟩ := by
  have hl' : LogAt w' lb p s.half s.turn s.taken := (hk.block lb (lb_un h.hd h.at_)).trans h.at_
  have hc : Chg (XT B0 w p q lb) w w' := ⟨hk.os, hk.tape, hk.output, hk.size, fun i hi => hk.block i ⟨hi.1, fun e => hi.2 (.inl e), fun e => hi.2 (.inr (.inl e)), fun e => hi.2 (.inr (.inr (.inr e)))⟩⟩
  exact h.step (HD.fa h.hd hd) hl' hc hw h.h1 (by rw [hl]; exact h.tk)
theorem Sto.stm {m : DX} {half turn taken : Nat} {L : List (List Nat)} {N : List Nt} (h : Sto w p q lb sb base m k half turn taken c e L N) (hh : half ≤ 1) (ht : taken ≤ m.d.L.length / 2) : StM m.b0 w p q lb sb base k c e ⟨m.d, half, turn, taken, N⟩ := by
  obtain ⟨d, h1, rfl, h3, h4, h5, h6⟩ := h.dk
  exact ⟨h1, h5, h.at_, h.sto, h.n32, h.okn, h.le, hh, ht⟩
theorem HD.lower {B B' : Nat} {d : DD} (h : HD w (Lo B') p q d) (hB : B ≤ B') : HD w (Lo B) p q d := by
  obtain ⟨c', hh⟩ := h
  have le : ∀ k, Lo B k → Lo B' k := fun k hk => Nat.lt_of_lt_of_le hk hB
  exact ⟨c', hh.ok, fun k hk => hh.old k (le k hk), hh.pq, fun hk => hh.up (le _ hk), fun hk => hh.uq (le _ hk), hh.hp, hh.hq, fun a b e => ⟨(hh.hc a b e).1, (hh.hc a b e).2.1, fun hk => (hh.hc a b e).2.2.1 (le _ hk), (hh.hc a b e).2.2.2⟩⟩
end
/-- notes that can be read, in a block that no step turns -/
def NtE (W : World) (base : Nat) (A : Option Addr) (n : Nat) (N : List Nt) : Prop :=
  RdS Nt.cells W W.heap.size 3 A n N ∧ (0 < n → ∃ (g o : Nat) (cur : Array Value) (fr : Nat × Nat), A = some ⟨g, o, none⟩ ∧ base ≤ g ∧ W.heap[g]? = some (.cells cur 54 fr))
section
variable {W W' : World} {base n c d : Nat} {A : Option Addr} {N : List Nt}
theorem NtE.keep (h : NtE W base A n N) (hs : W.heap.size ≤ W'.heap.size) (hk : ∀ (g : Nat) (cur : Array Value) (fr : Nat × Nat), W.heap[g]? = some (.cells cur 54 fr) → W'.heap[g]? = W.heap[g]?) : NtE W' base A n N := by
  obtain ⟨h1, h2⟩ := h
  refine ⟨⟨h1.1, fun hn => ?_⟩, fun hn => ?_⟩
  · obtain ⟨b, o, e, hb, hc⟩ := h1.2 hn
    obtain ⟨g, o', cur, fr, e', k1, k2⟩ := h2 hn
    rw [e] at e'
    injection e' with e'
    injection e' with e1 e2
    subst e1
    exact ⟨b, o, e, by omega, fun j r hj i u hi => (World.cell?_of_block (hk b cur fr k2)).trans (hc j r hj i u hi)⟩
  · obtain ⟨g, o', cur, fr, e', k1, k2⟩ := h2 hn
    exact ⟨g, o', cur, fr, e', k1, (hk g cur fr k2).trans k2⟩
theorem NtE.rd (h : NtE W base A n N) : RdS Nt.cells W W.heap.size 3 A n N := h.1
theorem NtE.below (h : NtE W base A n N) (hb : Below W.heap.size W W') : NtE W' base A n N := h.keep hb.size (fun g cur fr hg => hb.block g (Array.getElem?_eq_some_iff.1 hg).1)
theorem NtE.of_own (h : W.ownsRow base 54 3 (.slice A n c) n (N.flatMap Nt.cells)) (hn : N.length = n) : NtE W base A n N := by
  refine ⟨rds_of_own h hn, fun h0 => ?_⟩
  rcases h.2 with ⟨hv, _⟩ | ⟨g, cap, cur, hv, hb, hg, _⟩
  · injection hv with _ h2 _
    omega
  · injection hv with h1 _ _
    exact ⟨g, 0, cur, _, h1, hb, hg⟩
theorem NtE.drop (h : NtE W base A n N) (hd : d < n) : ∃ g o, A = some ⟨g, o, none⟩ ∧ NtE W base (some ⟨g, o + d * 3, none⟩) (n - d) (N.drop d) := by
  obtain ⟨b, o, e, hr⟩ := rds_drop (c := 0) h.1 hd
  obtain ⟨g, o', cur, fr, e', k1, k2⟩ := h.2 (by omega)
  rw [e] at e'
  injection e' with e'
  injection e' with e1 e2
  subst e1
  exact ⟨b, o, e, hr, fun _ => ⟨b, _, cur, fr, rfl, k1, k2⟩⟩
end
/-- a state: rows of one's own, or those of an argument -/
def StE (w W : World) (V : StV) (x : St) : Prop := StO W w.heap.size V x ∨ StR W w.heap.size V x
/-- three cells of a state's box -/
def put3 (W : World) (b : Nat) (V : StV) : World := ((W.setCell ⟨b, 0, none⟩ (.slice V.A1 V.n1 V.c1)).setCell ⟨b, 1, none⟩ (.slice V.A2 V.n2 V.c2)).setCell ⟨b, 2, none⟩ (.slice V.A3 V.n3 V.c3)
section
variable {w W W' : World} {V V' : StV} {x : St} {b g : Nat} {X : Nat → Prop} {cs : Array Value}
theorem StE.toR (h : StE w W V x) (hb : w.heap.size ≤ W.heap.size) : StR W W.heap.size V x := by
  rcases h with h | h
  · exact h.toR
  · exact h.more hb
theorem StE.below (h : StE w W V x) (hb : Below W.heap.size W W') (hw : w.heap.size ≤ W.heap.size) : StE w W' V x := h.imp (fun g => g.below hb) (fun g => g.below (hb.mono hw))
theorem StE.chg (h : StE w W V x) (hc : Chg X W W') (hb : Below w.heap.size W W') (h1 : ∀ g cur fr, W.heap[g]? = some (.cells cur 61 fr) → ¬ X g) (h2 : ∀ g cur fr, W.heap[g]? = some (.cells cur 2 fr) → ¬ X g) : StE w W' V x :=
  h.imp (fun g => ⟨own_chg g.o1 hc (fun g cur fr hg _ => h1 g cur fr hg), own_chg g.o2 hc (fun g cur fr hg _ => h1 g cur fr hg), own_chg g.o3 hc (fun g cur fr hg _ => h2 g cur fr hg), g.l1, g.l2, g.l3⟩) (fun g => g.below hb)
theorem put3_chg : Chg (fun k => k = b) W (put3 W b V) := chg_set (chg_set (chg_set (Chg.refl _ _) rfl) rfl) rfl
theorem put3_at (h : W.heap[b]? = some (.cells #[.slice V.A1 V.n1 V.c1, .slice V.A2 V.n2 V.c2, .slice V.A3 V.n3 V.c3] 25)) : (put3 W b V').heap[b]? = some (.cells #[.slice V'.A1 V'.n1 V'.c1, .slice V'.A2 V'.n2 V'.c2, .slice V'.A3 V'.n3 V'.c3] 25) :=
  heap_set_same (j := 2) _ (heap_set_same (j := 1) _ (heap_set_same (j := 0) _ h))
theorem st_not (h : W.heap[b]? = some (.cells cs 25)) : ∀ (g : Nat) (cur : Array Value) (T : TypeId) (fr : Nat × Nat), W.heap[g]? = some (.cells cur T fr) → T ≠ 25 → ¬ g = b := fun g cur T fr hg hT e => by
  subst e
  rw [h] at hg
  injection hg with hg
  injection hg with _ hg
  exact hT hg.symm
end
/-- the disk, the log, the store; what stands, what may stand in its place, the notes of both -/
structure MI (w wr : World) (p q lb sb base k xb ob : Nat) (s : CS) (V : StV) (x : St) (OV : StV) (ov : St) (Ak : Option Addr) (nk : Nat) (K : List Nt) (Ao : Option Addr) (no : Nat) (O : List Nt) : Prop where
  bel : Below w.heap.size w wr
  sto : StM w.heap.size wr p q lb sb base k 1 2 s.ps
  xat : wr.heap[xb]? = some (.cells #[.slice V.A1 V.n1 V.c1, .slice V.A2 V.n2 V.c2, .slice V.A3 V.n3 V.c3] 25)
  oat : wr.heap[ob]? = some (.cells #[.slice OV.A1 OV.n1 OV.c1, .slice OV.A2 OV.n2 OV.c2, .slice OV.A3 OV.n3 OV.c3] 25)
  xo : xb ≠ ob
  vx : StE w wr V x
  vo : StE w wr OV ov
  kx : NtE wr w.heap.size Ak nk K
  ko : NtE wr w.heap.size Ao no O
  lo : (w.heap.size ≤ p ∧ w.heap.size ≤ q) ∧ (w.heap.size ≤ lb ∧ w.heap.size ≤ sb) ∧ w.heap.size ≤ xb ∧ w.heap.size ≤ ob
section
variable {w wr w' : World} {p q lb sb base k k' xb ob nk no b' : Nat} {s s' : CS} {V V' OV : StV} {x x' ov : St} {Ak Ao A' : Option Addr} {K O K' : List Nt} {n' : Nat}
theorem MI.below (h : MI w wr p q lb sb base k xb ob s V x OV ov Ak nk K Ao no O) (hb : Below wr.heap.size wr w') : MI w w' p q lb sb base k xb ob s V x OV ov Ak nk K Ao no O :=
  ⟨h.bel.trans (hb.mono h.bel.size), h.sto.below hb, (hb.block _ (Array.getElem?_eq_some_iff.1 h.xat).1).trans h.xat, (hb.block _ (Array.getElem?_eq_some_iff.1 h.oat).1).trans h.oat, h.xo, h.vx.below hb h.bel.size, h.vo.below hb h.bel.size, h.kx.below hb, h.ko.below hb, h.lo⟩
theorem MI.yt_lo (h : MI w wr p q lb sb base k xb ob s V x OV ov Ak nk K Ao no O) : ∀ j, YT w.heap.size wr p q lb sb j → w.heap.size ≤ j := by
  obtain ⟨⟨h1, h2⟩, ⟨h3, h4⟩, _⟩ := h.lo
  rintro j ((rfl | rfl | rfl | h5) | rfl)
  · exact h1
  · exact h2
  · exact h3
  · exact h5.1
  · exact h4
theorem MI.step (h : MI w wr p q lb sb base k xb ob s V x OV ov Ak nk K Ao no O) (hs : StM w.heap.size w' p q lb sb b' k' 1 2 s'.ps) (hc : Chg (YT w.heap.size wr p q lb sb) wr w') : MI w w' p q lb sb b' k' xb ob s' V x OV ov Ak nk K Ao no O := by
  have hb : Below w.heap.size wr w' := hc.below h.bel.size h.yt_lo
  have n1 := fun (g : Nat) (cur : Array Value) (fr : Nat × Nat) (hg : wr.heap[g]? = some (.cells cur 61 fr)) => yt_not h.sto hg (by unfold Un5; decide)
  have n2 := fun (g : Nat) (cur : Array Value) (fr : Nat × Nat) (hg : wr.heap[g]? = some (.cells cur 2 fr)) => yt_not h.sto hg (by unfold Un5; decide)
  have n3 : ∀ (g : Nat) (cur : Array Value) (fr : Nat × Nat), wr.heap[g]? = some (.cells cur 54 fr) → w'.heap[g]? = wr.heap[g]? := fun g cur fr hg => hc.at_ (Array.getElem?_eq_some_iff.1 hg).1 (yt_not h.sto hg (by unfold Un5; decide))
  exact ⟨h.bel.trans hb, hs, (hc.at_ (Array.getElem?_eq_some_iff.1 h.xat).1 (yt_not h.sto h.xat (by unfold Un5; decide))).trans h.xat, (hc.at_ (Array.getElem?_eq_some_iff.1 h.oat).1 (yt_not h.sto h.oat (by unfold Un5; decide))).trans h.oat, h.xo, h.vx.chg hc hb n1 n2, h.vo.chg hc hb n1 n2, h.kx.keep hc.size n3, h.ko.keep hc.size n3, h.lo⟩
theorem MI.setX (h : MI w wr p q lb sb base k xb ob s V x OV ov Ak nk K Ao no O) (hv : StE w wr V' x') : MI w (put3 wr xb V') p q lb sb base k xb ob s V' x' OV ov Ak nk K Ao no O := by
  have hc : Chg (fun k => k = xb) wr (put3 wr xb V') := put3_chg
  have hX := st_not h.xat
  have hb : Below w.heap.size wr (put3 wr xb V') := hc.below h.bel.size (fun k hk => by rw [hk]; exact h.lo.2.2.1)
  have n1 := fun (g : Nat) (cur : Array Value) (fr : Nat × Nat) (hg : wr.heap[g]? = some (.cells cur 61 fr)) => hX g cur _ fr hg (by decide)
  have n2 := fun (g : Nat) (cur : Array Value) (fr : Nat × Nat) (hg : wr.heap[g]? = some (.cells cur 2 fr)) => hX g cur _ fr hg (by decide)
  have n3 : ∀ (g : Nat) (cur : Array Value) (fr : Nat × Nat), wr.heap[g]? = some (.cells cur 54 fr) → (put3 wr xb V').heap[g]? = wr.heap[g]? := fun g cur fr hg => hc.at_ (Array.getElem?_eq_some_iff.1 hg).1 (hX g cur _ fr hg (by decide))
  exact ⟨h.bel.trans hb, h.sto.chgX hc hX, put3_at h.xat, (hc.at_ (Array.getElem?_eq_some_iff.1 h.oat).1 (fun e => h.xo e.symm)).trans h.oat, h.xo, hv.chg hc hb n1 n2, h.vo.chg hc hb n1 n2, h.kx.keep hc.size n3, h.ko.keep hc.size n3, h.lo⟩
theorem MI.setO (h : MI w wr p q lb sb base k xb ob s V x OV ov Ak nk K Ao no O) (hv : StE w wr V' x') : MI w (put3 wr ob V') p q lb sb base k xb ob s V x V' x' Ak nk K Ao no O := by
  have hc : Chg (fun k => k = ob) wr (put3 wr ob V') := put3_chg
  have hX := st_not h.oat
  have hb : Below w.heap.size wr (put3 wr ob V') := hc.below h.bel.size (fun k hk => by rw [hk]; exact h.lo.2.2.2)
  have n1 := fun (g : Nat) (cur : Array Value) (fr : Nat × Nat) (hg : wr.heap[g]? = some (.cells cur 61 fr)) => hX g cur _ fr hg (by decide)
  have n2 := fun (g : Nat) (cur : Array Value) (fr : Nat × Nat) (hg : wr.heap[g]? = some (.cells cur 2 fr)) => hX g cur _ fr hg (by decide)
  have n3 : ∀ (g : Nat) (cur : Array Value) (fr : Nat × Nat), wr.heap[g]? = some (.cells cur 54 fr) → (put3 wr ob V').heap[g]? = wr.heap[g]? := fun g cur fr hg => hc.at_ (Array.getElem?_eq_some_iff.1 hg).1 (hX g cur _ fr hg (by decide))
  exact ⟨h.bel.trans hb, h.sto.chgX hc hX, (hc.at_ (Array.getElem?_eq_some_iff.1 h.xat).1 h.xo).trans h.xat, put3_at h.oat, h.xo, h.vx.chg hc hb n1 n2, hv.chg hc hb n1 n2, h.kx.keep hc.size n3, h.ko.keep hc.size n3, h.lo⟩
theorem MI.setK (h : MI w wr p q lb sb base k xb ob s V x OV ov Ak nk K Ao no O) (hk : NtE wr w.heap.size A' n' K') : MI w wr p q lb sb base k xb ob s V x OV ov A' n' K' Ao no O :=
  ⟨h.bel, h.sto, h.xat, h.oat, h.xo, h.vx, h.vo, hk, h.ko, h.lo⟩
theorem MI.setN (h : MI w wr p q lb sb base k xb ob s V x OV ov Ak nk K Ao no O) (hk : NtE wr w.heap.size A' n' K') : MI w wr p q lb sb base k xb ob s V x OV ov Ak nk K A' n' K' :=
  ⟨h.bel, h.sto, h.xat, h.oat, h.xo, h.vx, h.vo, h.kx, hk, h.lo⟩
theorem MI.again {lb' sb' : Nat} (h : MI w wr p q lb sb base k xb ob s V x OV ov Ak nk K Ao no O) (hs : StM w.heap.size wr p q lb' sb' b' k' 1 2 s'.ps) (h1 : w.heap.size ≤ lb') (h2 : w.heap.size ≤ sb') : MI w wr p q lb' sb' b' k' xb ob s' V x OV ov Ak nk K Ao no O :=
  ⟨h.bel, hs, h.xat, h.oat, h.xo, h.vx, h.vo, h.kx, h.ko, h.lo.1, ⟨h1, h2⟩, h.lo.2.2⟩
theorem MI.more (h : MI w wr p q lb sb base k xb ob s V x OV ov Ak nk K Ao no O) (hk : k ≤ k') : MI w wr p q lb sb base k' xb ob s V x OV ov Ak nk K Ao no O :=
  ⟨h.bel, h.sto.more hk, h.xat, h.oat, h.xo, h.vx, h.vo, h.kx, h.ko, h.lo⟩
/-- the disk's steps -/
theorem m_cut (h : MI w wr p q lb sb base k xb ob s V x OV ov Ak nk K Ao no O) (a b : Int) (ha : a ≤ 9223372036854775807) :
    Calls Try.prog 22 #[.pointer (some ⟨p, 0, none⟩), .int .i64 a, .int .i64 b] wr fun e w' => e = .returned (.tuple #[]) ∧ MI w w' p q lb sb base k xb ob (s.cut a b) V x OV ov Ak nk K Ao no O := by
  refine (cut_any _ p q s.r.d wr a b ha (HD.un h.sto.hd)).mono ?_
  rintro e w' ⟨he, h1, h2⟩
  refine ⟨he, h.step (s' := s.cut a b) (h.sto.disk h1 h2 ?_ ?_) (un_chg (d := s.r.d) h2)⟩
  · show (s.r.d.setCut a b).L.length = s.r.d.L.length
    rw [(setCut_L s.r.d a b).1]
  · show (s.r.d.setCut a b).writes ≤ k
    rw [setCut_w]; exact h.sto.wk
def CS.booted (s : CS) : CS := ⟨⟨s.r.d.boot, s.r.torn, s.r.was, s.r.meant⟩, s.half, s.turn, s.taken, s.N⟩
theorem m_boot (h : MI w wr p q lb sb base k xb ob s V x OV ov Ak nk K Ao no O) :
    Calls Try.prog 23 #[.pointer (some ⟨p, 0, none⟩)] wr fun e w' => e = .returned (.tuple #[]) ∧ MI w w' p q lb sb base k xb ob s.booted V x OV ov Ak nk K Ao no O := by
  refine (boot_any _ p q s.r.d wr (HD.un h.sto.hd)).mono ?_
  rintro e w' ⟨he, h1, h2⟩
  exact ⟨he, h.step (s' := s.booted) (h.sto.disk h1 h2 rfl h.sto.wk) (un_chg (d := s.r.d) h2)⟩
theorem m_down (h : MI w wr p q lb sb base k xb ob s V x OV ov Ak nk K Ao no O) :
    Calls Try.prog 24 #[.pointer (some ⟨p, 0, none⟩)] wr fun e w' => e = .returned (.bool s.r.d.down) ∧ w' = wr := down_any _ p q s.r.d wr h.sto.hd
end
/-- a store on a disk that has booted -/
def AgainP (w : World) (p q k : Nat) (s : CS) (y : St × List Nt) (ed : Ending) (w' : World) (B0 : Nat) : Prop :=
  ∃ (sb lb : Nat) (v : StV) (A : Option Addr) (n cap : Nat), ed = .returned (.tuple #[.pointer (some ⟨sb, 0, none⟩), .agg #[.slice v.A1 v.n1 v.c1, .slice v.A2 v.n2 v.c2, .slice v.A3 v.n3 v.c3], .slice A n cap, .int .i64 0]) ∧
    StM B0 w' p q lb sb w.heap.size k 1 2 s.ps ∧ StO w' w.heap.size v y.1 ∧ w'.ownsRow w.heap.size 54 3 (.slice A n cap) n (y.2.flatMap Nt.cells) ∧ y.2.length = n ∧ Below w.heap.size w w' ∧ w.heap.size ≤ lb ∧ w.heap.size ≤ sb
theorem m_open {w : World} {p q k B0 half turn taken : Nat} {d : DD} {L : List (List Nat)} {y : St × List Nt} {s : CS} (hd : HD w (Lo B0) p q d) (hup : d.down = false) (hw : d.writes ≤ k) (hJ : J d.L half turn taken L) (hop : openF 1 2 (zero0 1 2) [] L = some y) (hs : s.ps = ⟨d, half, turn, taken, y.2⟩) :
    Calls Try.prog 16 #[.pointer (some ⟨p, 0, none⟩), .int .i64 1, .int .i64 2] w fun ed w' => AgainP w p q k s y ed w' B0 := by
  have hl256 : d.L.length ≤ 256 := by obtain ⟨c', hh⟩ := hd; exact hh.ok.2.1
  have hdk : DK w p q ⟨d, B0⟩ k half turn taken L := ⟨d, hd, rfl, hup, J.opens hJ, hw, hJ.fine⟩
  have h := openS_go 1 2 p q ⟨d, B0⟩ k half turn taken L w hdk (by omega) (by omega) (by have := hJ.len; omega)
  rw [hop] at h
  refine Calls.mono h ?_
  rintro ed w' ⟨sb, lb, v, A, n, cap, he, h1, h2, h3, h4, h5, h6, h7⟩
  have hok := (openF_ok 1 2 L (zero0 1 2) [] y hJ.fine (by simp) (by simp) hop).1
  have h8 := (h1 hok).stm hJ.h1 hJ.room
  rw [← hs] at h8
  exact ⟨sb, lb, v, A, n, cap, he, h8, h2, h3, h4, h5, h6, h7⟩
end Go.Proofs.Ytcdgaeenfhpnkaa.Cr
