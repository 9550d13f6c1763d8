/- StoreCrash: behind a failure what stands is that of the last Put that was OK, or of the one in flight. -/
import Derived.Test.YtcdgaeenfhpnkaaPk49
set_option linter.unusedVariables false
set_option linter.unusedSimpArgs false
set_option maxRecDepth 100000
namespace Go.Proofs.Ytcdgaeenfhpnkaa.Cr
open Go Go.RowKit CrcMath
attribute [local go_sem] Oper.semAt_some

theorem wf_u8' {a : Int} (h : (Lit.int .u8 a).wf = true) : 0 ≤ a ∧ a < 256 := by
  have := bounds_u8 h
  omega
theorem Ops.to {w W : World} {A : Option Addr} {n : Nat} {l : List Opr} (h : Ops w w.heap.size A n l) (hb : Below w.heap.size w W) : Ops W W.heap.size A n l :=
  ⟨(h.1.below hb).more hb.size, fun r hr => ((h.2 r hr).below hb).more hb.size⟩
theorem lo_lt {B k : Nat} (h : Lo B k) : k < B := h
/-- what may stand -/
structure Stands (s : CS) (y : St × List Nt) (mb : Bool) (x : St) (KL : List Nt) (ov : St) (O : List Nt) : Prop where
  up : s.r.d.down = false → mb = false ∧ y = (x, KL)
  dn : s.r.d.down = true → y = (x, KL) ∨ mb = true ∧ y = (ov, O)
section
variable {s s' : CS} {y : St × List Nt} {mb : Bool} {x x' ov : St} {KL O l' : List Nt} {j en : Nat}
/-- what a Put leaves -/
theorem outcome (h : CI s j y) (hs : Stands s y mb x KL ov O) (hj : j < 60000) (hput : s.put 1 2 x' l' = (en, s')) (hl : ¬ (s'.r.d.down = true ∧ s.r.d.down = false ∧ opens s'.r.mixed = true)) :
    (en = 0 ∧ s.r.d.down = false ∧ CI s' (j + 1) (x', lastN (KL ++ l')) ∧ Stands s' (x', lastN (KL ++ l')) mb x' (lastN (KL ++ l')) ov O) ∨
    (en ≠ 0 ∧ (en ≠ 101 ∨ s.r.d.down = true) ∧ CI s' (j + 1) y ∧ Stands s' y mb x KL ov O) ∨
    (en = 101 ∧ s.r.d.down = false ∧ ∃ y', CI s' (j + 1) y' ∧ Stands s' y' true x KL x' (lastN (KL ++ l'))) := by
  cases hd : s.r.d.down with
  | true =>
    have h1 := CS.put_down (c := 1) (e := 2) (x := x') (l := l') h.okn hd
    rw [hput] at h1
    obtain ⟨h2, h3⟩ := h1
    have h3 : s' = s := h3
    rw [h3]
    exact .inr (.inl ⟨h2, .inr rfl, h.more (by omega), hs⟩)
  | false =>
    obtain ⟨rfl, rfl⟩ := hs.up hd
    have h1 := h.put hj hd x' l'
    rw [hput] at h1
    dsimp only at h1
    rcases h1 with ⟨h2, h3, _, h4⟩ | ⟨h2, h3⟩ | ⟨h2, h3, _, h4⟩
    · exact .inl ⟨h2, rfl, h4, ⟨fun _ => ⟨rfl, rfl⟩, fun _ => .inl rfl⟩⟩
    · rw [h3]
      exact .inr (.inl ⟨by omega, .inl (by omega), h.more (by omega), hs⟩)
    · refine .inr (.inr ⟨h2, rfl, ?_⟩)
      rcases h4 (fun hm => hl ⟨h3, hd, hm⟩) with h5 | h5
      · exact ⟨_, h5, ⟨fun hu => (by rw [h3] at hu; cases hu), fun _ => .inl rfl⟩⟩
      · exact ⟨_, h5, ⟨fun hu => (by rw [h3] at hu; cases hu), fun _ => .inr ⟨rfl, rfl⟩⟩⟩
end
theorem HMI_B {w wr : World} {p q lb sb base k xb ob nk no : Nat} {s : CS} {V OV : StV} {x ov : St} {Ak Ao : Option Addr} {KL O : List Nt} (h : MI w wr p q lb sb base k xb ob s V x OV ov Ak nk KL Ao no O) : Below w.heap.size w wr := h.bel
set_option maxHeartbeats 32000000 in
theorem crash_walk (a : Int) (A : Option Addr) (n c : Nat) (l : List Opr) (w : World) (hw : (Lit.int .u8 a).wf = true) (h1 : Ops w w.heap.size A n l ∧ (n ≤ c ∧ c ≤ maxLen) ∧ n ≤ 140737488351232) :
    Calls Try.prog 7 #[.int .u8 a, .slice A n c] w fun e w' => e = .returned (.bool true) ∧ Below w.heap.size w w' := by
  obtain ⟨hr, ⟨hnc, hcm⟩, hn⟩ := h1
  obtain ⟨ha, ha'⟩ := wf_u8' hw
  have Hr := Lib.hid hr
  obtain ⟨g, hg⟩ : ∃ g, grB l n = g := ⟨_, rfl⟩
  have Hg := Lib.hid hg
  have hg0 : g = false → n ≤ 100 := fun h => grB_no (hg.trans h)
  have hnm : n ≤ 9223372036854775807 := by omega
  obtain ⟨lk, hlk⟩ : ∃ lk, luckyF (start a) l = lk := ⟨_, rfl⟩
  have Hlk := Lib.hid hlk
  have hll : l.length = n := hr.1.1
  have Hll := Lib.hid hll
  clear hr hg hw hlk hll
  have two : g = true ∨ g = false ∧ lk = true ∨ g = false ∧ lk = false := by cases g <;> cases lk <;> simp
  rcases two with rfl | ⟨rfl, rfl⟩ | ⟨rfl, rfl⟩
  · go_enter Try.func7, Try.ntmps7
    go_wp2_with (first
      | (go_at_call 8; (with_reducible refine (head_any _).mono ?_)
         rintro e w1 ⟨rfl, hb1⟩
         have HB1 := Lib.hid hb1
         clear hb1)
      | (go_at_call 15; (with_reducible refine (new_any (fun _ => False) w1 a (fun k hk => hk.elim)).mono ?_)
         rintro e w2 ⟨rfl, hd2, hb2⟩
         have HB2 : Hid (Below w.heap.size w w2) := HB1.out.trans (hb2.mono HB1.out.size)
         clear hd2 hb2 HB1)
      | (go_at_call 20; (with_reducible refine (great_any A n c l _ w.heap.size (Hr.out.below HB2.out) hn HB2.out.size).mono ?_)
         rintro e w3 ⟨he, hb3⟩
         rw [Hg.out] at he
         subst he
         have HB3 : Hid (Below w.heap.size w w3) := HB2.out.trans (hb3.mono HB2.out.size)
         clear hb3 HB2))
    go_ret
    exact ⟨ret_bool (by simp), HB3.out⟩
  · go_enter Try.func7, Try.ntmps7
    go_wp2_with (first
      | (go_at_call 8; (with_reducible refine (head_any _).mono ?_)
         rintro e w1 ⟨rfl, hb1⟩
         have HB1 := Lib.hid hb1
         clear hb1)
      | (go_at_call 15; (with_reducible refine (new_any (fun _ => False) w1 a (fun k hk => hk.elim)).mono ?_)
         rintro e w2 ⟨rfl, hd2, hb2⟩
         have HB2 : Hid (Below w.heap.size w w2) := HB1.out.trans (hb2.mono HB1.out.size)
         clear hd2 hb2 HB1)
      | (go_at_call 20; (with_reducible refine (great_any A n c l _ w.heap.size (Hr.out.below HB2.out) hn HB2.out.size).mono ?_)
         rintro e w3 ⟨he, hb3⟩
         rw [Hg.out] at he
         subst he
         have HB3 : Hid (Below w.heap.size w w3) := HB2.out.trans (hb3.mono HB2.out.size)
         clear hb3 HB2)
      | (go_at_call 21; (with_reducible refine (lucky_any a A n c l w3 (Ops.to Hr.out HB3.out) Hg.out ⟨ha, by omega⟩).mono ?_)
         rintro e w4 ⟨he, hb4⟩
         rw [Hlk.out] at he
         subst he
         have HB4 : Hid (Below w.heap.size w w4) := HB3.out.trans (hb4.mono HB3.out.size)
         clear hb4 HB3))
    go_ret
    exact ⟨ret_bool (by simp), HB4.out⟩
  have hn100 : n ≤ 100 := hg0 rfl
  have hnI : (n : Int) ≤ 100 := by omega
  clear hg0
  have Hopen : Hid (∀ w4 p q, HD w4 (Lo w.heap.size) p q (DD.fresh a) → Calls Try.prog 16 #[.pointer (some ⟨p, 0, none⟩), .int .i64 1, .int .i64 2] w4 fun ed w' => AgainP w4 p q 0 (start a) (zero0 1 2, []) ed w' w.heap.size) :=
    fun w4 p q h => m_open h rfl (Nat.le_refl _) (J.fresh a) rfl rfl
  go_enter Try.func7, Try.ntmps7
  go_wp2_with (first
    | (go_at_call 8; (with_reducible refine (head_any _).mono ?_)
       rintro e w1 ⟨rfl, hb1⟩
       have HB1 := Lib.hid hb1
       clear hb1)
    | (go_at_call 15; (with_reducible refine (new_any (Lo w1.heap.size) w1 a (fun k hk => lo_lt hk)).mono ?_)
       rintro e w2 ⟨rfl, hd2, hb2⟩
       have HD2 := Lib.hid hd2
       have HB2 : Hid (Below w.heap.size w w2) := HB1.out.trans (hb2.mono HB1.out.size)
       have HS1 : Hid (w.heap.size ≤ w1.heap.size) := HB1.out.size
       clear hd2 hb2 HB1)
    | (go_at_call 20; (with_reducible refine (great_any A n c l _ w.heap.size (Hr.out.below HB2.out) hn HB2.out.size).mono ?_)
       rintro e w3 ⟨he, hb3⟩
       rw [Hg.out] at he
       subst he
       have HB3 : Hid (Below w.heap.size w w3) := HB2.out.trans (hb3.mono HB2.out.size)
       have HD3 := Lib.hid (HD2.out.below hb3)
       clear hb3 HB2 HD2)
    | (go_at_call 21; (with_reducible refine (lucky_any a A n c l w3 (Ops.to Hr.out HB3.out) Hg.out ⟨ha, by omega⟩).mono ?_)
       rintro e w4 ⟨he, hb4⟩
       rw [Hlk.out] at he
       subst he
       have HB4 : Hid (Below w.heap.size w w4) := HB3.out.trans (hb4.mono HB3.out.size)
       have HD4 := Lib.hid (HD.lower (HD3.out.below hb4) HS1.out)
       clear hb4 HB3 HD3)
    | (go_at_call 16; (with_reducible refine (Hopen.out w4 _ _ HD4.out).mono ?_)
       rintro e w5 ⟨sb, lb, ⟨P1, p1, r1, P2, p2, r2, P3, p3, r3⟩, A5, n5, c5, rfl, hS5, ho5, hn5, hl5, hb5, hlb, hsb⟩
       obtain ⟨p, hp⟩ : ∃ p, p = w1.heap.size + 1 := ⟨_, rfl⟩
       obtain ⟨q, hq⟩ : ∃ q, q = w1.heap.size := ⟨_, rfl⟩
       obtain ⟨wz, hwz⟩ : ∃ W, W = (w5.alloc (.cells #[.slice P1 p1 r1, .slice P2 p2 r2, .slice P3 p3 r3] 25)).alloc (.cells #[.slice P1 p1 r1, .slice P2 p2 r2, .slice P3 p3 r3] 25) := ⟨_, rfl⟩
       have hs4 := HB4.out.size
       have hs5 := hb5.size
       have ba := al_ w5 (.cells #[.slice P1 p1 r1, .slice P2 p2 r2, .slice P3 p3 r3] 25)
       have bb := al_ (w5.alloc (.cells #[.slice P1 p1 r1, .slice P2 p2 r2, .slice P3 p3 r3] 25)) (.cells #[.slice P1 p1 r1, .slice P2 p2 r2, .slice P3 p3 r3] 25)
       have bz : Below w5.heap.size w5 wz := by rw [hwz]; exact ba.trans (bb.mono ba.size)
       have hx : wz.heap[w5.heap.size]? = some (.cells #[.slice P1 p1 r1, .slice P2 p2 r2, .slice P3 p3 r3] 25) := by
         rw [hwz]; exact (bb.block w5.heap.size (by rw [World.size_alloc]; omega)).trans (heap_alloc_new w5 _)
       have hy : wz.heap[w5.heap.size + 1]? = some (.cells #[.slice P1 p1 r1, .slice P2 p2 r2, .slice P3 p3 r3] 25) := by
         rw [hwz]
         have h := heap_alloc_new (w5.alloc (.cells #[.slice P1 p1 r1, .slice P2 p2 r2, .slice P3 p3 r3] 25)) (.cells #[.slice P1 p1 r1, .slice P2 p2 r2, .slice P3 p3 r3] 25)
         rw [World.size_alloc] at h
         exact h
       have hV : StE w wz ⟨P1, p1, r1, P2, p2, r2, P3, p3, r3⟩ (zero0 1 2) := .inl ((ho5.base hs4).below bz)
       have hN : NtE wz w.heap.size A5 n5 [] := NtE.of_own (own_below (own_base hn5 hs4) bz) hl5
       have hMI : MI w wz p q lb sb w4.heap.size 0 w5.heap.size (w5.heap.size + 1) (start a) ⟨P1, p1, r1, P2, p2, r2, P3, p3, r3⟩ (zero0 1 2) ⟨P1, p1, r1, P2, p2, r2, P3, p3, r3⟩ (zero0 1 2) A5 n5 [] A5 n5 [] :=
         ⟨(HB4.out.trans (hb5.mono hs4)).trans (bz.mono (Nat.le_trans hs4 hs5)), by rw [hp, hq]; exact hS5.below bz, hx, hy, by omega, hV, hV, hN, hN, ⟨by have := HS1.out; omega, by have := HS1.out; omega⟩, ⟨by omega, by omega⟩, by omega, by omega⟩
       have HMI := Lib.hid hMI
       rw [← hp]
       clear hS5 ho5 hn5 hl5 hb5 hlb hsb hp hq hs4 hs5 ba bb bz hx hy hV hN hMI HD4 HB4 HS1
       have Hwz := Lib.hid hwz
       clear hwz))
  rw [← Hwz.out]
  obtain ⟨xb, hxb⟩ : ∃ xb, xb = w5.heap.size := ⟨_, rfl⟩
  obtain ⟨ob, hob⟩ : ∃ ob, ob = w5.heap.size + 1 := ⟨_, rfl⟩
  rw [← hob, ← hxb] at HMI ⊢
  have hn5 : n5 = 0 := HMI.out.kx.1.1.symm
  clear hxb hob Hwz Hopen
  go_loopg [7, 9, 11, 13, 14] n (fun qq v7 v9 v11 v13 v14 wr => ∃ (j base sb lb nk ck no co : Nat) (s : CS) (y : St × List Nt) (mb : Bool) (V OV : StV) (x ov : St) (Ak Ao : Option Addr) (KL O : List Nt), qq + j = n ∧ v7 = .pointer (some ⟨sb, 0, none⟩) ∧ v9 = .slice Ak nk ck ∧ v11 = .bool mb ∧ v13 = .slice Ao no co ∧ v14 = .int .i64 j ∧
    CI s j y ∧ luckyF s (l.drop j) = false ∧ Stands s y mb x KL ov O ∧ (nk ≤ 32 ∧ no ≤ 32) ∧ MI w wr p q lb sb base (16 * j) xb ob s V x OV ov Ak nk KL Ao no O)
  case atStart => exact ⟨0, _, sb, lb, n5, c5, n5, c5, start a, _, false, _, _, _, _, A5, A5, [], [], by omega, rfl, rfl, rfl, rfl, rfl, CI.start a, Hlk.out, ⟨fun _ => ⟨rfl, rfl⟩, fun _ => .inl rfl⟩, ⟨by omega, by omega⟩, HMI.out⟩
  case round =>
    clear HMI hn5
    obtain ⟨j, base, sb, lb, nk, ck, no, co, s, y, mb, ⟨V1, v1, k1, V2, v2, k2, V3, v3, k3⟩, ⟨O1, o1, i1, O2, o2, i2, O3, o3, i3⟩, x, ov, Ak, Ao, KL, O, hj, rfl, rfl, rfl, rfl, rfl, hci, hlu, hst, ⟨hnk, hno⟩, hmi⟩ := hrel
    have Hci := Lib.hid hci
    have Hlu := Lib.hid hlu
    have Hst := Lib.hid hst
    have HMI := Lib.hid hmi
    clear hci hlu hst hmi
    by_cases hlt : j < n
    rotate_left
    · have hi0 : ¬ (j : Int) < (n : Int) := by omega
      clear hlt
      go_wp2_with fail
      go_ret
      exact ⟨ret_bool (by simp), HMI.out.bel⟩
    · have hi0 : (0 : Int) ≤ (j : Int) := by omega
      have hi1 : (j : Int) < (n : Int) := by omega
      obtain ⟨bb, o, rfl, hbB, _⟩ := Hr.out.1.2 (by omega)
      obtain ⟨r, hr1⟩ : ∃ r, l[j]? = some r := ⟨_, List.getElem?_eq_getElem (by have := Hll.out; omega)⟩
      have hok := Hr.out.2 r (List.mem_of_getElem? hr1)
      have Hok := Lib.hid hok
      have hb500 : r.v.n1 + r.v.n2 + r.v.n3 + r.len ≤ 500 := by
        have hg := Hg.out
        cases hb : bigO r with
        | false =>
          unfold bigO at hb
          have := of_decide_eq_false hb
          omega
        | true => rw [grB_yes hr1 (by omega) hb] at hg; cases hg
      have hcl := (opr_cells Hr.out.1 hr1 (by omega)) wr HMI.out.bel
      obtain ⟨⟨c0, c1, c2⟩, ⟨c3, c4, c5⟩, c6⟩ := hcl
      have hdrop : l.drop j = r :: l.drop (j + 1) := by
        rw [List.drop_eq_getElem_cons (List.getElem?_eq_some_iff.1 hr1).1, (List.getElem?_eq_some_iff.1 hr1).2]
      have Hlu' : Hid ((if r.what = 3 then luckyF (s.cut r.at_ r.n) (l.drop (j + 1)) else if r.what = 4 then luckyF s.again (l.drop (j + 1))
          else if (s.put 1 2 r.x r.l).2.r.d.down = true ∧ s.r.d.down = false ∧ opens (s.put 1 2 r.x r.l).2.r.mixed = true then true else luckyF (s.put 1 2 r.x r.l).2 (l.drop (j + 1))) = false) := by
        show _ = _
        have h := Hlu.out
        rw [hdrop] at h
        exact h
      obtain ⟨wx, hwx⟩ : ∃ W, W = wr.alloc (.cells #[.int .i64 r.what, .int .i64 r.at_, .int .i64 r.n, .slice r.v.A1 r.v.n1 r.v.c1, .slice r.v.A2 r.v.n2 r.v.c2, .slice r.v.A3 r.v.n3 r.v.c3, .slice r.A r.len r.cap] 49) := ⟨_, rfl⟩
      have hbx : Below wr.heap.size wr wx := by rw [hwx]; exact al_ _ _
      have hxx : wx.heap[wr.heap.size]? = some (.cells #[.int .i64 r.what, .int .i64 r.at_, .int .i64 r.n, .slice r.v.A1 r.v.n1 r.v.c1, .slice r.v.A2 r.v.n2 r.v.c2, .slice r.v.A3 r.v.n3 r.v.c3, .slice r.A r.len r.cap] 49) := by rw [hwx]; exact heap_alloc_new _ _
      have d0 := cell_of_row _ wr.heap.size 0 _ _ _ hxx
      have d1 := cell_of_row _ wr.heap.size 1 _ _ _ hxx
      have d2 := cell_of_row _ wr.heap.size 2 _ _ _ hxx
      have d3 := cell_of_row _ wr.heap.size 3 _ _ _ hxx
      have d4 := cell_of_row _ wr.heap.size 4 _ _ _ hxx
      have d5 := cell_of_row _ wr.heap.size 5 _ _ _ hxx
      have d6 := cell_of_row _ wr.heap.size 6 _ _ _ hxx
      simp at d0 d1 d2 d3 d4 d5 d6
      have HMx := Lib.hid (HMI.out.below hbx)
      have Hxx := Lib.hid hxx
      have Hwx := Lib.hid hwx
      have hat : r.at_ ≤ 9223372036854775807 := hok.w2.2
      clear hok hr1 hdrop hbx hxx hwx hlt
      by_cases h3 : r.what = 3
      · have HL : Hid (luckyF (s.cut r.at_ r.n) (l.drop (j + 1)) = false) := by
          have h := Hlu'.out
          rw [if_pos h3] at h
          exact h
        have t3 : (r.what == 3) = true := by rw [h3]; rfl
        have HSt : Hid (Stands (s.cut r.at_ r.n) y mb x KL ov O) := by
          have h := Hst.out
          have e : (s.cut r.at_ r.n).r.d.down = s.r.d.down := (setCut_L s.r.d _ _).2
          exact ⟨fun hu => h.up (e.symm.trans hu), fun hu => h.dn (e.symm.trans hu)⟩
        clear h3
        go_wp2_with (first
          | (rw [← Hwx.out]
             go_at_call 22; (with_reducible refine (m_cut HMx.out r.at_ r.n hat).mono ?_)
             rintro e w5 ⟨rfl, hm5⟩
             have HM5 := Lib.hid hm5
             clear hm5))
        go_roundg (gk - 1)
        case measure => omega
        case rel => exact ⟨j + 1, base, sb, lb, nk, ck, no, co, s.cut r.at_ r.n, y, mb, _, _, x, ov, Ak, Ao, KL, O, by omega, rfl, rfl, rfl, rfl, by go_num, (Hci.out.cut _ _).more (by omega), HL.out, HSt.out, ⟨hnk, hno⟩, HM5.out.more (by omega)⟩
      · have t3 : (r.what == 3) = false := beq_eq_false_iff_ne.2 h3
        by_cases h4 : r.what = 4
        · have HL : Hid (luckyF s.again (l.drop (j + 1)) = false) := by
            have h := Hlu'.out
            rw [if_neg h3, if_pos h4] at h
            exact h
          have t4 : (r.what == 4) = true := by rw [h4]; rfl
          have h64 : ∀ x ∈ s.r.d.L, x.length = 64 := by
            obtain ⟨c', hh⟩ := HMx.out.sto.hd
            exact fun x hx => (hh.ok.1 x hx).1
          obtain ⟨L, half, turn, taken, a1, a2, a3, a4, a5, a6, a7⟩ := Hci.out.again h64
          have a8 := (openF_ok 1 2 L (zero0 1 2) [] y a1.fine (by simp) (by simp) a4).2
          have Ha := Lib.hid (And.intro a1 (And.intro a4 (And.intro a5 (And.intro a7 (And.intro a6 a8)))))
          have Hcall : Hid (∀ w5, MI w w5 p q lb sb base (16 * j) xb ob s.booted ⟨V1, v1, k1, V2, v2, k2, V3, v3, k3⟩ x ⟨O1, o1, i1, O2, o2, i2, O3, o3, i3⟩ ov Ak nk KL Ao no O →
              Calls Try.prog 16 #[.pointer (some ⟨p, 0, none⟩), .int .i64 1, .int .i64 2] w5 fun ed w' => AgainP w5 p q (16 * (j + 1)) s.again y ed w' w.heap.size) :=
            fun w5 h => m_open (d := s.r.d.boot) h.sto.hd rfl (by have := h.sto.wk; show s.r.d.writes ≤ _; have h2 : s.r.d.writes ≤ 16 * j := this; omega) a1 a4 (by rw [a5]; rfl)
          clear h3 h4 h64 a1 a2 a3 a4 a5 a6 a7 a8
          by_cases he1 : y.1 = x ∧ y.2 = KL
          · have Heq : Hid (decide (y.1 = x ∧ y.2 = KL) = true) := decide_eq_true he1
            clear he1
            go_wp2_with (first
              | (rw [← Hwx.out]
                 go_at_call 23; (with_reducible refine (m_boot HMx.out).mono ?_)
                 rintro e w5 ⟨rfl, hm5⟩
                 have HM5 := Lib.hid hm5
                 clear hm5)
              | (go_at_call 16; (with_reducible refine (Hcall.out w5 HM5.out).mono ?_)
                 rintro e w6 ⟨sb6, lb6, ⟨T1, t1, u1, T2, t2, u2, T3, t3', u3⟩, A6, n6, c6, rfl, hS6, ho6, hn6, hl6, hb6, hlb6, hsb6⟩
                 have hm6 := (HM5.out.below hb6).again hS6 (Nat.le_trans HM5.out.bel.size hlb6) (Nat.le_trans HM5.out.bel.size hsb6)
                 obtain ⟨w7, hw7⟩ : ∃ W, W = w6.alloc (.cells #[.slice T1 t1 u1, .slice T2 t2 u2, .slice T3 t3' u3] 25) := ⟨_, rfl⟩
                 have hb7 : Below w6.heap.size w6 w7 := by rw [hw7]; exact al_ _ _
                 have hbx7 : w7.heap[w6.heap.size]? = some (.cells #[.slice T1 t1 u1, .slice T2 t2 u2, .slice T3 t3' u3] 25) := by rw [hw7]; exact heap_alloc_new _ _
                 have hm7 := hm6.below hb7
                 obtain ⟨y0, y1, y2⟩ := bx_cells hbx7 (Below.refl _ _)
                 obtain ⟨x0, x1, x2⟩ := bx_cells hm7.xat (Below.refl _ _)
                 obtain ⟨z0, z1, z2⟩ := bx_cells hm7.oat (Below.refl _ _)
                 have HV6 : Hid (StE w w7 ⟨T1, t1, u1, T2, t2, u2, T3, t3', u3⟩ y.1) := .inl ((ho6.base HM5.out.bel.size).below hb7)
                 have HN6 : Hid (NtE w7 w.heap.size A6 n6 y.2) := NtE.of_own (own_below (own_base hn6 HM5.out.bel.size) hb7) hl6
                 have Hn6 : Hid (n6 ≤ 32) := by show n6 ≤ 32; rw [← hl6]; exact Ha.out.2.2.2.2.2
                 rw [hw7] at y0 y1 y2 x0 x1 x2 z0 z1 z2
                 have HM7 := Lib.hid hm7
                 have Hbx7 := Lib.hid hbx7
                 have Hw7 := Lib.hid hw7
                 clear hS6 ho6 hn6 hl6 hb6 hlb6 hsb6 hm6 hb7 hbx7 hm7 hw7)
              | (rw [← Hw7.out]
                 go_at_call 14; (with_reducible refine (same22_any ⟨T1, t1, u1, T2, t2, u2, T3, t3', u3⟩ ⟨V1, v1, k1, V2, v2, k2, V3, v3, k3⟩ y.1 x A6 Ak n6 nk c6 ck y.2 KL w7 (HV6.out.toR HM7.out.bel.size) (HM7.out.vx.toR HM7.out.bel.size) HN6.out.rd HM7.out.kx.rd (by have := Hn6.out; unfold maxLen; omega) (by unfold maxLen; omega)).mono ?_)
                 rintro e w8 ⟨he, hb8⟩
                 rw [Heq.out] at he
                 subst he
                 have hm8 := HM7.out.below hb8
                 have hbx8 := (hb8.block _ (Array.getElem?_eq_some_iff.1 Hbx7.out).1).trans Hbx7.out
                 clear y0 y1 y2 x0 x1 x2 z0 z1 z2
                 obtain ⟨y0, y1, y2⟩ := bx_cells hbx8 (Below.refl _ _)
                 obtain ⟨x0, x1, x2⟩ := bx_cells hm8.xat (Below.refl _ _)
                 obtain ⟨z0, z1, z2⟩ := bx_cells hm8.oat (Below.refl _ _)
                 have f0 := frozen_of_row _ xb 0 _ _ hm8.xat
                 have f1 := frozen_of_row _ xb 1 _ _ hm8.xat
                 have f2 := frozen_of_row _ xb 2 _ _ hm8.xat
                 have HV8 : Hid (StE w w8 ⟨T1, t1, u1, T2, t2, u2, T3, t3', u3⟩ y.1) := HV6.out.below hb8 HM7.out.bel.size
                 have HN8 : Hid (NtE w8 w.heap.size A6 n6 y.2) := HN6.out.below hb8
                 have HM8 := Lib.hid hm8
                 have Hbx8 := Lib.hid hbx8
                 clear hb8 hbx8 hm8))
            have HM9 : Hid (MI w (put3 w8 xb ⟨T1, t1, u1, T2, t2, u2, T3, t3', u3⟩) p q lb6 sb6 w5.heap.size (16 * (j + 1)) xb ob s.again ⟨T1, t1, u1, T2, t2, u2, T3, t3', u3⟩ y.1 ⟨O1, o1, i1, O2, o2, i2, O3, o3, i3⟩ ov A6 n6 y.2 Ao no O) :=
              (HM8.out.setK HN8.out).setX HV8.out
            go_roundg (gk - 1)
            case measure => omega
            case rel => exact ⟨j + 1, w5.heap.size, sb6, lb6, n6, c6, no, co, s.again, y, false, ⟨T1, t1, u1, T2, t2, u2, T3, t3', u3⟩, ⟨O1, o1, i1, O2, o2, i2, O3, o3, i3⟩, y.1, ov, A6, Ao, y.2, O, by omega, rfl, rfl, rfl, rfl, by go_num, Ha.out.2.2.2.2.1.more (by omega), HL.out, ⟨fun _ => ⟨rfl, rfl⟩, fun _ => .inl rfl⟩, ⟨Hn6.out, hno⟩, HM9.out⟩
          · have Heq : Hid (decide (y.1 = x ∧ y.2 = KL) = false) := decide_eq_false he1
            have hmo : mb = true ∧ y = (ov, O) := by
              cases hd : s.r.d.down with
              | false => exact absurd (by rw [(Hst.out.up hd).2]; exact ⟨rfl, rfl⟩) he1
              | true =>
                rcases Hst.out.dn hd with h | h
                · exact absurd (by rw [h]; exact ⟨rfl, rfl⟩) he1
                · exact h
            have Heq2 : Hid (decide (y.1 = ov ∧ y.2 = O) = true) := decide_eq_true (by rw [hmo.2]; exact ⟨rfl, rfl⟩)
            obtain ⟨rfl, hmo2⟩ := hmo
            clear he1 hmo2
            go_wp2_with (first
              | (rw [← Hwx.out]
                 go_at_call 23; (with_reducible refine (m_boot HMx.out).mono ?_)
                 rintro e w5 ⟨rfl, hm5⟩
                 have HM5 := Lib.hid hm5
                 clear hm5)
              | (go_at_call 16; (with_reducible refine (Hcall.out w5 HM5.out).mono ?_)
                 rintro e w6 ⟨sb6, lb6, ⟨T1, t1, u1, T2, t2, u2, T3, t3', u3⟩, A6, n6, c6, rfl, hS6, ho6, hn6, hl6, hb6, hlb6, hsb6⟩
                 have hm6 := (HM5.out.below hb6).again hS6 (Nat.le_trans HM5.out.bel.size hlb6) (Nat.le_trans HM5.out.bel.size hsb6)
                 obtain ⟨w7, hw7⟩ : ∃ W, W = w6.alloc (.cells #[.slice T1 t1 u1, .slice T2 t2 u2, .slice T3 t3' u3] 25) := ⟨_, rfl⟩
                 have hb7 : Below w6.heap.size w6 w7 := by rw [hw7]; exact al_ _ _
                 have hbx7 : w7.heap[w6.heap.size]? = some (.cells #[.slice T1 t1 u1, .slice T2 t2 u2, .slice T3 t3' u3] 25) := by rw [hw7]; exact heap_alloc_new _ _
                 have hm7 := hm6.below hb7
                 obtain ⟨y0, y1, y2⟩ := bx_cells hbx7 (Below.refl _ _)
                 obtain ⟨x0, x1, x2⟩ := bx_cells hm7.xat (Below.refl _ _)
                 obtain ⟨z0, z1, z2⟩ := bx_cells hm7.oat (Below.refl _ _)
                 have HV6 : Hid (StE w w7 ⟨T1, t1, u1, T2, t2, u2, T3, t3', u3⟩ y.1) := .inl ((ho6.base HM5.out.bel.size).below hb7)
                 have HN6 : Hid (NtE w7 w.heap.size A6 n6 y.2) := NtE.of_own (own_below (own_base hn6 HM5.out.bel.size) hb7) hl6
                 have Hn6 : Hid (n6 ≤ 32) := by show n6 ≤ 32; rw [← hl6]; exact Ha.out.2.2.2.2.2
                 rw [hw7] at y0 y1 y2 x0 x1 x2 z0 z1 z2
                 have HM7 := Lib.hid hm7
                 have Hbx7 := Lib.hid hbx7
                 have Hw7 := Lib.hid hw7
                 clear hS6 ho6 hn6 hl6 hb6 hlb6 hsb6 hm6 hb7 hbx7 hm7 hw7)
              | (rw [← Hw7.out]
                 go_at_call 14; (with_reducible refine (same22_any ⟨T1, t1, u1, T2, t2, u2, T3, t3', u3⟩ ⟨V1, v1, k1, V2, v2, k2, V3, v3, k3⟩ y.1 x A6 Ak n6 nk c6 ck y.2 KL w7 (HV6.out.toR HM7.out.bel.size) (HM7.out.vx.toR HM7.out.bel.size) HN6.out.rd HM7.out.kx.rd (by have := Hn6.out; unfold maxLen; omega) (by unfold maxLen; omega)).mono ?_)
                 rintro e w8 ⟨he, hb8⟩
                 rw [Heq.out] at he
                 subst he
                 have hm8 := HM7.out.below hb8
                 have hbx8 := (hb8.block _ (Array.getElem?_eq_some_iff.1 Hbx7.out).1).trans Hbx7.out
                 clear y0 y1 y2 x0 x1 x2 z0 z1 z2
                 obtain ⟨y0, y1, y2⟩ := bx_cells hbx8 (Below.refl _ _)
                 obtain ⟨x0, x1, x2⟩ := bx_cells hm8.xat (Below.refl _ _)
                 obtain ⟨z0, z1, z2⟩ := bx_cells hm8.oat (Below.refl _ _)
                 have f0 := frozen_of_row _ xb 0 _ _ hm8.xat
                 have f1 := frozen_of_row _ xb 1 _ _ hm8.xat
                 have f2 := frozen_of_row _ xb 2 _ _ hm8.xat
                 have HV8 : Hid (StE w w8 ⟨T1, t1, u1, T2, t2, u2, T3, t3', u3⟩ y.1) := HV6.out.below hb8 HM7.out.bel.size
                 have HN8 : Hid (NtE w8 w.heap.size A6 n6 y.2) := HN6.out.below hb8
                 have HM8 := Lib.hid hm8
                 have Hbx8 := Lib.hid hbx8
                 clear hb8 hbx8 hm8)
              | (go_at_call 14; (with_reducible refine (same22_any ⟨T1, t1, u1, T2, t2, u2, T3, t3', u3⟩ ⟨O1, o1, i1, O2, o2, i2, O3, o3, i3⟩ y.1 ov A6 Ao n6 no c6 co y.2 O w8 (HV8.out.toR HM8.out.bel.size) (HM8.out.vo.toR HM8.out.bel.size) HN8.out.rd HM8.out.ko.rd (by have := Hn6.out; unfold maxLen; omega) (by unfold maxLen; omega)).mono ?_)
                 rintro e w9 ⟨he, hb9⟩
                 rw [Heq2.out] at he
                 subst he
                 have hm9 := HM8.out.below hb9
                 have hbx9 := (hb9.block _ (Array.getElem?_eq_some_iff.1 Hbx8.out).1).trans Hbx8.out
                 clear y0 y1 y2 x0 x1 x2 z0 z1 z2 f0 f1 f2
                 obtain ⟨y0, y1, y2⟩ := bx_cells hbx9 (Below.refl _ _)
                 obtain ⟨x0, x1, x2⟩ := bx_cells hm9.xat (Below.refl _ _)
                 have f0 := frozen_of_row _ xb 0 _ _ hm9.xat
                 have f1 := frozen_of_row _ xb 1 _ _ hm9.xat
                 have f2 := frozen_of_row _ xb 2 _ _ hm9.xat
                 have HM9 : Hid (MI w (put3 w9 xb ⟨T1, t1, u1, T2, t2, u2, T3, t3', u3⟩) p q lb6 sb6 w5.heap.size (16 * (j + 1)) xb ob s.again ⟨T1, t1, u1, T2, t2, u2, T3, t3', u3⟩ y.1 ⟨O1, o1, i1, O2, o2, i2, O3, o3, i3⟩ ov A6 n6 y.2 Ao no O) :=
                   (hm9.setK (HN8.out.below hb9)).setX (HV8.out.below hb9 HM8.out.bel.size)
                 clear hb9 hbx9 hm9))
            go_roundg (gk - 1)
            case measure => omega
            case rel => exact ⟨j + 1, w5.heap.size, sb6, lb6, n6, c6, no, co, s.again, y, false, ⟨T1, t1, u1, T2, t2, u2, T3, t3', u3⟩, ⟨O1, o1, i1, O2, o2, i2, O3, o3, i3⟩, y.1, ov, A6, Ao, y.2, O, by omega, rfl, rfl, rfl, rfl, by go_num, Ha.out.2.2.2.2.1.more (by omega), HL.out, ⟨fun _ => ⟨rfl, rfl⟩, fun _ => .inl rfl⟩, ⟨Hn6.out, hno⟩, HM9.out⟩
        · have t4 : (r.what == 4) = false := beq_eq_false_iff_ne.2 h4
          obtain ⟨dn, hdn⟩ : ∃ dn, s.r.d.down = dn := ⟨_, rfl⟩
          obtain ⟨en, s', hput⟩ : ∃ en s', s.put 1 2 r.x r.l = (en, s') := ⟨_, _, rfl⟩
          have hlu := Hlu'.out
          rw [if_neg h3, if_neg h4, hput] at hlu
          dsimp only at hlu
          have hluck : ¬ (s'.r.d.down = true ∧ s.r.d.down = false ∧ opens s'.r.mixed = true) := fun h => by
            rw [if_pos h] at hlu
            cases hlu
          rw [if_neg hluck] at hlu
          have HL := Lib.hid hlu
          have hout := outcome Hci.out Hst.out (by omega) hput hluck
          have Hcall : Hid (Calls Try.prog 17 #[.pointer (some ⟨sb, 0, none⟩), .agg #[.slice r.v.A1 r.v.n1 r.v.c1, .slice r.v.A2 r.v.n2 r.v.c2, .slice r.v.A3 r.v.n3 r.v.c3], .slice r.A r.len r.cap] wx fun ed w' =>
              ∃ b', ed = .returned (.int .i64 en) ∧ StM w.heap.size w' p q lb sb b' (16 * j + 16) 1 2 s'.ps ∧ Chg (YT w.heap.size wx p q lb sb) wx w') := by
            show Calls _ _ _ _ _
            have hps := CS.put_ps (s := s) (c := 1) (e := 2) (x := r.x) (l := r.l)
            rw [hput] at hps
            have hc := put_x w.heap.size sb lb p q base (16 * j) 1 2 s.ps r.v r.x r.A r.len r.cap w.heap.size r.l wx HMx.out.sto (Hok.out.x.below HMx.out.bel) (Hok.out.l.below HMx.out.bel) HMx.out.bel.size ⟨Nat.le_refl _, HMx.out.lo.2.1.1⟩ (by unfold maxLen; omega) (by omega) (by have := Hci.out.tu; show s.turn < 65535; omega)
            unfold PutX at hc
            rw [← hps.1, ← hps.2] at hc
            refine Calls.mono hc ?_
            rintro ed w' ⟨b', g1, g2, g3, _⟩
            exact ⟨b', g1, g2, g3⟩
          rw [hdn] at hout
          have Hdn := Lib.hid hdn
          obtain ⟨m, hm⟩ : ∃ m, m = nk + r.len := ⟨_, rfl⟩
          have hmI : (m : Int) ≤ 1000 := by omega
          have Hm := Lib.hid hm
          have HKl : Hid (KL.length = nk ∧ r.l.length = r.len) := ⟨HMI.out.kx.rd.1, Hok.out.l.1⟩
          obtain ⟨i3', hi3, hz3, hs3, hb3⟩ := info_parts info_nt
          clear h3 h4 hput hlu hluck hdn hm
          have tests : (en = 0 ∧ dn = false ∧ ((en : Int) == 0) = true) ∨ (((en : Int) == 0) = false ∧ ((en : Int) == 101) = false) ∨ (((en : Int) == 0) = false ∧ ((en : Int) == 101) = true ∧ dn = true) ∨ (((en : Int) == 0) = false ∧ ((en : Int) == 101) = true ∧ dn = false) := by
            simp only [beq_iff_eq, beq_eq_false_iff_ne]
            rcases hout with h | h | h
            · exact .inl ⟨h.1, h.2.1, by omega⟩
            · by_cases h5 : en = 101
              · exact .inr (.inr (.inl ⟨by omega, by omega, by rcases h.2.1 with h6 | h6; exact absurd h5 h6; exact h6⟩))
              · exact .inr (.inl ⟨by omega, by omega⟩)
            · exact .inr (.inr (.inr ⟨by omega, by omega, h.2.1⟩))
          have Hout := Lib.hid hout
          clear hout
          rcases tests with ⟨e0, rfl, e1⟩ | ⟨e1, e2⟩ | ⟨e1, e2, rfl⟩ | ⟨e1, e2, rfl⟩
          · go_wp2_with (first
              | (rw [← Hwx.out]
                 go_at_call 24; (with_reducible refine (m_down HMx.out).mono ?_)
                 rintro e w5 ⟨he, hw5⟩
                 obtain rfl := hw5.symm
                 rw [Hdn.out] at he
                 subst he)
              | (go_at_call 17; (with_reducible refine Hcall.out.mono ?_)
                 rintro e w6 ⟨b6, rfl, hs6, hc6⟩
                 have hbx6 := (hc6.at_ (Array.getElem?_eq_some_iff.1 Hxx.out).1 (yt_not HMx.out.sto Hxx.out (by unfold Un5; decide))).trans Hxx.out
                 have HM6 : Hid (MI w w6 p q lb sb b6 (16 * j + 16) xb ob s' ⟨V1, v1, k1, V2, v2, k2, V3, v3, k3⟩ x ⟨O1, o1, i1, O2, o2, i2, O3, o3, i3⟩ ov Ak nk KL Ao no O) := HMx.out.step hs6 hc6
                 clear d0 d1 d2 d3 d4 d5 d6
                 have d3 := cell_of_row _ wr.heap.size 3 _ _ _ hbx6
                 have d4 := cell_of_row _ wr.heap.size 4 _ _ _ hbx6
                 have d5 := cell_of_row _ wr.heap.size 5 _ _ _ hbx6
                 have d6 := cell_of_row _ wr.heap.size 6 _ _ _ hbx6
                 simp at d3 d4 d5 d6
                 have Hbx6 := Lib.hid hbx6
                 clear hs6 hc6 hbx6))
            refine sk (fun w' => w'.cell? ⟨wr.heap.size, 6, none⟩ = some (.slice r.A r.len r.cap)) 7 ?_ (fun hHeld => ?_)
            · (first | exact d6 | exact HSq.out | exact HS7.out | exact HS8.out)
            refine tk 1 127 hHeld ?_
            refine tk 3 129 hHeld ?_
            refine tk 4 130 hHeld ?_
            refine bk 0 126 (fun K hK => ?_)
            go_simp
            obtain ⟨wq, hwq⟩ : ∃ W, W = (w6.alloc (.cells #[] 54)).drew := ⟨_, rfl⟩
            have hbq : Below w6.heap.size w6 wq := by rw [hwq]; exact ((Below.refl _ _).alloc (Nat.le_refl _) _).drew
            have hoq : wq.ownsRow w6.heap.size 54 3 (.slice (some ⟨w6.heap.size, 0, none⟩) 0 0) 0 [] := by
              rw [hwq]; exact own_below (World.ownsRow_made w6 #[] 0 (Nat.le_refl _) (by unfold maxLen; omega) rfl) (Below.refl _ _).drew
            have hbxq := (hbq.block _ (Array.getElem?_eq_some_iff.1 Hbx6.out).1).trans Hbx6.out
            have hsq := cell_of_row _ wr.heap.size 6 _ _ _ hbxq
            simp at hsq
            have HSq : Hid (wq.cell? ⟨wr.heap.size, 6, none⟩ = some (.slice r.A r.len r.cap)) := hsq
            rw [← hwq]
            have HBq := Lib.hid hbq
            have HOq := Lib.hid hoq
            clear hwq hbq hoq hbxq hsq
            refine hK.out _ _ ?_ (fun hHeld' => ?_)
            · (first | exact d6 | exact HSq.out | exact HS7.out | exact HS8.out)
            clear hK K hHeld
            have hHeld := hHeld'
            clear hHeld'
            simp only [List.set_cons_zero, List.set_cons_succ]
            refine bk 2 128 (fun K hK => ?_)
            refine wp_app _ (.tmp 126) (.tmp 127) 26 rfl w6.heap.size 54 i3' (.agg #[.int .i64 0, .int .i64 0, .int .i64 0]) 3 24 Try.underlying26 hi3 hz3 hs3 hb3 rfl (by omega) (.slice (some ⟨w6.heap.size, 0, none⟩) 0 0) 0 [] rfl HOq.out _ Ak nk ck (KL.flatMap Nt.cells) rfl (rds_rd (HM6.out.below HBq.out).kx.rd) (cells_one KL) (by unfold maxLen; omega) (by omega) HBq.out.size ?_
            intro v7 w7 hown7 hg7 hat7
            rw [Nat.zero_add, List.nil_append] at hown7
            obtain ⟨A7, c7, rfl⟩ := own_shape hown7
            have hb7 : Below w6.heap.size w6 w7 := HBq.out.grown hg7 HBq.out.size (fun q hq => by simp [Value.ownBlock] at hq; omega)
            have hbx7 := (hb7.block _ (Array.getElem?_eq_some_iff.1 Hbx6.out).1).trans Hbx6.out
            have hs7 := cell_of_row _ wr.heap.size 6 _ _ _ hbx7
            simp at hs7
            have HS7 : Hid (w7.cell? ⟨wr.heap.size, 6, none⟩ = some (.slice r.A r.len r.cap)) := hs7
            have HB7 := Lib.hid hb7
            have HO7 := Lib.hid hown7
            clear hown7 hg7 hat7 hb7 hbx7 hs7
            refine hK.out _ _ ?_ (fun hHeld' => ?_)
            · (first | exact d6 | exact HSq.out | exact HS7.out | exact HS8.out)
            clear hK K hHeld
            have hHeld := hHeld'
            clear hHeld'
            simp only [List.set_cons_zero, List.set_cons_succ]
            refine bk 5 131 (fun K hK => ?_)
            refine wp_app _ (.tmp 128) (.tmp 130) 26 rfl w6.heap.size 54 i3' (.agg #[.int .i64 0, .int .i64 0, .int .i64 0]) 3 24 Try.underlying26 hi3 hz3 hs3 hb3 rfl (by omega) (.slice A7 nk c7) nk (KL.flatMap Nt.cells) rfl HO7.out w.heap.size r.A r.len r.cap (r.l.flatMap Nt.cells) rfl (rds_rd (Hok.out.l.below (HM6.out.below HB7.out).bel)) (cells_one r.l) (by unfold maxLen; omega) (by omega) HB7.out.size ?_
            intro v8 w8 hown8 hg8 hat8
            rw [← Hm.out, ← List.flatMap_append] at hown8
            obtain ⟨A8, c8, rfl⟩ := own_shape hown8
            have hb8 : Below w6.heap.size w6 w8 := HB7.out.grown hg8 HB7.out.size (fun q hq => (own_blk' HO7.out q hq).1)
            have hbx8 := (hb8.block _ (Array.getElem?_eq_some_iff.1 Hbx6.out).1).trans Hbx6.out
            have hs8 := cell_of_row _ wr.heap.size 6 _ _ _ hbx8
            simp at hs8
            have HS8 : Hid (w8.cell? ⟨wr.heap.size, 6, none⟩ = some (.slice r.A r.len r.cap)) := hs8
            have hlen8 : (KL ++ r.l).length = m := by rw [List.length_append, HKl.out.1, HKl.out.2, Hm.out]
            have hm8 := HM6.out.below hb8
            have HE8 : Hid (NtE w8 w.heap.size A8 m (KL ++ r.l)) := NtE.of_own (own_base hown8 HM6.out.bel.size) hlen8
            have HV8 : Hid (StE w w8 r.v r.x) := .inr (Hok.out.x.below hm8.bel)
            have Hlen8 := Lib.hid hlen8
            have hcap8 := (own_max hown8).1
            have HM8 := Lib.hid hm8
            have Hbx8 := Lib.hid hbx8
            clear hown8 hg8 hat8 hb8 hbx8 hs8 hlen8 hm8
            refine hK.out _ _ ?_ (fun hHeld' => ?_)
            · (first | exact d6 | exact HSq.out | exact HS7.out | exact HS8.out)
            clear hK K hHeld
            have hHeld := hHeld'
            clear hHeld'
            simp only [List.set_cons_zero, List.set_cons_succ]
            refine tk 6 22 hHeld ?_
            refine wpAnyH_done (by kernel_rfl) ?_ _
            refine NoPanic.normal ?_
            have d3' := cell_of_row _ wr.heap.size 3 _ _ _ Hbx8.out
            have d4' := cell_of_row _ wr.heap.size 4 _ _ _ Hbx8.out
            have d5' := cell_of_row _ wr.heap.size 5 _ _ _ Hbx8.out
            simp at d3' d4' d5'
            obtain ⟨x0, x1, x2⟩ := bx_cells HM8.out.xat (Below.refl _ _)
            obtain ⟨z0, z1, z2⟩ := bx_cells HM8.out.oat (Below.refl _ _)
            have f0 := frozen_of_row _ xb 0 _ _ HM8.out.xat
            have f1 := frozen_of_row _ xb 1 _ _ HM8.out.xat
            have f2 := frozen_of_row _ xb 2 _ _ HM8.out.xat
            have h0 := frozen_of_row _ ob 0 _ _ HM8.out.oat
            have h1 := frozen_of_row _ ob 1 _ _ HM8.out.oat
            have h2 := frozen_of_row _ ob 2 _ _ HM8.out.oat
            clear d3 d4 d5 d6 hHeld
            by_cases hs : (m : Int) < 32
            · have HE9 : Hid (NtE w8 w.heap.size A8 m (lastN (KL ++ r.l))) := by rw [lastN_small (by rw [Hlen8.out]; omega)]; exact HE8.out
              go_wp2_with fail
              go_roundg (gk - 1)
              case measure => omega
              case rel =>
                rcases Hout.out with h | h | h
                · exact ⟨j + 1, b6, sb, lb, m, c8, no, co, s', _, mb, r.v, ⟨O1, o1, i1, O2, o2, i2, O3, o3, i3⟩, r.x, ov, A8, Ao, lastN (KL ++ r.l), O, by omega, rfl, rfl, rfl, rfl, by go_num, h.2.2.1, HL.out, h.2.2.2, ⟨by omega, hno⟩, ((HM8.out.setK HE9.out).setX HV8.out).more (by omega)⟩
                · exact absurd e0 h.1
                · exact absurd h.1 (by omega)
            · obtain ⟨d, hd⟩ : ∃ d, d = m - 32 := ⟨_, rfl⟩
              have hd1 : d < m := by omega
              have hd32 : m - d ≤ 32 := by omega
              have hdT : ((m : Int) - 32).toNat = d := by omega
              have hdJ : ¬ (d : Int) < 0 := by omega
              obtain ⟨b9, o9, rfl, he9⟩ := HE8.out.drop hd1
              have HE9 : Hid (NtE w8 w.heap.size (some ⟨b9, o9 + d * 3, none⟩) (m - d) (lastN (KL ++ r.l))) := by
                have e : lastN (KL ++ r.l) = (KL ++ r.l).drop d := by unfold lastN; rw [Hlen8.out, hd]
                rw [e]; exact he9
              clear he9 hd
              go_wp2_with fail
              go_roundg (gk - 1)
              case measure => omega
              case rel =>
                rcases Hout.out with h | h | h
                · exact ⟨j + 1, b6, sb, lb, (m - d), (c8 - d), no, co, s', _, mb, r.v, ⟨O1, o1, i1, O2, o2, i2, O3, o3, i3⟩, r.x, ov, (some ⟨b9, o9 + d * 3, none⟩), Ao, lastN (KL ++ r.l), O, by omega, rfl, rfl, rfl, rfl, by go_num, h.2.2.1, HL.out, h.2.2.2, ⟨by omega, hno⟩, ((HM8.out.setK HE9.out).setX HV8.out).more (by omega)⟩
                · exact absurd e0 h.1
                · exact absurd h.1 (by omega)
          · go_wp2_with (first
              | (rw [← Hwx.out]
                 go_at_call 24; (with_reducible refine (m_down HMx.out).mono ?_)
                 rintro e w5 ⟨he, hw5⟩
                 obtain rfl := hw5.symm
                 rw [Hdn.out] at he
                 subst he)
              | (go_at_call 17; (with_reducible refine Hcall.out.mono ?_)
                 rintro e w6 ⟨b6, rfl, hs6, hc6⟩
                 have hbx6 := (hc6.at_ (Array.getElem?_eq_some_iff.1 Hxx.out).1 (yt_not HMx.out.sto Hxx.out (by unfold Un5; decide))).trans Hxx.out
                 have HM6 : Hid (MI w w6 p q lb sb b6 (16 * j + 16) xb ob s' ⟨V1, v1, k1, V2, v2, k2, V3, v3, k3⟩ x ⟨O1, o1, i1, O2, o2, i2, O3, o3, i3⟩ ov Ak nk KL Ao no O) := HMx.out.step hs6 hc6
                 clear d0 d1 d2 d3 d4 d5 d6
                 have d3 := cell_of_row _ wr.heap.size 3 _ _ _ hbx6
                 have d4 := cell_of_row _ wr.heap.size 4 _ _ _ hbx6
                 have d5 := cell_of_row _ wr.heap.size 5 _ _ _ hbx6
                 have d6 := cell_of_row _ wr.heap.size 6 _ _ _ hbx6
                 simp at d3 d4 d5 d6
                 have Hbx6 := Lib.hid hbx6
                 clear hs6 hc6 hbx6))
            refine sk (fun w' => w'.cell? ⟨wr.heap.size, 6, none⟩ = some (.slice r.A r.len r.cap)) 7 ?_ (fun hHeld => ?_)
            · (first | exact d6 | exact HSq.out | exact HS7.out | exact HS8.out)
            refine tk 1 127 hHeld ?_
            refine tk 3 129 hHeld ?_
            refine tk 4 130 hHeld ?_
            refine bk 0 126 (fun K hK => ?_)
            go_simp
            obtain ⟨wq, hwq⟩ : ∃ W, W = (w6.alloc (.cells #[] 54)).drew := ⟨_, rfl⟩
            have hbq : Below w6.heap.size w6 wq := by rw [hwq]; exact ((Below.refl _ _).alloc (Nat.le_refl _) _).drew
            have hoq : wq.ownsRow w6.heap.size 54 3 (.slice (some ⟨w6.heap.size, 0, none⟩) 0 0) 0 [] := by
              rw [hwq]; exact own_below (World.ownsRow_made w6 #[] 0 (Nat.le_refl _) (by unfold maxLen; omega) rfl) (Below.refl _ _).drew
            have hbxq := (hbq.block _ (Array.getElem?_eq_some_iff.1 Hbx6.out).1).trans Hbx6.out
            have hsq := cell_of_row _ wr.heap.size 6 _ _ _ hbxq
            simp at hsq
            have HSq : Hid (wq.cell? ⟨wr.heap.size, 6, none⟩ = some (.slice r.A r.len r.cap)) := hsq
            rw [← hwq]
            have HBq := Lib.hid hbq
            have HOq := Lib.hid hoq
            clear hwq hbq hoq hbxq hsq
            refine hK.out _ _ ?_ (fun hHeld' => ?_)
            · (first | exact d6 | exact HSq.out | exact HS7.out | exact HS8.out)
            clear hK K hHeld
            have hHeld := hHeld'
            clear hHeld'
            simp only [List.set_cons_zero, List.set_cons_succ]
            refine bk 2 128 (fun K hK => ?_)
            refine wp_app _ (.tmp 126) (.tmp 127) 26 rfl w6.heap.size 54 i3' (.agg #[.int .i64 0, .int .i64 0, .int .i64 0]) 3 24 Try.underlying26 hi3 hz3 hs3 hb3 rfl (by omega) (.slice (some ⟨w6.heap.size, 0, none⟩) 0 0) 0 [] rfl HOq.out _ Ak nk ck (KL.flatMap Nt.cells) rfl (rds_rd (HM6.out.below HBq.out).kx.rd) (cells_one KL) (by unfold maxLen; omega) (by omega) HBq.out.size ?_
            intro v7 w7 hown7 hg7 hat7
            rw [Nat.zero_add, List.nil_append] at hown7
            obtain ⟨A7, c7, rfl⟩ := own_shape hown7
            have hb7 : Below w6.heap.size w6 w7 := HBq.out.grown hg7 HBq.out.size (fun q hq => by simp [Value.ownBlock] at hq; omega)
            have hbx7 := (hb7.block _ (Array.getElem?_eq_some_iff.1 Hbx6.out).1).trans Hbx6.out
            have hs7 := cell_of_row _ wr.heap.size 6 _ _ _ hbx7
            simp at hs7
            have HS7 : Hid (w7.cell? ⟨wr.heap.size, 6, none⟩ = some (.slice r.A r.len r.cap)) := hs7
            have HB7 := Lib.hid hb7
            have HO7 := Lib.hid hown7
            clear hown7 hg7 hat7 hb7 hbx7 hs7
            refine hK.out _ _ ?_ (fun hHeld' => ?_)
            · (first | exact d6 | exact HSq.out | exact HS7.out | exact HS8.out)
            clear hK K hHeld
            have hHeld := hHeld'
            clear hHeld'
            simp only [List.set_cons_zero, List.set_cons_succ]
            refine bk 5 131 (fun K hK => ?_)
            refine wp_app _ (.tmp 128) (.tmp 130) 26 rfl w6.heap.size 54 i3' (.agg #[.int .i64 0, .int .i64 0, .int .i64 0]) 3 24 Try.underlying26 hi3 hz3 hs3 hb3 rfl (by omega) (.slice A7 nk c7) nk (KL.flatMap Nt.cells) rfl HO7.out w.heap.size r.A r.len r.cap (r.l.flatMap Nt.cells) rfl (rds_rd (Hok.out.l.below (HM6.out.below HB7.out).bel)) (cells_one r.l) (by unfold maxLen; omega) (by omega) HB7.out.size ?_
            intro v8 w8 hown8 hg8 hat8
            rw [← Hm.out, ← List.flatMap_append] at hown8
            obtain ⟨A8, c8, rfl⟩ := own_shape hown8
            have hb8 : Below w6.heap.size w6 w8 := HB7.out.grown hg8 HB7.out.size (fun q hq => (own_blk' HO7.out q hq).1)
            have hbx8 := (hb8.block _ (Array.getElem?_eq_some_iff.1 Hbx6.out).1).trans Hbx6.out
            have hs8 := cell_of_row _ wr.heap.size 6 _ _ _ hbx8
            simp at hs8
            have HS8 : Hid (w8.cell? ⟨wr.heap.size, 6, none⟩ = some (.slice r.A r.len r.cap)) := hs8
            have hlen8 : (KL ++ r.l).length = m := by rw [List.length_append, HKl.out.1, HKl.out.2, Hm.out]
            have hm8 := HM6.out.below hb8
            have HE8 : Hid (NtE w8 w.heap.size A8 m (KL ++ r.l)) := NtE.of_own (own_base hown8 HM6.out.bel.size) hlen8
            have HV8 : Hid (StE w w8 r.v r.x) := .inr (Hok.out.x.below hm8.bel)
            have Hlen8 := Lib.hid hlen8
            have hcap8 := (own_max hown8).1
            have HM8 := Lib.hid hm8
            have Hbx8 := Lib.hid hbx8
            clear hown8 hg8 hat8 hb8 hbx8 hs8 hlen8 hm8
            refine hK.out _ _ ?_ (fun hHeld' => ?_)
            · (first | exact d6 | exact HSq.out | exact HS7.out | exact HS8.out)
            clear hK K hHeld
            have hHeld := hHeld'
            clear hHeld'
            simp only [List.set_cons_zero, List.set_cons_succ]
            refine tk 6 22 hHeld ?_
            refine wpAnyH_done (by kernel_rfl) ?_ _
            refine NoPanic.normal ?_
            have d3' := cell_of_row _ wr.heap.size 3 _ _ _ Hbx8.out
            have d4' := cell_of_row _ wr.heap.size 4 _ _ _ Hbx8.out
            have d5' := cell_of_row _ wr.heap.size 5 _ _ _ Hbx8.out
            simp at d3' d4' d5'
            obtain ⟨x0, x1, x2⟩ := bx_cells HM8.out.xat (Below.refl _ _)
            obtain ⟨z0, z1, z2⟩ := bx_cells HM8.out.oat (Below.refl _ _)
            have f0 := frozen_of_row _ xb 0 _ _ HM8.out.xat
            have f1 := frozen_of_row _ xb 1 _ _ HM8.out.xat
            have f2 := frozen_of_row _ xb 2 _ _ HM8.out.xat
            have h0 := frozen_of_row _ ob 0 _ _ HM8.out.oat
            have h1 := frozen_of_row _ ob 1 _ _ HM8.out.oat
            have h2 := frozen_of_row _ ob 2 _ _ HM8.out.oat
            clear d3 d4 d5 d6 hHeld
            by_cases hs : (m : Int) < 32
            · have HE9 : Hid (NtE w8 w.heap.size A8 m (lastN (KL ++ r.l))) := by rw [lastN_small (by rw [Hlen8.out]; omega)]; exact HE8.out
              go_wp2_with fail
              go_roundg (gk - 1)
              case measure => omega
              case rel =>
                rcases Hout.out with h | h | h
                · exact absurd e1 (by rw [h.1]; simp)
                · exact ⟨j + 1, b6, sb, lb, nk, ck, no, co, s', y, mb, ⟨V1, v1, k1, V2, v2, k2, V3, v3, k3⟩, ⟨O1, o1, i1, O2, o2, i2, O3, o3, i3⟩, x, ov, Ak, Ao, KL, O, by omega, rfl, rfl, rfl, rfl, by go_num, h.2.2.1, HL.out, h.2.2.2, ⟨hnk, hno⟩, HM8.out.more (by omega)⟩
                · exact absurd e2 (by rw [h.1]; simp)
            · obtain ⟨d, hd⟩ : ∃ d, d = m - 32 := ⟨_, rfl⟩
              have hd1 : d < m := by omega
              have hd32 : m - d ≤ 32 := by omega
              have hdT : ((m : Int) - 32).toNat = d := by omega
              have hdJ : ¬ (d : Int) < 0 := by omega
              obtain ⟨b9, o9, rfl, he9⟩ := HE8.out.drop hd1
              have HE9 : Hid (NtE w8 w.heap.size (some ⟨b9, o9 + d * 3, none⟩) (m - d) (lastN (KL ++ r.l))) := by
                have e : lastN (KL ++ r.l) = (KL ++ r.l).drop d := by unfold lastN; rw [Hlen8.out, hd]
                rw [e]; exact he9
              clear he9 hd
              go_wp2_with fail
              go_roundg (gk - 1)
              case measure => omega
              case rel =>
                rcases Hout.out with h | h | h
                · exact absurd e1 (by rw [h.1]; simp)
                · exact ⟨j + 1, b6, sb, lb, nk, ck, no, co, s', y, mb, ⟨V1, v1, k1, V2, v2, k2, V3, v3, k3⟩, ⟨O1, o1, i1, O2, o2, i2, O3, o3, i3⟩, x, ov, Ak, Ao, KL, O, by omega, rfl, rfl, rfl, rfl, by go_num, h.2.2.1, HL.out, h.2.2.2, ⟨hnk, hno⟩, HM8.out.more (by omega)⟩
                · exact absurd e2 (by rw [h.1]; simp)
          · go_wp2_with (first
              | (rw [← Hwx.out]
                 go_at_call 24; (with_reducible refine (m_down HMx.out).mono ?_)
                 rintro e w5 ⟨he, hw5⟩
                 obtain rfl := hw5.symm
                 rw [Hdn.out] at he
                 subst he)
              | (go_at_call 17; (with_reducible refine Hcall.out.mono ?_)
                 rintro e w6 ⟨b6, rfl, hs6, hc6⟩
                 have hbx6 := (hc6.at_ (Array.getElem?_eq_some_iff.1 Hxx.out).1 (yt_not HMx.out.sto Hxx.out (by unfold Un5; decide))).trans Hxx.out
                 have HM6 : Hid (MI w w6 p q lb sb b6 (16 * j + 16) xb ob s' ⟨V1, v1, k1, V2, v2, k2, V3, v3, k3⟩ x ⟨O1, o1, i1, O2, o2, i2, O3, o3, i3⟩ ov Ak nk KL Ao no O) := HMx.out.step hs6 hc6
                 clear d0 d1 d2 d3 d4 d5 d6
                 have d3 := cell_of_row _ wr.heap.size 3 _ _ _ hbx6
                 have d4 := cell_of_row _ wr.heap.size 4 _ _ _ hbx6
                 have d5 := cell_of_row _ wr.heap.size 5 _ _ _ hbx6
                 have d6 := cell_of_row _ wr.heap.size 6 _ _ _ hbx6
                 simp at d3 d4 d5 d6
                 have Hbx6 := Lib.hid hbx6
                 clear hs6 hc6 hbx6))
            refine sk (fun w' => w'.cell? ⟨wr.heap.size, 6, none⟩ = some (.slice r.A r.len r.cap)) 7 ?_ (fun hHeld => ?_)
            · (first | exact d6 | exact HSq.out | exact HS7.out | exact HS8.out)
            refine tk 1 127 hHeld ?_
            refine tk 3 129 hHeld ?_
            refine tk 4 130 hHeld ?_
            refine bk 0 126 (fun K hK => ?_)
            go_simp
            obtain ⟨wq, hwq⟩ : ∃ W, W = (w6.alloc (.cells #[] 54)).drew := ⟨_, rfl⟩
            have hbq : Below w6.heap.size w6 wq := by rw [hwq]; exact ((Below.refl _ _).alloc (Nat.le_refl _) _).drew
            have hoq : wq.ownsRow w6.heap.size 54 3 (.slice (some ⟨w6.heap.size, 0, none⟩) 0 0) 0 [] := by
              rw [hwq]; exact own_below (World.ownsRow_made w6 #[] 0 (Nat.le_refl _) (by unfold maxLen; omega) rfl) (Below.refl _ _).drew
            have hbxq := (hbq.block _ (Array.getElem?_eq_some_iff.1 Hbx6.out).1).trans Hbx6.out
            have hsq := cell_of_row _ wr.heap.size 6 _ _ _ hbxq
            simp at hsq
            have HSq : Hid (wq.cell? ⟨wr.heap.size, 6, none⟩ = some (.slice r.A r.len r.cap)) := hsq
            rw [← hwq]
            have HBq := Lib.hid hbq
            have HOq := Lib.hid hoq
            clear hwq hbq hoq hbxq hsq
            refine hK.out _ _ ?_ (fun hHeld' => ?_)
            · (first | exact d6 | exact HSq.out | exact HS7.out | exact HS8.out)
            clear hK K hHeld
            have hHeld := hHeld'
            clear hHeld'
            simp only [List.set_cons_zero, List.set_cons_succ]
            refine bk 2 128 (fun K hK => ?_)
            refine wp_app _ (.tmp 126) (.tmp 127) 26 rfl w6.heap.size 54 i3' (.agg #[.int .i64 0, .int .i64 0, .int .i64 0]) 3 24 Try.underlying26 hi3 hz3 hs3 hb3 rfl (by omega) (.slice (some ⟨w6.heap.size, 0, none⟩) 0 0) 0 [] rfl HOq.out _ Ak nk ck (KL.flatMap Nt.cells) rfl (rds_rd (HM6.out.below HBq.out).kx.rd) (cells_one KL) (by unfold maxLen; omega) (by omega) HBq.out.size ?_
            intro v7 w7 hown7 hg7 hat7
            rw [Nat.zero_add, List.nil_append] at hown7
            obtain ⟨A7, c7, rfl⟩ := own_shape hown7
            have hb7 : Below w6.heap.size w6 w7 := HBq.out.grown hg7 HBq.out.size (fun q hq => by simp [Value.ownBlock] at hq; omega)
            have hbx7 := (hb7.block _ (Array.getElem?_eq_some_iff.1 Hbx6.out).1).trans Hbx6.out
            have hs7 := cell_of_row _ wr.heap.size 6 _ _ _ hbx7
            simp at hs7
            have HS7 : Hid (w7.cell? ⟨wr.heap.size, 6, none⟩ = some (.slice r.A r.len r.cap)) := hs7
            have HB7 := Lib.hid hb7
            have HO7 := Lib.hid hown7
            clear hown7 hg7 hat7 hb7 hbx7 hs7
            refine hK.out _ _ ?_ (fun hHeld' => ?_)
            · (first | exact d6 | exact HSq.out | exact HS7.out | exact HS8.out)
            clear hK K hHeld
            have hHeld := hHeld'
            clear hHeld'
            simp only [List.set_cons_zero, List.set_cons_succ]
            refine bk 5 131 (fun K hK => ?_)
            refine wp_app _ (.tmp 128) (.tmp 130) 26 rfl w6.heap.size 54 i3' (.agg #[.int .i64 0, .int .i64 0, .int .i64 0]) 3 24 Try.underlying26 hi3 hz3 hs3 hb3 rfl (by omega) (.slice A7 nk c7) nk (KL.flatMap Nt.cells) rfl HO7.out w.heap.size r.A r.len r.cap (r.l.flatMap Nt.cells) rfl (rds_rd (Hok.out.l.below (HM6.out.below HB7.out).bel)) (cells_one r.l) (by unfold maxLen; omega) (by omega) HB7.out.size ?_
            intro v8 w8 hown8 hg8 hat8
            rw [← Hm.out, ← List.flatMap_append] at hown8
            obtain ⟨A8, c8, rfl⟩ := own_shape hown8
            have hb8 : Below w6.heap.size w6 w8 := HB7.out.grown hg8 HB7.out.size (fun q hq => (own_blk' HO7.out q hq).1)
            have hbx8 := (hb8.block _ (Array.getElem?_eq_some_iff.1 Hbx6.out).1).trans Hbx6.out
            have hs8 := cell_of_row _ wr.heap.size 6 _ _ _ hbx8
            simp at hs8
            have HS8 : Hid (w8.cell? ⟨wr.heap.size, 6, none⟩ = some (.slice r.A r.len r.cap)) := hs8
            have hlen8 : (KL ++ r.l).length = m := by rw [List.length_append, HKl.out.1, HKl.out.2, Hm.out]
            have hm8 := HM6.out.below hb8
            have HE8 : Hid (NtE w8 w.heap.size A8 m (KL ++ r.l)) := NtE.of_own (own_base hown8 HM6.out.bel.size) hlen8
            have HV8 : Hid (StE w w8 r.v r.x) := .inr (Hok.out.x.below hm8.bel)
            have Hlen8 := Lib.hid hlen8
            have hcap8 := (own_max hown8).1
            have HM8 := Lib.hid hm8
            have Hbx8 := Lib.hid hbx8
            clear hown8 hg8 hat8 hb8 hbx8 hs8 hlen8 hm8
            refine hK.out _ _ ?_ (fun hHeld' => ?_)
            · (first | exact d6 | exact HSq.out | exact HS7.out | exact HS8.out)
            clear hK K hHeld
            have hHeld := hHeld'
            clear hHeld'
            simp only [List.set_cons_zero, List.set_cons_succ]
            refine tk 6 22 hHeld ?_
            refine wpAnyH_done (by kernel_rfl) ?_ _
            refine NoPanic.normal ?_
            have d3' := cell_of_row _ wr.heap.size 3 _ _ _ Hbx8.out
            have d4' := cell_of_row _ wr.heap.size 4 _ _ _ Hbx8.out
            have d5' := cell_of_row _ wr.heap.size 5 _ _ _ Hbx8.out
            simp at d3' d4' d5'
            obtain ⟨x0, x1, x2⟩ := bx_cells HM8.out.xat (Below.refl _ _)
            obtain ⟨z0, z1, z2⟩ := bx_cells HM8.out.oat (Below.refl _ _)
            have f0 := frozen_of_row _ xb 0 _ _ HM8.out.xat
            have f1 := frozen_of_row _ xb 1 _ _ HM8.out.xat
            have f2 := frozen_of_row _ xb 2 _ _ HM8.out.xat
            have h0 := frozen_of_row _ ob 0 _ _ HM8.out.oat
            have h1 := frozen_of_row _ ob 1 _ _ HM8.out.oat
            have h2 := frozen_of_row _ ob 2 _ _ HM8.out.oat
            clear d3 d4 d5 d6 hHeld
            by_cases hs : (m : Int) < 32
            · have HE9 : Hid (NtE w8 w.heap.size A8 m (lastN (KL ++ r.l))) := by rw [lastN_small (by rw [Hlen8.out]; omega)]; exact HE8.out
              go_wp2_with fail
              go_roundg (gk - 1)
              case measure => omega
              case rel =>
                rcases Hout.out with h | h | h
                · exact absurd e1 (by rw [h.1]; simp)
                · exact ⟨j + 1, b6, sb, lb, nk, ck, no, co, s', y, mb, ⟨V1, v1, k1, V2, v2, k2, V3, v3, k3⟩, ⟨O1, o1, i1, O2, o2, i2, O3, o3, i3⟩, x, ov, Ak, Ao, KL, O, by omega, rfl, rfl, rfl, rfl, by go_num, h.2.2.1, HL.out, h.2.2.2, ⟨hnk, hno⟩, HM8.out.more (by omega)⟩
                · exact absurd h.2.1 (by simp)
            · obtain ⟨d, hd⟩ : ∃ d, d = m - 32 := ⟨_, rfl⟩
              have hd1 : d < m := by omega
              have hd32 : m - d ≤ 32 := by omega
              have hdT : ((m : Int) - 32).toNat = d := by omega
              have hdJ : ¬ (d : Int) < 0 := by omega
              obtain ⟨b9, o9, rfl, he9⟩ := HE8.out.drop hd1
              have HE9 : Hid (NtE w8 w.heap.size (some ⟨b9, o9 + d * 3, none⟩) (m - d) (lastN (KL ++ r.l))) := by
                have e : lastN (KL ++ r.l) = (KL ++ r.l).drop d := by unfold lastN; rw [Hlen8.out, hd]
                rw [e]; exact he9
              clear he9 hd
              go_wp2_with fail
              go_roundg (gk - 1)
              case measure => omega
              case rel =>
                rcases Hout.out with h | h | h
                · exact absurd e1 (by rw [h.1]; simp)
                · exact ⟨j + 1, b6, sb, lb, nk, ck, no, co, s', y, mb, ⟨V1, v1, k1, V2, v2, k2, V3, v3, k3⟩, ⟨O1, o1, i1, O2, o2, i2, O3, o3, i3⟩, x, ov, Ak, Ao, KL, O, by omega, rfl, rfl, rfl, rfl, by go_num, h.2.2.1, HL.out, h.2.2.2, ⟨hnk, hno⟩, HM8.out.more (by omega)⟩
                · exact absurd h.2.1 (by simp)
          · go_wp2_with (first
              | (rw [← Hwx.out]
                 go_at_call 24; (with_reducible refine (m_down HMx.out).mono ?_)
                 rintro e w5 ⟨he, hw5⟩
                 obtain rfl := hw5.symm
                 rw [Hdn.out] at he
                 subst he)
              | (go_at_call 17; (with_reducible refine Hcall.out.mono ?_)
                 rintro e w6 ⟨b6, rfl, hs6, hc6⟩
                 have hbx6 := (hc6.at_ (Array.getElem?_eq_some_iff.1 Hxx.out).1 (yt_not HMx.out.sto Hxx.out (by unfold Un5; decide))).trans Hxx.out
                 have HM6 : Hid (MI w w6 p q lb sb b6 (16 * j + 16) xb ob s' ⟨V1, v1, k1, V2, v2, k2, V3, v3, k3⟩ x ⟨O1, o1, i1, O2, o2, i2, O3, o3, i3⟩ ov Ak nk KL Ao no O) := HMx.out.step hs6 hc6
                 clear d0 d1 d2 d3 d4 d5 d6
                 have d3 := cell_of_row _ wr.heap.size 3 _ _ _ hbx6
                 have d4 := cell_of_row _ wr.heap.size 4 _ _ _ hbx6
                 have d5 := cell_of_row _ wr.heap.size 5 _ _ _ hbx6
                 have d6 := cell_of_row _ wr.heap.size 6 _ _ _ hbx6
                 simp at d3 d4 d5 d6
                 have Hbx6 := Lib.hid hbx6
                 clear hs6 hc6 hbx6))
            refine sk (fun w' => w'.cell? ⟨wr.heap.size, 6, none⟩ = some (.slice r.A r.len r.cap)) 7 ?_ (fun hHeld => ?_)
            · (first | exact d6 | exact HSq.out | exact HS7.out | exact HS8.out)
            refine tk 1 127 hHeld ?_
            refine tk 3 129 hHeld ?_
            refine tk 4 130 hHeld ?_
            refine bk 0 126 (fun K hK => ?_)
            go_simp
            obtain ⟨wq, hwq⟩ : ∃ W, W = (w6.alloc (.cells #[] 54)).drew := ⟨_, rfl⟩
            have hbq : Below w6.heap.size w6 wq := by rw [hwq]; exact ((Below.refl _ _).alloc (Nat.le_refl _) _).drew
            have hoq : wq.ownsRow w6.heap.size 54 3 (.slice (some ⟨w6.heap.size, 0, none⟩) 0 0) 0 [] := by
              rw [hwq]; exact own_below (World.ownsRow_made w6 #[] 0 (Nat.le_refl _) (by unfold maxLen; omega) rfl) (Below.refl _ _).drew
            have hbxq := (hbq.block _ (Array.getElem?_eq_some_iff.1 Hbx6.out).1).trans Hbx6.out
            have hsq := cell_of_row _ wr.heap.size 6 _ _ _ hbxq
            simp at hsq
            have HSq : Hid (wq.cell? ⟨wr.heap.size, 6, none⟩ = some (.slice r.A r.len r.cap)) := hsq
            rw [← hwq]
            have HBq := Lib.hid hbq
            have HOq := Lib.hid hoq
            clear hwq hbq hoq hbxq hsq
            refine hK.out _ _ ?_ (fun hHeld' => ?_)
            · (first | exact d6 | exact HSq.out | exact HS7.out | exact HS8.out)
            clear hK K hHeld
            have hHeld := hHeld'
            clear hHeld'
            simp only [List.set_cons_zero, List.set_cons_succ]
            refine bk 2 128 (fun K hK => ?_)
            refine wp_app _ (.tmp 126) (.tmp 127) 26 rfl w6.heap.size 54 i3' (.agg #[.int .i64 0, .int .i64 0, .int .i64 0]) 3 24 Try.underlying26 hi3 hz3 hs3 hb3 rfl (by omega) (.slice (some ⟨w6.heap.size, 0, none⟩) 0 0) 0 [] rfl HOq.out _ Ak nk ck (KL.flatMap Nt.cells) rfl (rds_rd (HM6.out.below HBq.out).kx.rd) (cells_one KL) (by unfold maxLen; omega) (by omega) HBq.out.size ?_
            intro v7 w7 hown7 hg7 hat7
            rw [Nat.zero_add, List.nil_append] at hown7
            obtain ⟨A7, c7, rfl⟩ := own_shape hown7
            have hb7 : Below w6.heap.size w6 w7 := HBq.out.grown hg7 HBq.out.size (fun q hq => by simp [Value.ownBlock] at hq; omega)
            have hbx7 := (hb7.block _ (Array.getElem?_eq_some_iff.1 Hbx6.out).1).trans Hbx6.out
            have hs7 := cell_of_row _ wr.heap.size 6 _ _ _ hbx7
            simp at hs7
            have HS7 : Hid (w7.cell? ⟨wr.heap.size, 6, none⟩ = some (.slice r.A r.len r.cap)) := hs7
            have HB7 := Lib.hid hb7
            have HO7 := Lib.hid hown7
            clear hown7 hg7 hat7 hb7 hbx7 hs7
            refine hK.out _ _ ?_ (fun hHeld' => ?_)
            · (first | exact d6 | exact HSq.out | exact HS7.out | exact HS8.out)
            clear hK K hHeld
            have hHeld := hHeld'
            clear hHeld'
            simp only [List.set_cons_zero, List.set_cons_succ]
            refine bk 5 131 (fun K hK => ?_)
            refine wp_app _ (.tmp 128) (.tmp 130) 26 rfl w6.heap.size 54 i3' (.agg #[.int .i64 0, .int .i64 0, .int .i64 0]) 3 24 Try.underlying26 hi3 hz3 hs3 hb3 rfl (by omega) (.slice A7 nk c7) nk (KL.flatMap Nt.cells) rfl HO7.out w.heap.size r.A r.len r.cap (r.l.flatMap Nt.cells) rfl (rds_rd (Hok.out.l.below (HM6.out.below HB7.out).bel)) (cells_one r.l) (by unfold maxLen; omega) (by omega) HB7.out.size ?_
            intro v8 w8 hown8 hg8 hat8
            rw [← Hm.out, ← List.flatMap_append] at hown8
            obtain ⟨A8, c8, rfl⟩ := own_shape hown8
            have hb8 : Below w6.heap.size w6 w8 := HB7.out.grown hg8 HB7.out.size (fun q hq => (own_blk' HO7.out q hq).1)
            have hbx8 := (hb8.block _ (Array.getElem?_eq_some_iff.1 Hbx6.out).1).trans Hbx6.out
            have hs8 := cell_of_row _ wr.heap.size 6 _ _ _ hbx8
            simp at hs8
            have HS8 : Hid (w8.cell? ⟨wr.heap.size, 6, none⟩ = some (.slice r.A r.len r.cap)) := hs8
            have hlen8 : (KL ++ r.l).length = m := by rw [List.length_append, HKl.out.1, HKl.out.2, Hm.out]
            have hm8 := HM6.out.below hb8
            have HE8 : Hid (NtE w8 w.heap.size A8 m (KL ++ r.l)) := NtE.of_own (own_base hown8 HM6.out.bel.size) hlen8
            have HV8 : Hid (StE w w8 r.v r.x) := .inr (Hok.out.x.below hm8.bel)
            have Hlen8 := Lib.hid hlen8
            have hcap8 := (own_max hown8).1
            have HM8 := Lib.hid hm8
            have Hbx8 := Lib.hid hbx8
            clear hown8 hg8 hat8 hb8 hbx8 hs8 hlen8 hm8
            refine hK.out _ _ ?_ (fun hHeld' => ?_)
            · (first | exact d6 | exact HSq.out | exact HS7.out | exact HS8.out)
            clear hK K hHeld
            have hHeld := hHeld'
            clear hHeld'
            simp only [List.set_cons_zero, List.set_cons_succ]
            refine tk 6 22 hHeld ?_
            refine wpAnyH_done (by kernel_rfl) ?_ _
            refine NoPanic.normal ?_
            have d3' := cell_of_row _ wr.heap.size 3 _ _ _ Hbx8.out
            have d4' := cell_of_row _ wr.heap.size 4 _ _ _ Hbx8.out
            have d5' := cell_of_row _ wr.heap.size 5 _ _ _ Hbx8.out
            simp at d3' d4' d5'
            obtain ⟨x0, x1, x2⟩ := bx_cells HM8.out.xat (Below.refl _ _)
            obtain ⟨z0, z1, z2⟩ := bx_cells HM8.out.oat (Below.refl _ _)
            have f0 := frozen_of_row _ xb 0 _ _ HM8.out.xat
            have f1 := frozen_of_row _ xb 1 _ _ HM8.out.xat
            have f2 := frozen_of_row _ xb 2 _ _ HM8.out.xat
            have h0 := frozen_of_row _ ob 0 _ _ HM8.out.oat
            have h1 := frozen_of_row _ ob 1 _ _ HM8.out.oat
            have h2 := frozen_of_row _ ob 2 _ _ HM8.out.oat
            clear d3 d4 d5 d6 hHeld
            by_cases hs : (m : Int) < 32
            · have HE9 : Hid (NtE w8 w.heap.size A8 m (lastN (KL ++ r.l))) := by rw [lastN_small (by rw [Hlen8.out]; omega)]; exact HE8.out
              go_wp2_with fail
              go_roundg (gk - 1)
              case measure => omega
              case rel =>
                rcases Hout.out with h | h | h
                · exact absurd e1 (by rw [h.1]; simp)
                · rcases h.2.1 with h6 | h6
                  · exact absurd e2 (by simp only [beq_iff_eq]; omega)
                  · cases h6
                · obtain ⟨_, _, y', h5, h6⟩ := h
                  exact ⟨j + 1, b6, sb, lb, nk, ck, m, c8, s', y', true, ⟨V1, v1, k1, V2, v2, k2, V3, v3, k3⟩, r.v, x, r.x, Ak, A8, KL, lastN (KL ++ r.l), by omega, rfl, rfl, rfl, rfl, by go_num, h5, HL.out, h6, ⟨hnk, by omega⟩, ((HM8.out.setN HE9.out).setO HV8.out).more (by omega)⟩
            · obtain ⟨d, hd⟩ : ∃ d, d = m - 32 := ⟨_, rfl⟩
              have hd1 : d < m := by omega
              have hd32 : m - d ≤ 32 := by omega
              have hdT : ((m : Int) - 32).toNat = d := by omega
              have hdJ : ¬ (d : Int) < 0 := by omega
              obtain ⟨b9, o9, rfl, he9⟩ := HE8.out.drop hd1
              have HE9 : Hid (NtE w8 w.heap.size (some ⟨b9, o9 + d * 3, none⟩) (m - d) (lastN (KL ++ r.l))) := by
                have e : lastN (KL ++ r.l) = (KL ++ r.l).drop d := by unfold lastN; rw [Hlen8.out, hd]
                rw [e]; exact he9
              clear he9 hd
              go_wp2_with fail
              go_roundg (gk - 1)
              case measure => omega
              case rel =>
                rcases Hout.out with h | h | h
                · exact absurd e1 (by rw [h.1]; simp)
                · rcases h.2.1 with h6 | h6
                  · exact absurd e2 (by simp only [beq_iff_eq]; omega)
                  · cases h6
                · obtain ⟨_, _, y', h5, h6⟩ := h
                  exact ⟨j + 1, b6, sb, lb, nk, ck, (m - d), (c8 - d), s', y', true, ⟨V1, v1, k1, V2, v2, k2, V3, v3, k3⟩, r.v, x, r.x, Ak, (some ⟨b9, o9 + d * 3, none⟩), KL, lastN (KL ++ r.l), by omega, rfl, rfl, rfl, rfl, by go_num, h5, HL.out, h6, ⟨hnk, by omega⟩, ((HM8.out.setN HE9.out).setO HV8.out).more (by omega)⟩
end Go.Proofs.Ytcdgaeenfhpnkaa.Cr
