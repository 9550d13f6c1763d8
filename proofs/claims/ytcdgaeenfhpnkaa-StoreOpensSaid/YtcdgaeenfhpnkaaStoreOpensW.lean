/- StoreOpens: to open a disk anew changes nothing of what stands, and is kept. -/
import Derived.Test.YtcdgaeenfhpnkaaStoreKeepsW
import Derived.Test.YtcdgaeenfhpnkaaStV
set_option linter.unusedVariables false
set_option linter.unusedSimpArgs false
set_option maxRecDepth 100000
namespace Go.Proofs.Ytcdgaeenfhpnkaa
open Go Go.RowKit
attribute [local go_sem] Oper.semAt_some

theorem openF_app (c e : Nat) : ∀ (L : List (List Nat)) (x : St) (N : List Nt) (b : List Nat) (y : St) (M : List Nt), openF c e x N L = some (y, M) →
    openF c e x N (L ++ [b]) = openF c e y M [b]
  | [], x, N, b, y, M, h => by
    simp only [openF, Option.some.injEq, Prod.mk.injEq] at h
    obtain ⟨rfl, rfl⟩ := h
    rfl
  | r :: L, x, N, b, y, M, h => by
    rw [List.cons_append]
    unfold openF at h ⊢
    split at h
    · rename_i h1
      rw [if_pos h1]
      exact openF_app c e L _ _ b y M h
    · simp at h
theorem openF_one {c e : Nat} {x x' : St} {N l : List Nt} (hok : okR x' l) (hc : x'.causes.length = c ∧ x'.effects.length = e) : openF c e x N [bytesF x' l] = some (x', lastN (N ++ l)) := by
  unfold openF
  rw [bytesF_yes hok, read_bytes hok, if_pos ⟨rfl, hc⟩]
  rfl
theorem rel_open {m c e taken en : Nat} {L L' : List (List Nat)} {N N' l : List Nt} {x y z : St} (h : PutRel m c e taken L N x l en L' N') (hop : openF c e z [] L = some (y, N)) (hN : ∀ x ∈ N, okN x) :
    (en = 0 ∧ openF c e z [] L' = some (x, N') ∧ L'.length ≤ L.length + 1) ∨ (en = 1 ∨ en = 5) ∧ L' = L ∧ N' = N := by
  rcases h with ⟨h1, _, h2, h3⟩ | ⟨hok, hc, ⟨h1, h2, h3⟩ | ⟨h1, h2, h3, _⟩⟩
  · exact .inr ⟨.inl h1, h2, h3⟩
  · refine .inl ⟨h1, ?_⟩
    rcases h3 with rfl | rfl
    · refine ⟨?_, by simp⟩
      rw [openF_app c e L z [] _ y N hop, openF_one hok hc, h2]
    · refine ⟨?_, by simp⟩
      have hok' : okR x N' := by rw [h2]; exact okR_last hok hN
      rw [openF_one hok' hc, List.nil_append, lastN_small hok'.2.1]
  · exact .inr ⟨.inr h1, h2, h3⟩
/-- what stands, in its box: rows of one's own, or those of an argument -/
structure OpS (w wr : World) (p q lb sb xb base m k half turn taken : Nat) (L : List (List Nat)) (N : List Nt) (x : St) (V : StV) (A : Option Addr) (n cap : Nat) : Prop where
  bel : Below w.heap.size w wr
  sto : Sto wr p q lb sb base m k half turn taken 1 2 L N
  xat : wr.heap[xb]? = some (.cells #[.slice V.A1 V.n1 V.c1, .slice V.A2 V.n2 V.c2, .slice V.A3 V.n3 V.c3] 25)
  st : StO wr w.heap.size V x ∨ StR wr w.heap.size V x
  own : wr.ownsRow w.heap.size 54 3 (.slice A n cap) n (N.flatMap Nt.cells)
  len : N.length = n
  lo : w.heap.size ≤ p ∧ w.heap.size ≤ q ∧ w.heap.size ≤ lb ∧ w.heap.size ≤ sb ∧ w.heap.size ≤ xb
  op : openF 1 2 (zero0 1 2) [] L = some (x, N)
section
variable {w wr w' : World} {p q lb sb xb base m k half turn taken n cap : Nat} {L : List (List Nat)} {N : List Nt} {x : St} {V : StV} {A : Option Addr}
theorem OpS.xlt (h : OpS w wr p q lb sb xb base m k half turn taken L N x V A n cap) : xb < wr.heap.size := (Array.getElem?_eq_some_iff.1 h.xat).1
theorem OpS.below (h : OpS w wr p q lb sb xb base m k half turn taken L N x V A n cap) (hb : Below wr.heap.size wr w') : OpS w w' p q lb sb xb base m k half turn taken L N x V A n cap :=
  ⟨h.bel.trans (hb.mono h.bel.size), h.sto.below hb, (hb.block xb h.xlt).trans h.xat, h.st.imp (fun g => g.below hb) (fun g => g.below (hb.mono h.bel.size)), own_below h.own hb, h.len, h.lo, h.op⟩
theorem OpS.toR (h : OpS w wr p q lb sb xb base m k half turn taken L N x V A n cap) : StR wr wr.heap.size V x := by
  rcases h.st with g | g
  · exact g.toR
  · exact g.more h.bel.size
theorem OpS.four_lo (h : OpS w wr p q lb sb xb base m k half turn taken L N x V A n cap) : ∀ k, four p q lb sb k → w.heap.size ≤ k := by
  rintro k (rfl | rfl | rfl | rfl)
  · exact h.lo.1
  · exact h.lo.2.1
  · exact h.lo.2.2.1
  · exact h.lo.2.2.2.1
theorem StO.chg' {base : Nat} {X : Nat → Prop} (h : StO wr base V x) (hc : Chg X wr w') (h1 : ∀ g cur fr, wr.heap[g]? = some (.cells cur 61 fr) → ¬ X g) (h2 : ∀ g cur fr, wr.heap[g]? = some (.cells cur 2 fr) → ¬ X g) : StO w' base V x :=
  ⟨own_chg h.o1 hc (fun g cur fr hg _ => h1 g cur fr hg), own_chg h.o2 hc (fun g cur fr hg _ => h1 g cur fr hg), own_chg h.o3 hc (fun g cur fr hg _ => h2 g cur fr hg), h.l1, h.l2, h.l3⟩
/-- Put turned nothing -/
theorem OpS.same {b' k' half' turn' taken' : Nat} (h : OpS w wr p q lb sb xb base m k half turn taken L N x V A n cap) (hs : Sto w' p q lb sb b' m k' half' turn' taken' 1 2 L N) (hc : Chg (four p q lb sb) wr w') : OpS w w' p q lb sb xb b' m k' half' turn' taken' L N x V A n cap :=
  ⟨h.bel.trans (hc.below h.bel.size h.four_lo), hs, (hc.at_ h.xlt (four_not h.sto (by decide) (by decide) (by decide) (by decide) xb _ _ h.xat)).trans h.xat,
    h.st.imp (fun g => g.chg' hc (four_not h.sto (by decide) (by decide) (by decide) (by decide)) (four_not h.sto (by decide) (by decide) (by decide) (by decide))) (fun g => g.below (hc.below h.bel.size h.four_lo)),
    own_chg h.own hc (fun g cur fr hg _ => four_not h.sto (by decide) (by decide) (by decide) (by decide) g cur fr hg), h.len, h.lo, h.op⟩
/-- the notes are asked for -/
theorem OpS.notes {A' : Option Addr} {n' cap' : Nat} (h : OpS w wr p q lb sb xb base m k half turn taken L N x V A n cap) (ho : wr.ownsRow w.heap.size 54 3 (.slice A' n' cap') n' (N.flatMap Nt.cells)) (hn : N.length = n') : OpS w wr p q lb sb xb base m k half turn taken L N x V A' n' cap' :=
  ⟨h.bel, h.sto, h.xat, h.st, ho, hn, h.lo, h.op⟩
/-- behind a Put that was OK, but for the notes that are asked for -/
structure OpH (w wr : World) (p q lb sb xb base m k half turn taken : Nat) (L : List (List Nat)) (N : List Nt) (x : St) (V : StV) : Prop where
  bel : Below w.heap.size w wr
  sto : Sto wr p q lb sb base m k half turn taken 1 2 L N
  xat : wr.heap[xb]? = some (.cells #[.slice V.A1 V.n1 V.c1, .slice V.A2 V.n2 V.c2, .slice V.A3 V.n3 V.c3] 25)
  st : StR wr w.heap.size V x
  lo : w.heap.size ≤ p ∧ w.heap.size ≤ q ∧ w.heap.size ≤ lb ∧ w.heap.size ≤ sb ∧ w.heap.size ≤ xb
  op : openF 1 2 (zero0 1 2) [] L = some (x, N)
theorem Sto.other {X : Nat → Prop} (h : Sto wr p q lb sb base m k half turn taken 1 2 L N) {cs : Array Value} (hx : wr.heap[xb]? = some (.cells cs 25)) (j : Nat) (u : Value) : Sto (wr.setCell ⟨xb, j, none⟩ u) p q lb sb base m k half turn taken 1 2 L N := by
  have hn := four_not h (by decide) (by decide) (by decide) (by decide) xb _ _ hx
  have hc : Chg (fun k => k = xb) wr (wr.setCell ⟨xb, j, none⟩ u) := chg_set (Chg.refl _ _) rfl
  refine ⟨h.dk.keep (hc.at_ h.dk.pl (fun e => hn (.inl e.symm))) (hc.at_ h.dk.ql (fun e => hn (.inr (.inl e.symm)))), h.at_.keep (hc.at_ h.at_.lt (fun e => hn (.inr (.inr (.inl e.symm))))),
    h.sto.chg hc (fun e => hn (.inr (.inr (.inr e.symm)))) (fun g cur fr hg _ => fun e => ?_), h.n32, h.okn, Nat.le_trans h.le hc.size, h.ne⟩
  have e : g = xb := e
  subst e
  rw [hx] at hg
  injection hg with hg
  injection hg with _ h9
  exact absurd h9 (by decide)
/-- the state that was put stands in its box -/
theorem OpS.put {b' k' half' turn' taken' : Nat} {L' : List (List Nat)} {N' : List Nt} {r : StV} {y : St} (h : OpS w wr p q lb sb xb base m k half turn taken L N x V A n cap) (hs : Sto w' p q lb sb b' m k' half' turn' taken' 1 2 L' N') (hc : Chg (four p q lb sb) wr w') (hy : StR w w.heap.size r y) (hop : openF 1 2 (zero0 1 2) [] L' = some (y, N')) :
    OpH w (((w'.setCell ⟨xb, 0, none⟩ (.slice r.A1 r.n1 r.c1)).setCell ⟨xb, 1, none⟩ (.slice r.A2 r.n2 r.c2)).setCell ⟨xb, 2, none⟩ (.slice r.A3 r.n3 r.c3)) p q lb sb xb b' m k' half' turn' taken' L' N' y r := by
  have hx0 := (hc.at_ h.xlt (four_not h.sto (by decide) (by decide) (by decide) (by decide) xb _ _ h.xat)).trans h.xat
  have hx1 := heap_set_same (j := 0) (.slice r.A1 r.n1 r.c1) hx0
  have hx2 := heap_set_same (j := 1) (.slice r.A2 r.n2 r.c2) hx1
  have hx3 := heap_set_same (j := 2) (.slice r.A3 r.n3 r.c3) hx2
  have hb : Below w.heap.size w (((w'.setCell ⟨xb, 0, none⟩ (.slice r.A1 r.n1 r.c1)).setCell ⟨xb, 1, none⟩ (.slice r.A2 r.n2 r.c2)).setCell ⟨xb, 2, none⟩ (.slice r.A3 r.n3 r.c3)) := by
    have h0 : Chg (fun k => four p q lb sb k ∨ k = xb) wr w' := hc.mono fun k hk => .inl hk
    exact h.bel.trans ((chg_set (j := 2) (u := .slice r.A3 r.n3 r.c3) (chg_set (j := 1) (u := .slice r.A2 r.n2 r.c2) (chg_set (j := 0) (u := .slice r.A1 r.n1 r.c1) h0 (.inr rfl)) (.inr rfl)) (.inr rfl)).below h.bel.size (fun k hk => by
      rcases hk with hk | rfl
      · exact h.four_lo k hk
      · exact h.lo.2.2.2.2))
  exact ⟨hb, ((hs.other (X := fun _ => True) hx0 0 _).other (X := fun _ => True) hx1 1 _).other (X := fun _ => True) hx2 2 _, hx3, hy.below hb, h.lo, hop⟩
theorem OpH.notes {w2 : World} {A' : Option Addr} {n' cap' : Nat} (h : OpH w wr p q lb sb xb base m k half turn taken L N x V) (hb : Below wr.heap.size wr w2) (ho : w2.ownsRow w.heap.size 54 3 (.slice A' n' cap') n' (N.flatMap Nt.cells)) (hn : N.length = n') : OpS w w2 p q lb sb xb base m k half turn taken L N x V A' n' cap' :=
  ⟨h.bel.trans (hb.mono h.bel.size), h.sto.below hb, (hb.block xb (Array.getElem?_eq_some_iff.1 h.xat).1).trans h.xat, .inr (h.st.below (hb.mono h.bel.size)), ho, hn, h.lo, h.op⟩
theorem OpS.again {lb' sb' b' k' : Nat} (h : OpS w wr p q lb sb xb base m k half turn taken L N x V A n cap) (hs : Sto wr p q lb' sb' b' m k' half turn taken 1 2 L N) (h1 : w.heap.size ≤ lb') (h2 : w.heap.size ≤ sb') : OpS w wr p q lb' sb' xb b' m k' half turn taken L N x V A n cap :=
  ⟨h.bel, hs, h.xat, h.st, h.own, h.len, ⟨h.lo.1, h.lo.2.1, h1, h2, h.lo.2.2.2.2⟩, h.op⟩
/-- a disk is opened anew -/
theorem open12 (hd : DK wr p q m k half turn taken L) (hop : openF 1 2 (zero0 1 2) [] L = some (x, N)) (hL : L.length ≤ 1000000) : Calls Try.prog 16 #[.pointer (some ⟨p, 0, none⟩), .int .i64 1, .int .i64 2] wr (OpenOk p q m k half turn taken 1 2 L wr (x, N)) := by
  have h := openS_go 1 2 p q m k half turn taken L wr hd (by omega) (by omega) hL
  rw [hop] at h
  exact h
end
set_option maxHeartbeats 16000000 in
theorem opens_walk (a : Int) (A : Option Addr) (n c : Nat) (l : List Opr) (w : World) (hw : (Lit.int .u8 a).wf = true) (h1 : Ops w w.heap.size A n l ∧ (n ≤ c ∧ c ≤ maxLen) ∧ n ≤ 140737488351232) :
    Calls Try.prog 6 #[.int .u8 a, .slice A n c] w fun e w' => e = .returned (.bool true) ∧ Below w.heap.size w w' := by
  obtain ⟨hr, ⟨hnc, hcm⟩, hn⟩ := h1
  obtain ⟨ha, ha'⟩ := wf_u8' hw
  have Hr := Lib.hid hr
  obtain ⟨m, hm⟩ : ∃ m : Nat, m = (min (max a 1) 256).toNat := ⟨_, rfl⟩
  have Hm := Lib.hid hm
  obtain ⟨g, hg⟩ : ∃ g, grB l n = g := ⟨_, rfl⟩
  have Hg := Lib.hid hg
  have hg0 : g = false → n ≤ 100 := fun h => grB_no (hg.trans h)
  have hnm : n ≤ 9223372036854775807 := by omega
  clear hr hm hg hw
  cases g
  rotate_left
  · go_enter Try.func6, Try.ntmps6
    go_wp2_with (first
      | (go_at_call 8; (with_reducible refine (head_any _).mono ?_)
         rintro e w1 ⟨rfl, hb1⟩
         have HB1 := Lib.hid hb1
         clear hb1)
      | (go_at_call 15; (with_reducible refine (lg_new w1 _).mono ?_)
         rintro e w2 ⟨rfl, hd2, hb2⟩
         rw [← Hm.out] at hd2
         have HD2 := Lib.hid hd2
         have HB2 : Hid (Below w.heap.size w w2) := HB1.out.trans (hb2.mono HB1.out.size)
         have HS1 : Hid (w.heap.size ≤ w1.heap.size) := HB1.out.size
         clear hd2 hb2 HB1)
      | (go_at_call 20; (with_reducible refine (great_any A n c l _ w.heap.size (Hr.out.below HB2.out) hn HB2.out.size).mono ?_)
         rintro e w3 ⟨he, hb3⟩
         rw [Hg.out] at he
         subst he
         have HB3 : Hid (Below w.heap.size w w3) := HB2.out.trans (hb3.mono HB2.out.size)
         have HD3 := Lib.hid (HD2.out.below hb3)
         clear hb3 HB2 HD2))
    go_ret
    exact ⟨ret_bool (by simp), HB3.out⟩
  have hn100 : n ≤ 100 := hg0 rfl
  have hnI : (n : Int) ≤ 100 := by omega
  clear hg0
  go_enter Try.func6, Try.ntmps6
  go_wp2_with (first
    | (go_at_call 8; (with_reducible refine (head_any _).mono ?_)
       rintro e w1 ⟨rfl, hb1⟩
       have HB1 := Lib.hid hb1
       clear hb1)
    | (go_at_call 15; (with_reducible refine (lg_new w1 _).mono ?_)
       rintro e w2 ⟨rfl, hd2, hb2⟩
       rw [← Hm.out] at hd2
       have HD2 := Lib.hid hd2
       have HB2 : Hid (Below w.heap.size w w2) := HB1.out.trans (hb2.mono HB1.out.size)
       have HS1 : Hid (w.heap.size ≤ w1.heap.size) := HB1.out.size
       clear hd2 hb2 HB1)
    | (go_at_call 20; (with_reducible refine (great_any A n c l _ w.heap.size (Hr.out.below HB2.out) hn HB2.out.size).mono ?_)
       rintro e w3 ⟨he, hb3⟩
       rw [Hg.out] at he
       subst he
       have HB3 : Hid (Below w.heap.size w w3) := HB2.out.trans (hb3.mono HB2.out.size)
       have HD3 := Lib.hid (HD2.out.below hb3)
       clear hb3 HB2 HD2)
    | (go_at_call 16; (with_reducible refine (open12 (x := zero0 1 2) (N := []) HD3.out rfl (by simp)).mono ?_)
       rintro e w4 ⟨sb, lb, ⟨P1, p1, r1, P2, p2, r2, P3, p3, r3⟩, A5, n5, c5, rfl, hS4, ho4, hn4, hl4, hb4, hlb, hsb⟩
       have hS4' := hS4 (by intro x hx; simp at hx)
       have hs3 := HB3.out.size
       have hsa := HS1.out
       have hs34 := hb4.size
       obtain ⟨p, hp⟩ : ∃ p, p = w1.heap.size + 1 := ⟨_, rfl⟩
       obtain ⟨q, hq⟩ : ∃ q, q = w1.heap.size := ⟨_, rfl⟩
       have hb5 := al_ w4 (.cells #[.slice P1 p1 r1, .slice P2 p2 r2, .slice P3 p3 r3] 25)
       have hK : OpS w (w4.alloc (.cells #[.slice P1 p1 r1, .slice P2 p2 r2, .slice P3 p3 r3] 25)) p q lb sb w4.heap.size w3.heap.size m 0 0 1 0 [] [] (zero0 1 2) ⟨P1, p1, r1, P2, p2, r2, P3, p3, r3⟩ A5 n5 c5 :=
         ⟨(HB3.out.trans (hb4.mono hs3)).trans (hb5.mono (Nat.le_trans hs3 hs34)), by rw [hp, hq]; exact hS4'.below hb5, heap_alloc_new w4 _, .inl ((ho4.base hs3).below hb5), own_below (own_base hn4 hs3) hb5, hl4, ⟨by omega, by omega, by omega, by omega, by omega⟩, rfl⟩
       have HK4 := Lib.hid hK
       rw [← hp]
       clear hS4 hS4' ho4 hn4 hl4 hb4 hlb hsb hs3 hsa hs34 hp hq hb5 hK HD3 HB3 HS1))
  obtain ⟨xb, hxb⟩ : ∃ xb, xb = w4.heap.size := ⟨_, rfl⟩
  rw [← hxb] at HK4 ⊢
  clear hxb
  go_loopg [7, 9, 11] n (fun qq v7 v9 i wr => ∃ (j k half turn taken base sb lb : Nat) (L : List (List Nat)) (N : List Nt) (x : St) (V : StV) (Aa : Option Addr) (na ca : Nat), qq + j = n ∧ v7 = .pointer (some ⟨sb, 0, none⟩) ∧ v9 = .slice Aa na ca ∧ i = .int .i64 j ∧ k ≤ 16 * j ∧ turn ≤ 1 + j ∧ L.length ≤ j ∧ OpS w wr p q lb sb xb base m k half turn taken L N x V Aa na ca)
  case atStart => exact ⟨0, 0, 0, 1, 0, _, _, _, [], [], _, _, _, _, _, by omega, rfl, rfl, rfl, by omega, by omega, by simp, HK4.out⟩
  case round =>
    clear HK4
    obtain ⟨j, k, half, turn, taken, base, sb, lb, L, N, x, ⟨V1, v1, k1, V2, v2, k2, V3, v3, k3⟩, Aa, na, ca, hj, rfl, rfl, rfl, hk, htu, hLn, hS⟩ := hrel
    by_cases hlt : j < n
    · have hi0 : (0 : Int) ≤ (j : Int) := by omega
      have hi1 : (j : Int) < (n : Int) := by omega
      obtain ⟨bb, o, rfl, hbB, _⟩ := Hr.out.1.2 (by omega)
      obtain ⟨r, hr1⟩ : ∃ r, l[j]? = some r := ⟨_, List.getElem?_eq_getElem (by have := Hr.out.1.1; omega)⟩
      have hok := Hr.out.2 r (List.mem_of_getElem? hr1)
      have Hok := Lib.hid hok
      have Hcl := Lib.hid (opr_cells Hr.out.1 hr1 (by omega))
      have c0 := (Hcl.out wr hS.bel).1.1
      have HLn := Lib.hid hLn
      by_cases h3 : r.what < 3
      rotate_left
      · have HK8 := Lib.hid hS
        clear hS hr1 hok hLn
        go_wp2_with (first
        | (go_at_call 16; (with_reducible refine (open12 HK8.out.sto.dk HK8.out.op (by have := HLn.out; omega)).mono ?_)
           rintro e w10 ⟨sb2, lb2, ⟨T1, t1, u1, T2, t2, u2, T3, t3, u3⟩, A10, n10, c10, rfl, hS10, ho10, hn10, hl10, hb10, hlb10, hsb10⟩
           have hS10' := hS10 HK8.out.sto.okn
           have hK10 := HK8.out.below hb10
           have hlt10 := hK10.xlt
           try clear z0 z1 z2
           obtain ⟨z0, z1, z2⟩ := bx_cells hK10.xat (Below.refl _ _)
           have HK10 := Lib.hid hK10
           have HS10 := Lib.hid hS10'
           have HO10 := Lib.hid ho10
           have HN10 := Lib.hid hn10
           have HL10 := Lib.hid hl10
           have Hlo : Hid (w.heap.size ≤ lb2 ∧ w.heap.size ≤ sb2) := ⟨Nat.le_trans HK8.out.bel.size hlb10, Nat.le_trans HK8.out.bel.size hsb10⟩
           clear hS10 hS10' hK10 ho10 hn10 hl10 hb10 hlb10 hsb10 HK8)
        | (go_at_call 14; (with_reducible refine (same22_yes ⟨T1, t1, u1, T2, t2, u2, T3, t3, u3⟩ ⟨V1, v1, k1, V2, v2, k2, V3, v3, k3⟩ x A10 Aa n10 na c10 ca N _ (HO10.out.below (al_ w10 _)).toR (HK10.out.below (al_ w10 _)).toR (rds_of_own (own_below HN10.out (al_ w10 _)) HL10.out) (rds_of_own (own_below HK10.out.own (al_ w10 _)) HK10.out.len) (own_small HN10.out) (own_small HK10.out.own)).mono ?_)
           rintro e w11 ⟨rfl, hb11⟩
           have hb11' : Below w10.heap.size w10 w11 := (al_ w10 _).trans (hb11.mono (al_ w10 _).size)
           have HK11 := Lib.hid ((HK10.out.again HS10.out Hlo.out.1 Hlo.out.2).below hb11')
           clear hb11 hb11' HK10 HS10 HO10 HN10 HL10 z0 z1 z2 hlt10))
        go_roundg (gk - 1)
        case measure => omega
        case rel => exact ⟨j + 1, _, _, _, _, _, _, _, L, N, _, ⟨V1, v1, k1, V2, v2, k2, V3, v3, k3⟩, _, _, _, by omega, rfl, rfl, by go_num, by omega, by omega, by have := HLn.out; omega, HK11.out⟩
      · have hd : Below wr.heap.size wr wr.drew := (Below.refl _ _).drew
        have hSd := hS.below hd
        have hcd := Hcl.out _ hSd.bel
        have HSd := Lib.hid hSd
        have HS0 : Hid (wr.drew.cell? ⟨bb, o + j * 7 + 3, none⟩ = some (.slice r.v.A1 r.v.n1 r.v.c1) ∧ wr.drew.cell? ⟨bb, o + j * 7 + 4, none⟩ = some (.slice r.v.A2 r.v.n2 r.v.c2) ∧ wr.drew.cell? ⟨bb, o + j * 7 + 5, none⟩ = some (.slice r.v.A3 r.v.n3 r.v.c3) ∧ wr.drew.cell? ⟨bb, o + j * 7 + 6, none⟩ = some (.slice r.A r.len r.cap)) := ⟨hcd.2.1.1, hcd.2.1.2.1, hcd.2.1.2.2, hcd.2.2⟩
        clear hS hr1 hok hLn hd hSd hcd
        go_wp2_with fail
        refine startH (fun w' => w'.cell? ⟨bb, o + j * 7 + 3, none⟩ = some (.slice r.v.A1 r.v.n1 r.v.c1) ∧ w'.cell? ⟨bb, o + j * 7 + 4, none⟩ = some (.slice r.v.A2 r.v.n2 r.v.c2) ∧ w'.cell? ⟨bb, o + j * 7 + 5, none⟩ = some (.slice r.v.A3 r.v.n3 r.v.c3) ∧ w'.cell? ⟨bb, o + j * 7 + 6, none⟩ = some (.slice r.A r.len r.cap)) 13 #[false, false, false, false, false, false, false, false, false, false, false, false, false] rfl rfl (by kernel_rfl) ?_ (fun hHeld => ?_)
        · (first | exact HS0.out | exact hHeld | exact hS7)
        refine takeH 0 56 #[true, false, false, false, false, false, false, false, false, false, false, false, false] (v := ?_) rfl rfl rfl (by kernel_rfl) (by kernel_rfl) (by kernel_rfl) (fun _ _ _ h => h) (Or.inl ⟨by rfl, ?_⟩) hHeld ?_
        rotate_left
        · (intro w' hSw; (try dsimp only at hSw); go_simp; (try with_reducible rfl))
        simp only [List.set_cons_zero, List.set_cons_succ]
        refine takeH 1 57 #[true, true, false, false, false, false, false, false, false, false, false, false, false] (v := ?_) rfl rfl rfl (by kernel_rfl) (by kernel_rfl) (by kernel_rfl) (fun _ _ _ h => h) (Or.inl ⟨by rfl, ?_⟩) hHeld ?_
        rotate_left
        · (intro w' hSw; (try dsimp only at hSw); go_simp; (try with_reducible rfl))
        simp only [List.set_cons_zero, List.set_cons_succ]
        refine takeH 2 58 #[true, true, true, false, false, false, false, false, false, false, false, false, false] (v := ?_) rfl rfl rfl (by kernel_rfl) (by kernel_rfl) (by kernel_rfl) (fun _ _ _ h => h) (Or.inl ⟨by rfl, ?_⟩) hHeld ?_
        rotate_left
        · (intro w' hSw; (try dsimp only at hSw); go_simp; (try with_reducible rfl))
        simp only [List.set_cons_zero, List.set_cons_succ]
        refine takeH 3 59 #[true, true, true, true, false, false, false, false, false, false, false, false, false] (v := ?_) rfl rfl rfl (by kernel_rfl) (by kernel_rfl) (by kernel_rfl) (fun _ _ _ h => h) (Or.inl ⟨by rfl, ?_⟩) hHeld ?_
        rotate_left
        · (intro w' hSw; (try dsimp only at hSw); go_simp; (try with_reducible rfl))
        simp only [List.set_cons_zero, List.set_cons_succ]
        refine takeH 4 60 #[true, true, true, true, true, false, false, false, false, false, false, false, false] (v := ?_) rfl rfl rfl (by kernel_rfl) (by kernel_rfl) (by kernel_rfl) (fun _ _ _ h => h) (Or.inl ⟨by rfl, ?_⟩) hHeld ?_
        rotate_left
        · (intro w' hSw; (try dsimp only at hSw); go_simp; (try with_reducible rfl))
        simp only [List.set_cons_zero, List.set_cons_succ]
        refine takeH 5 61 #[true, true, true, true, true, true, false, false, false, false, false, false, false] (v := ?_) rfl rfl rfl (by kernel_rfl) (by kernel_rfl) (by kernel_rfl) (fun _ _ _ h => h) (Or.inl ⟨by rfl, ?_⟩) hHeld ?_
        rotate_left
        · (intro w' hSw; (try dsimp only at hSw); go_simp; (try with_reducible rfl))
        simp only [List.set_cons_zero, List.set_cons_succ]
        refine takeH 6 62 #[true, true, true, true, true, true, true, false, false, false, false, false, false] (v := ?_) rfl rfl rfl (by kernel_rfl) (by kernel_rfl) (by kernel_rfl) (fun _ _ _ h => h) (Or.inl ⟨by rfl, ?_⟩) hHeld ?_
        rotate_left
        · (intro w' hSw; (try dsimp only at hSw); go_simp; (try with_reducible rfl))
        simp only [List.set_cons_zero, List.set_cons_succ]
        refine takeH 7 63 #[true, true, true, true, true, true, true, true, false, false, false, false, false] (v := ?_) rfl rfl rfl (by kernel_rfl) (by kernel_rfl) (by kernel_rfl) (fun _ _ _ h => h) (Or.inl ⟨by rfl, ?_⟩) hHeld ?_
        rotate_left
        · (intro w' hSw; (try dsimp only at hSw); go_simp; (try with_reducible rfl))
        simp only [List.set_cons_zero, List.set_cons_succ]
        refine takeH 8 64 #[true, true, true, true, true, true, true, true, true, false, false, false, false] (v := ?_) rfl rfl rfl (by kernel_rfl) (by kernel_rfl) (by kernel_rfl) (fun _ _ _ h => h) (Or.inl ⟨by rfl, ?_⟩) hHeld ?_
        rotate_left
        · (intro w' hSw; (try dsimp only at hSw); go_simp; (try with_reducible rfl))
        simp only [List.set_cons_zero, List.set_cons_succ]
        refine takeH 9 65 #[true, true, true, true, true, true, true, true, true, true, false, false, false] (v := ?_) rfl rfl rfl (by kernel_rfl) (by kernel_rfl) (by kernel_rfl) (fun _ _ _ h => h) (Or.inl ⟨by rfl, ?_⟩) hHeld ?_
        rotate_left
        · (intro w' hSw; (try dsimp only at hSw); go_simp; (try with_reducible rfl))
        simp only [List.set_cons_zero, List.set_cons_succ]
        refine takeH 10 66 #[true, true, true, true, true, true, true, true, true, true, true, false, false] (v := ?_) rfl rfl rfl (by kernel_rfl) (by kernel_rfl) (by kernel_rfl) (fun _ _ _ h => h) (Or.inl ⟨by rfl, ?_⟩) hHeld ?_
        rotate_left
        · (intro w' hSw; (try dsimp only at hSw); go_simp; (try with_reducible rfl))
        simp only [List.set_cons_zero, List.set_cons_succ]
        refine branchH 11 67 #[true, true, true, true, true, true, true, true, true, true, true, true, false] (by kernel_rfl) rfl rfl rfl (by rfl) (fun K hK => ?_)
        go_simp
        (go_at_call 17; (with_reducible refine (put_any sb lb p q base m k half turn taken 1 2 L N ⟨r.v.A1, r.v.n1, r.v.c1, r.v.A2, r.v.n2, r.v.c2, r.v.A3, r.v.n3, r.v.c3⟩ r.x r.A r.len r.cap w.heap.size r.l _ HSd.out.sto (Hok.out.x.below HSd.out.bel) (Hok.out.l.below HSd.out.bel) ⟨HSd.out.bel.size, HSd.out.lo.1, HSd.out.lo.2.1, HSd.out.lo.2.2.1⟩ (Nat.le_trans Hok.out.k.1 Hok.out.k.2) (by omega) (by omega)).mono ?_))
        rintro e w7 ⟨en, half7, turn7, taken7, L7, N7, b7, rfl, hS7s, ht7, hc7, hrel7, hb7, hb7'⟩
        have hbw7 := HSd.out.bel.trans (hc7.below HSd.out.bel.size HSd.out.four_lo)
        have hcd := Hcl.out _ hbw7
        have hS7 : w7.cell? ⟨bb, o + j * 7 + 3, none⟩ = some (.slice r.v.A1 r.v.n1 r.v.c1) ∧ w7.cell? ⟨bb, o + j * 7 + 4, none⟩ = some (.slice r.v.A2 r.v.n2 r.v.c2) ∧ w7.cell? ⟨bb, o + j * 7 + 5, none⟩ = some (.slice r.v.A3 r.v.n3 r.v.c3) ∧ w7.cell? ⟨bb, o + j * 7 + 6, none⟩ = some (.slice r.A r.len r.cap) := ⟨hcd.2.1.1, hcd.2.1.2.1, hcd.2.1.2.2, hcd.2.2⟩
        have Hrel := Lib.hid (And.intro hS7s (And.intro hc7 (rel_open hrel7 HSd.out.op HSd.out.sto.okn)))
        have hturn7 : turn7 ≤ 1 + (j + 1) := by omega
        clear hbw7 hcd hS7s hc7 hrel7 hb7 hb7' ht7
        refine hK.out _ _ ?_ (fun hHeld' => ?_)
        · (first | exact HS0.out | exact hHeld | exact hS7)
        clear hK K hHeld
        have hHeld := hHeld'
        clear hHeld'
        simp only [List.set_cons_zero, List.set_cons_succ]
        refine takeH 12 68 #[true, true, true, true, true, true, true, true, true, true, true, true, true] (v := ?_) rfl rfl rfl (by kernel_rfl) (by kernel_rfl) (by kernel_rfl) (fun _ _ _ h => h) (Or.inl ⟨by rfl, ?_⟩) hHeld ?_
        rotate_left
        · (intro w' hSw; (try dsimp only at hSw); go_simp; (try with_reducible rfl))
        simp only [List.set_cons_zero, List.set_cons_succ]
        refine wpAnyH_done (by kernel_rfl) ?_ _
        refine NoPanic.normal ?_
        obtain ⟨hS7s, hc7, hrel7⟩ := Hrel.out
        clear Hrel
        rcases hrel7 with ⟨rfl, hop7, hlen7⟩ | ⟨hen, rfl, rfl⟩
        · have hKn := HSd.out.put (r := r.v) hS7s hc7 Hok.out.x hop7
          have hx0 := (hc7.at_ HSd.out.xlt (four_not HSd.out.sto (by decide) (by decide) (by decide) (by decide) xb _ _ HSd.out.xat)).trans HSd.out.xat
          have f0 := frozen_of_row _ xb 0 _ _ hx0
          have f1 := frozen_of_row _ xb 1 _ _ hx0
          have f2 := frozen_of_row _ xb 2 _ _ hx0
          have g0 := cell_of_row _ xb 0 _ _ _ hx0
          have g1 := cell_of_row _ xb 1 _ _ _ hx0
          have g2 := cell_of_row _ xb 2 _ _ _ hx0
          simp at g0 g1 g2
          obtain ⟨d0, d1, d2, d3⟩ := hHeld
          obtain ⟨w8, hw8⟩ : ∃ w8, w8 = ((w7.setCell ⟨xb, 0, none⟩ (.slice r.v.A1 r.v.n1 r.v.c1)).setCell ⟨xb, 1, none⟩ (.slice r.v.A2 r.v.n2 r.v.c2)).setCell ⟨xb, 2, none⟩ (.slice r.v.A3 r.v.n3 r.v.c3) := ⟨_, rfl⟩
          rw [← hw8] at hKn
          have HKn := Lib.hid hKn
          have Hw8 := Lib.hid hw8
          have HLn : Hid (L7.length ≤ j + 1) := by show _ ≤ _; have := HLn.out; omega
          clear hKn hw8 hS7s hc7 hop7 hlen7 hx0 HSd HS0
          go_wp2_with (first
          | (rw [← Hw8.out]
             go_at_call 19; (with_reducible refine (notes_any sb lb b7 1 2 N7 _ HKn.out.sto.sto (by have := HKn.out.sto.n32; omega)).mono ?_)
             rintro e w9 ⟨A9, c9, rfl, hown9, hb9⟩
             have HK8 := Lib.hid (HKn.out.notes hb9 (own_base hown9 HKn.out.bel.size) rfl)
             clear hown9 hb9 HKn)
          | (go_at_call 16; (with_reducible refine (open12 HK8.out.sto.dk HK8.out.op (by have := HLn.out; omega)).mono ?_)
             rintro e w10 ⟨sb2, lb2, ⟨T1, t1, u1, T2, t2, u2, T3, t3, u3⟩, A10, n10, c10, rfl, hS10, ho10, hn10, hl10, hb10, hlb10, hsb10⟩
             have hS10' := hS10 HK8.out.sto.okn
             have hK10 := HK8.out.below hb10
             have hlt10 := hK10.xlt
             try clear z0 z1 z2
             obtain ⟨z0, z1, z2⟩ := bx_cells hK10.xat (Below.refl _ _)
             have HK10 := Lib.hid hK10
             have HS10 := Lib.hid hS10'
             have HO10 := Lib.hid ho10
             have HN10 := Lib.hid hn10
             have HL10 := Lib.hid hl10
             have Hlo : Hid (w.heap.size ≤ lb2 ∧ w.heap.size ≤ sb2) := ⟨Nat.le_trans HK8.out.bel.size hlb10, Nat.le_trans HK8.out.bel.size hsb10⟩
             clear hS10 hS10' hK10 ho10 hn10 hl10 hb10 hlb10 hsb10 HK8)
          | (go_at_call 14; (with_reducible refine (same22_yes ⟨T1, t1, u1, T2, t2, u2, T3, t3, u3⟩ ⟨r.v.A1, r.v.n1, r.v.c1, r.v.A2, r.v.n2, r.v.c2, r.v.A3, r.v.n3, r.v.c3⟩ r.x A10 A9 n10 N7.length c10 c9 N7 _ (HO10.out.below (al_ w10 _)).toR (HK10.out.below (al_ w10 _)).toR (rds_of_own (own_below HN10.out (al_ w10 _)) HL10.out) (rds_of_own (own_below HK10.out.own (al_ w10 _)) HK10.out.len) (own_small HN10.out) (own_small HK10.out.own)).mono ?_)
             rintro e w11 ⟨rfl, hb11⟩
             have hb11' : Below w10.heap.size w10 w11 := (al_ w10 _).trans (hb11.mono (al_ w10 _).size)
             have HK11 := Lib.hid ((HK10.out.again HS10.out Hlo.out.1 Hlo.out.2).below hb11')
             clear hb11 hb11' HK10 HS10 HO10 HN10 HL10 z0 z1 z2 hlt10))
          go_roundg (gk - 1)
          case measure => omega
          case rel => exact ⟨j + 1, _, _, _, _, _, _, _, L7, N7, _, ⟨r.v.A1, r.v.n1, r.v.c1, r.v.A2, r.v.n2, r.v.c2, r.v.A3, r.v.n3, r.v.c3⟩, _, _, _, by omega, rfl, rfl, by go_num, by omega, by omega, by have := HLn.out; omega, HK11.out⟩
        · have HKn := Lib.hid (HSd.out.same hS7s hc7)
          clear hHeld hS7s hc7 HSd HS0
          rcases hen with rfl | rfl
          all_goals
            go_wp2_with (first
            | (go_at_call 19; (with_reducible refine (notes_any sb lb b7 1 2 N7 _ HKn.out.sto.sto (by have := HKn.out.sto.n32; omega)).mono ?_)
               rintro e w9 ⟨A9, c9, rfl, hown9, hb9⟩
               have HK8 := Lib.hid ((HKn.out.below hb9).notes (own_base hown9 HKn.out.bel.size) rfl)
               clear hown9 hb9 HKn)
            | (go_at_call 16; (with_reducible refine (open12 HK8.out.sto.dk HK8.out.op (by have := HLn.out; omega)).mono ?_)
               rintro e w10 ⟨sb2, lb2, ⟨T1, t1, u1, T2, t2, u2, T3, t3, u3⟩, A10, n10, c10, rfl, hS10, ho10, hn10, hl10, hb10, hlb10, hsb10⟩
               have hS10' := hS10 HK8.out.sto.okn
               have hK10 := HK8.out.below hb10
               have hlt10 := hK10.xlt
               try clear z0 z1 z2
               obtain ⟨z0, z1, z2⟩ := bx_cells hK10.xat (Below.refl _ _)
               have HK10 := Lib.hid hK10
               have HS10 := Lib.hid hS10'
               have HO10 := Lib.hid ho10
               have HN10 := Lib.hid hn10
               have HL10 := Lib.hid hl10
               have Hlo : Hid (w.heap.size ≤ lb2 ∧ w.heap.size ≤ sb2) := ⟨Nat.le_trans HK8.out.bel.size hlb10, Nat.le_trans HK8.out.bel.size hsb10⟩
               clear hS10 hS10' hK10 ho10 hn10 hl10 hb10 hlb10 hsb10 HK8)
            | (go_at_call 14; (with_reducible refine (same22_yes ⟨T1, t1, u1, T2, t2, u2, T3, t3, u3⟩ ⟨V1, v1, k1, V2, v2, k2, V3, v3, k3⟩ x A10 A9 n10 N7.length c10 c9 N7 _ (HO10.out.below (al_ w10 _)).toR (HK10.out.below (al_ w10 _)).toR (rds_of_own (own_below HN10.out (al_ w10 _)) HL10.out) (rds_of_own (own_below HK10.out.own (al_ w10 _)) HK10.out.len) (own_small HN10.out) (own_small HK10.out.own)).mono ?_)
               rintro e w11 ⟨rfl, hb11⟩
               have hb11' : Below w10.heap.size w10 w11 := (al_ w10 _).trans (hb11.mono (al_ w10 _).size)
               have HK11 := Lib.hid ((HK10.out.again HS10.out Hlo.out.1 Hlo.out.2).below hb11')
               clear hb11 hb11' HK10 HS10 HO10 HN10 HL10 z0 z1 z2 hlt10))
            go_roundg (gk - 1)
            case measure => omega
            case rel => exact ⟨j + 1, _, _, _, _, _, _, _, L7, N7, _, ⟨V1, v1, k1, V2, v2, k2, V3, v3, k3⟩, _, _, _, by omega, rfl, rfl, by go_num, by omega, by omega, by have := HLn.out; omega, HK11.out⟩
    · obtain rfl : j = n := by omega
      have hi0 : ¬ (j : Int) < (j : Int) := by omega
      have HB := Lib.hid hS.bel
      clear hS hk htu hj hlt hLn
      go_wp2_with fail
      go_ret
      exact ⟨ret_bool (by simp), HB.out⟩
end Go.Proofs.Ytcdgaeenfhpnkaa
