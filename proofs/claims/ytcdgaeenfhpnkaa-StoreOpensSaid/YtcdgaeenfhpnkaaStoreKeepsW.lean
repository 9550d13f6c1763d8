/- StoreKeeps: of all notes that were put, the last ones are kept. -/
import Derived.Test.YtcdgaeenfhpnkaaStU
set_option linter.unusedVariables false
set_option linter.unusedSimpArgs false
set_option maxRecDepth 100000
namespace Go.Proofs.Ytcdgaeenfhpnkaa
open Go Go.RowKit
attribute [local go_sem] Oper.semAt_some

theorem wf_u8' {a : Int} (h : (Lit.int .u8 a).wf = true) : 0 ≤ a ∧ a < 256 := by
  have := bounds_u8 h
  omega
/-- a statement's list of notes, its store, and what lies below -/
structure KpS (wb wr : World) (p q lb sb base m k half turn taken c e : Nat) (L : List (List Nat)) (N all : List Nt) (A : Option Addr) (n cap : Nat) : Prop where
  bel : Below wb.heap.size wb wr
  sto : Sto wr p q lb sb base m k half turn taken c e L N
  own : wr.ownsRow wb.heap.size 54 3 (.slice A n cap) n (all.flatMap Nt.cells)
  len : all.length = n
  eqN : N = lastN all
  lo : wb.heap.size ≤ p ∧ wb.heap.size ≤ q ∧ wb.heap.size ≤ lb ∧ wb.heap.size ≤ sb
section
variable {wb wr w' : World} {p q lb sb base m k half turn taken c e n cap : Nat} {L : List (List Nat)} {N all : List Nt} {A : Option Addr}
theorem KpS.four_lo (h : KpS wb wr p q lb sb base m k half turn taken c e L N all A n cap) : ∀ k, four p q lb sb k → wb.heap.size ≤ k := by
  rintro k (rfl | rfl | rfl | rfl)
  · exact h.lo.1
  · exact h.lo.2.1
  · exact h.lo.2.2.1
  · exact h.lo.2.2.2
theorem four_not (h : Sto wr p q lb sb base m k half turn taken c e L N) {T : TypeId} (h1 : 82 ≠ T) (h2 : 150 ≠ T) (h3 : 109 ≠ T) (h4 : 88 ≠ T) (g : Nat) (cur : Array Value) (fr : Nat × Nat) (hg : wr.heap[g]? = some (.cells cur T fr)) : ¬ four p q lb sb g := by
  intro hf
  have h5 := three_not h.dk h.at_ h1 h2 h3 g cur fr hg
  rcases hf with hf | hf | hf | hf
  · exact h5 (.inl hf)
  · exact h5 (.inr (.inl hf))
  · exact h5 (.inr (.inr hf))
  · subst hf
    obtain ⟨A, n, cap, hs, _⟩ := h.sto
    rw [hg] at hs
    injection hs with hs
    injection hs with _ h9
    exact h4 h9.symm
/-- a row of another place is turned, or is new -/
theorem Sto.chg {X : Nat → Prop} (h : Sto wr p q lb sb base m k half turn taken c e L N) (hc : Chg X wr w') (h1 : ∀ k, four p q lb sb k → ¬ X k) (h2 : ∀ k, X k → k < base) : Sto w' p q lb sb base m k half turn taken c e L N :=
  ⟨h.dk.keep (hc.at_ h.dk.pl (h1 p (.inl rfl))) (hc.at_ h.dk.ql (h1 q (.inr (.inl rfl)))), h.at_.keep (hc.at_ h.at_.lt (h1 lb (.inr (.inr (.inl rfl))))),
    h.sto.chg hc (h1 sb (.inr (.inr (.inr rfl)))) (fun g cur fr _ hg hx => by have := h2 g hx; omega), h.n32, h.okn, Nat.le_trans h.le hc.size, h.ne⟩
theorem KpS.below (h : KpS wb wr p q lb sb base m k half turn taken c e L N all A n cap) (hb : Below wr.heap.size wr w') : KpS wb w' p q lb sb base m k half turn taken c e L N all A n cap :=
  ⟨h.bel.trans (hb.mono h.bel.size), h.sto.below hb, own_below h.own hb, h.len, h.eqN, h.lo⟩
/-- Put turned nothing -/
theorem KpS.same {b' k' half' turn' taken' : Nat} (h : KpS wb wr p q lb sb base m k half turn taken c e L N all A n cap) (hs : Sto w' p q lb sb b' m k' half' turn' taken' c e L N) (hc : Chg (four p q lb sb) wr w') : KpS wb w' p q lb sb b' m k' half' turn' taken' c e L N all A n cap :=
  ⟨h.bel.trans (hc.below h.bel.size h.four_lo), hs, own_chg h.own hc (fun g cur fr hg _ => four_not h.sto (by decide) (by decide) (by decide) (by decide) g cur fr hg), h.len, h.eqN, h.lo⟩
/-- Put noted what happened: the list isn't yet longer -/
structure KpH (wb wr : World) (p q lb sb base m k half turn taken c e : Nat) (L : List (List Nat)) (N all : List Nt) (A : Option Addr) (n cap : Nat) : Prop where
  bel : Below wb.heap.size wb wr
  sto : Sto wr p q lb sb base m k half turn taken c e L N
  own : wr.ownsRow wb.heap.size 54 3 (.slice A n cap) n (all.flatMap Nt.cells)
  lt : ∀ g, (Value.slice A n cap).ownBlock = some g → g < base ∧ ¬ four p q lb sb g ∧ wb.heap.size ≤ g
  len : all.length = n
  lo : wb.heap.size ≤ p ∧ wb.heap.size ≤ q ∧ wb.heap.size ≤ lb ∧ wb.heap.size ≤ sb
theorem own_blk {W : World} {base e k n : Nat} {v : Value} {xs : List Value} (h : W.ownsRow base e k v n xs) : ∀ g, v.ownBlock = some g → base ≤ g ∧ g < W.heap.size ∧ ∃ cur, W.heap[g]? = some (.cells cur e (0, 0)) := by
  intro g hg
  rcases h.2 with ⟨rfl, _⟩ | ⟨g', cap, cur, rfl, hb, hc, _⟩
  · simp [Value.ownBlock] at hg
  · simp [Value.ownBlock] at hg
    subst hg
    exact ⟨hb, (Array.getElem?_eq_some_iff.1 hc).1, cur, hc⟩
theorem KpS.put {b' k' half' turn' taken' : Nat} {L' : List (List Nat)} {N' : List Nt} (h : KpS wb wr p q lb sb base m k half turn taken c e L N all A n cap) (hs : Sto w' p q lb sb b' m k' half' turn' taken' c e L' N') (hc : Chg (four p q lb sb) wr w') (hb : wr.heap.size ≤ b') : KpH wb w' p q lb sb b' m k' half' turn' taken' c e L' N' all A n cap :=
  ⟨h.bel.trans (hc.below h.bel.size h.four_lo), hs, own_chg h.own hc (fun g cur fr hg _ => four_not h.sto (by decide) (by decide) (by decide) (by decide) g cur fr hg), fun g hg => by
    obtain ⟨k1, k2, cur, k3⟩ := own_blk h.own g hg
    exact ⟨by omega, four_not h.sto (by decide) (by decide) (by decide) (by decide) g cur _ k3, k1⟩, h.len, h.lo⟩
theorem KpH.app {A' : Option Addr} {n' cap' : Nat} {all' : List Nt} (h : KpH wb wr p q lb sb base m k half turn taken c e L N all A n cap) (ho : w'.ownsRow wb.heap.size 54 3 (.slice A' n' cap') n' (all'.flatMap Nt.cells)) (hl : all'.length = n') (hN : N = lastN all') (hg : wr.grownBy w' (Value.slice A n cap).ownBlock) : KpS wb w' p q lb sb base m k half turn taken c e L N all' A' n' cap' := by
  have hc : Chg (fun g => (Value.slice A n cap).ownBlock = some g) wr w' := Chg.grown hg (fun g e => e)
  exact ⟨h.bel.trans (hc.below h.bel.size (fun k hk => (h.lt k hk).2.2)), h.sto.chg hc (fun k hk hx => (h.lt k hx).2.1 hk) (fun k hx => (h.lt k hx).1), ho, hl, hN, h.lo⟩
/-- a store on a new disk -/
theorem open_new (hd : DK wr p q m k half turn taken []) (hc : c ≤ 8) (he : e ≤ 8) : Calls Try.prog 16 #[.pointer (some ⟨p, 0, none⟩), .int .i64 c, .int .i64 e] wr (OpenOk p q m k half turn taken c e [] wr (zero0 c e, [])) :=
  openS_go c e p q m k half turn taken [] wr hd hc he (by simp)
end
set_option maxHeartbeats 8000000 in
theorem keeps_great (a : Int) (ha : 0 ≤ a) (ha' : a < 256) (v : StV) (A : Option Addr) (n c : Nat) (w : World) (hf : v.fit) (hn : n ≤ 140737488351232) (hg : 500 < v.n1 + v.n2 + v.n3 + 0 ∨ 100 < n) :
    Calls Try.prog 5 #[.int .u8 a, .agg #[.slice v.A1 v.n1 v.c1, .slice v.A2 v.n2 v.c2, .slice v.A3 v.n3 v.c3], .slice A n c] w fun e w' => e = .returned (.bool true) ∧ Below w.heap.size w w' := by
  obtain ⟨A1, n1, c1, A3, n3, c3, A4, n4, c4⟩ := v
  obtain ⟨wb, hwb⟩ : ∃ y, y = bxw w ⟨A1, n1, c1, A3, n3, c3, A4, n4, c4⟩ := ⟨_, rfl⟩
  have Hwb : Hid (wb = w.alloc (.cells #[.slice A1 n1 c1, .slice A3 n3 c3, .slice A4 n4 c4] 25)) := hwb
  have Hbx : Hid (∀ w', Below wb.heap.size wb w' → Bx w ⟨A1, n1, c1, A3, n3, c3, A4, n4, c4⟩ w') := fun w' h => by rw [hwb] at h; exact bxw_bx h
  have Hb0 : Hid (Below w.heap.size w wb) := by rw [hwb]; exact bxw_bel _ _
  have Hf : Hid (n1 ≤ 140737488351232 ∧ n3 ≤ 140737488351232 ∧ n4 ≤ 140737488351232) := hf
  clear hf hwb
  have hx : decide (500 < n1 + n3 + n4 + 0) = true ∨ decide (500 < n1 + n3 + n4 + 0) = false ∧ (100 : Int) < (n : Int) := by
    by_cases h : 500 < n1 + n3 + n4 + 0
    · exact .inl (decide_eq_true h)
    · exact .inr ⟨decide_eq_false h, by rcases hg with h1 | h1; exact absurd h1 h; omega⟩
  clear hg
  have hn' : n ≤ 9223372036854775807 := by omega
  rcases hx with h1 | ⟨h1, h2⟩
  all_goals
    have H1 := Lib.hid h1
    clear h1
    go_enter Try.func5, Try.ntmps5
    go_wp2_with (first
      | (rw [← Hwb.out]
         go_at_call 8; (with_reducible refine (head_any _).mono ?_)
         rintro e w1 ⟨rfl, hb1⟩
         have HW1 := Lib.hid hb1
         clear hb1)
      | (go_at_call 15; (with_reducible refine (lg_new w1 _).mono ?_)
         rintro e w2 ⟨rfl, hd2, hb2⟩
         have hw2 := HW1.out.trans (hb2.mono HW1.out.size)
         obtain ⟨z0, z1, z2⟩ := Hbx.out w2 hw2
         dsimp only at z0 z1 z2
         have HB2 : Hid (Below w.heap.size w w2) := Hb0.out.trans (hw2.mono Hb0.out.size)
         clear hd2 hb2 HW1 hw2)
      | (go_at_call 9; (with_reducible refine (greatState_any ⟨A1, n1, c1, A3, n3, c3, A4, n4, c4⟩ none 0 0 _ Hf.out.1 Hf.out.2.1 Hf.out.2.2 (Nat.zero_le _)).mono ?_)
         rintro e w3 ⟨he, hb3⟩
         dsimp only at he
         rw [H1.out] at he
         subst he
         have HB3 : Hid (Below w.heap.size w w3) := HB2.out.trans (hb3.mono HB2.out.size)
         clear hb3 HB2 z0 z1 z2))
    go_ret
    exact ⟨ret_bool (by simp), HB3.out⟩
set_option maxHeartbeats 8000000 in
theorem keeps_far (a : Int) (ha : 0 ≤ a) (ha' : a < 256) (v : StV) (A : Option Addr) (n c : Nat) (w : World) (hf : v.fit) (hn : n ≤ 100) (hg : v.n1 + v.n2 + v.n3 ≤ 500) (hfar : ¬ (v.n1 ≤ 8 ∧ v.n2 ≤ 8)) :
    Calls Try.prog 5 #[.int .u8 a, .agg #[.slice v.A1 v.n1 v.c1, .slice v.A2 v.n2 v.c2, .slice v.A3 v.n3 v.c3], .slice A n c] w fun e w' => e = .returned (.bool true) ∧ Below w.heap.size w w' := by
  obtain ⟨A1, n1, c1, A3, n3, c3, A4, n4, c4⟩ := v
  obtain ⟨wb, hwb⟩ : ∃ y, y = bxw w ⟨A1, n1, c1, A3, n3, c3, A4, n4, c4⟩ := ⟨_, rfl⟩
  have Hwb : Hid (wb = w.alloc (.cells #[.slice A1 n1 c1, .slice A3 n3 c3, .slice A4 n4 c4] 25)) := hwb
  have Hbx : Hid (∀ w', Below wb.heap.size wb w' → Bx w ⟨A1, n1, c1, A3, n3, c3, A4, n4, c4⟩ w') := fun w' h => by rw [hwb] at h; exact bxw_bx h
  have Hb0 : Hid (Below w.heap.size w wb) := by rw [hwb]; exact bxw_bel _ _
  have Hzb : Hid (w.heap.size < wb.heap.size) := by rw [hwb, bxw_size]; exact Nat.lt_succ_self _
  have Hf : Hid (n1 ≤ 140737488351232 ∧ n3 ≤ 140737488351232 ∧ n4 ≤ 140737488351232) := hf
  have H1 : Hid (decide (500 < n1 + n3 + n4 + 0) = false) := decide_eq_false (by dsimp only at hg; omega)
  obtain ⟨m, hm⟩ : ∃ m : Nat, m = (min (max a 1) 256).toNat := ⟨_, rfl⟩
  have Hm := Lib.hid hm
  have hn' : ¬ (100 : Int) < (n : Int) := by omega
  have Hfar : Hid (¬ (n1 ≤ 8 ∧ n3 ≤ 8)) := hfar
  have hx : (8 : Int) < (n1 : Int) ∨ ¬ (8 : Int) < (n1 : Int) ∧ (8 : Int) < (n3 : Int) := by dsimp only at hfar; omega
  have hq1 : n1 ≤ 9223372036854775807 := by have := Hf.out.1; omega
  have hq3 : n3 ≤ 9223372036854775807 := by have := Hf.out.2.1; omega
  clear hf hwb hg hfar hm
  rcases hx with h1 | ⟨h1, h2⟩
  all_goals
    go_enter Try.func5, Try.ntmps5
    go_wp2_with (first
      | (rw [← Hwb.out]
         go_at_call 8; (with_reducible refine (head_any _).mono ?_)
         rintro e w1 ⟨rfl, hb1⟩
         have HW1 := Lib.hid hb1
         clear hb1)
      | (go_at_call 15; (with_reducible refine (lg_new w1 _).mono ?_)
         rintro e w2 ⟨rfl, hd2, hb2⟩
         have hw2 := HW1.out.trans (hb2.mono HW1.out.size)
         obtain ⟨z0, z1, z2⟩ := Hbx.out w2 hw2
         dsimp only at z0 z1 z2
         rw [← Hm.out] at hd2
         have HD2 := Lib.hid hd2
         have HW2 := Lib.hid hw2
         have HS1 : Hid (wb.heap.size ≤ w1.heap.size) := HW1.out.size
         clear hd2 hb2 HW1 hw2)
      | (go_at_call 9; (with_reducible refine (greatState_any ⟨A1, n1, c1, A3, n3, c3, A4, n4, c4⟩ none 0 0 _ Hf.out.1 Hf.out.2.1 Hf.out.2.2 (Nat.zero_le _)).mono ?_)
         rintro e w3 ⟨he, hb3⟩
         dsimp only at he
         rw [H1.out] at he
         subst he
         clear z0 z1 z2
         have hw3 := HW2.out.trans (hb3.mono HW2.out.size)
         obtain ⟨z0, z1, z2⟩ := Hbx.out w3 hw3
         dsimp only at z0 z1 z2
         have HW3 := Lib.hid hw3
         have HD3 := Lib.hid (HD2.out.below hb3)
         clear hb3 HW2 HD2 hw3)
      | (go_at_call 16; (with_reducible refine (openS_arg n1 n3 _ _ m 0 0 1 0 [] _ HD3.out Hfar.out).mono ?_)
         rintro e w4 ⟨rfl, hd4, hb4⟩
         clear z0 z1 z2
         have hw4 := HW3.out.trans (hb4.mono HW3.out.size)
         obtain ⟨z0, z1, z2⟩ := Hbx.out w4 hw4
         dsimp only at z0 z1 z2
         have hlt4 : w.heap.size < w4.heap.size := Nat.lt_of_lt_of_le Hzb.out hw4.size
         have HB4 : Hid (Below w.heap.size w w4) := Hb0.out.trans (hw4.mono Hb0.out.size)
         clear hd4 hb4 HW3 hw4 HD3))
    go_ret
    exact ⟨ret_bool (by simp), HB4.out.trans ((al_ w4 _).mono HB4.out.size)⟩
theorem rel_keep {m c e taken en : Nat} {L L' : List (List Nat)} {N N' all l : List Nt} {x : St} (h : PutRel m c e taken L N x l en L' N') (hN : N = lastN all) : (en = 0 ∧ N' = lastN (all ++ l)) ∨ (en = 1 ∨ en = 5) ∧ L' = L ∧ N' = N := by
  rcases h with ⟨h1, _, h2, h3⟩ | ⟨_, _, ⟨h1, h2, _⟩ | ⟨h1, h2, h3, _⟩⟩
  · exact .inr ⟨.inl h1, h2, h3⟩
  · refine .inl ⟨h1, ?_⟩
    rw [h2, hN, lastN_app]
  · exact .inr ⟨.inr h1, h2, h3⟩
set_option maxHeartbeats 16000000 in
theorem keeps_go (a : Int) (ha : 0 ≤ a) (ha' : a < 256) (v : StV) (s : St) (A : Option Addr) (n c : Nat) (l : List Nsl) (w : World) (hf : v.fit) (hx : StR w w.heap.size v s) (hr : Nss w w.heap.size A n l) (hnc : n ≤ c) (hcm : c ≤ maxLen) (hn : n ≤ 100) (hg : v.n1 + v.n2 + v.n3 ≤ 500) (hnear : v.n1 ≤ 8 ∧ v.n2 ≤ 8) :
    Calls Try.prog 5 #[.int .u8 a, .agg #[.slice v.A1 v.n1 v.c1, .slice v.A2 v.n2 v.c2, .slice v.A3 v.n3 v.c3], .slice A n c] w fun e w' => e = .returned (.bool true) ∧ Below w.heap.size w w' := by
  obtain ⟨A1, n1, c1, A3, n3, c3, A4, n4, c4⟩ := v
  obtain ⟨wb, hwb⟩ : ∃ y, y = bxw w ⟨A1, n1, c1, A3, n3, c3, A4, n4, c4⟩ := ⟨_, rfl⟩
  have Hwb : Hid (wb = w.alloc (.cells #[.slice A1 n1 c1, .slice A3 n3 c3, .slice A4 n4 c4] 25)) := hwb
  have Hbx : Hid (∀ w', Below wb.heap.size wb w' → Bx w ⟨A1, n1, c1, A3, n3, c3, A4, n4, c4⟩ w') := fun w' h => by rw [hwb] at h; exact bxw_bx h
  have Hb0 : Hid (Below w.heap.size w wb) := by rw [hwb]; exact bxw_bel _ _
  have Hzb : Hid (w.heap.size < wb.heap.size) := by rw [hwb, bxw_size]; exact Nat.lt_succ_self _
  have Hf : Hid (n1 ≤ 140737488351232 ∧ n3 ≤ 140737488351232 ∧ n4 ≤ 140737488351232) := hf
  have H1 : Hid (decide (500 < n1 + n3 + n4 + 0) = false) := decide_eq_false (by dsimp only at hg; omega)
  have Hx := Lib.hid hx
  have Hr := Lib.hid hr
  obtain ⟨m, hm⟩ : ∃ m : Nat, m = (min (max a 1) 256).toNat := ⟨_, rfl⟩
  have Hm := Lib.hid hm
  have hn' : (n : Int) ≤ 100 := by omega
  have hq1 : n1 ≤ 8 := hnear.1
  have hq3 : n3 ≤ 8 := hnear.2
  obtain ⟨i0, hi, hz0, hz1, hz2⟩ := info_parts info_nt
  clear hf hwb hg hnear hm hx hr
  go_enter Try.func5, Try.ntmps5
  go_wp2_with (first
    | (rw [← Hwb.out]
       go_at_call 8; (with_reducible refine (head_any _).mono ?_)
       rintro e w1 ⟨rfl, hb1⟩
       have HW1 := Lib.hid hb1
       clear hb1)
    | (go_at_call 15; (with_reducible refine (lg_new w1 _).mono ?_)
       rintro e w2 ⟨rfl, hd2, hb2⟩
       have hw2 := HW1.out.trans (hb2.mono HW1.out.size)
       obtain ⟨z0, z1, z2⟩ := Hbx.out w2 hw2
       dsimp only at z0 z1 z2
       rw [← Hm.out] at hd2
       have HD2 := Lib.hid hd2
       have HW2 := Lib.hid hw2
       have HS1 : Hid (wb.heap.size ≤ w1.heap.size) := HW1.out.size
       clear hd2 hb2 HW1 hw2)
    | (go_at_call 9; (with_reducible refine (greatState_any ⟨A1, n1, c1, A3, n3, c3, A4, n4, c4⟩ none 0 0 _ Hf.out.1 Hf.out.2.1 Hf.out.2.2 (Nat.zero_le _)).mono ?_)
       rintro e w3 ⟨he, hb3⟩
       dsimp only at he
       rw [H1.out] at he
       subst he
       clear z0 z1 z2
       have hw3 := HW2.out.trans (hb3.mono HW2.out.size)
       obtain ⟨z0, z1, z2⟩ := Hbx.out w3 hw3
       dsimp only at z0 z1 z2
       have HW3 := Lib.hid hw3
       have HD3 := Lib.hid (HD2.out.below hb3)
       clear hb3 HW2 HD2 hw3)
    | (go_at_call 16; (with_reducible refine (open_new HD3.out hq1 hq3).mono ?_)
       rintro e w4 ⟨sb, lb, ⟨P1, p1, r1, P2, p2, r2, P3, p3, r3⟩, A5, n5, c5, rfl, hS4, ho4, hn4, hl4, hb4, hlb, hsb⟩
       have hS4' := hS4 (by intro x hx; simp at hx)
       have hw4 := HW3.out.trans (hb4.mono HW3.out.size)
       have hs3 := HW3.out.size
       have hsa := HS1.out
       obtain ⟨p, hp⟩ : ∃ p, p = w1.heap.size + 1 := ⟨_, rfl⟩
       obtain ⟨q, hq⟩ : ∃ q, q = w1.heap.size := ⟨_, rfl⟩
       have hK : KpS wb w4 p q lb sb w3.heap.size m 0 0 1 0 n1 n3 [] [] [] none 0 0 := ⟨hw4, by rw [hp, hq]; exact hS4', w4.ownsRow_nil _ _ _, rfl, rfl, by omega, by omega, by omega, by omega⟩
       have HK4 := Lib.hid (hK.below (al_ w4 (.cells #[.slice P1 p1 r1, .slice P2 p2 r2, .slice P3 p3 r3] 25)))
       clear z0 z1 z2 hS4 hS4' ho4 hn4 hl4 hb4 hlb hsb hw4 hs3 hsa hp hq hK HW3 HD3 HS1))
  go_loopg [13, 14] n (fun qq va i wr => ∃ (j k half turn taken base : Nat) (L : List (List Nat)) (N all : List Nt) (Aa : Option Addr) (na ca : Nat), qq + j = n ∧ va = .slice Aa na ca ∧ i = .int .i64 j ∧ k ≤ 16 * j ∧ turn ≤ 1 + j ∧ na ≤ 500 * j ∧ KpS wb wr p q lb sb base m k half turn taken n1 n3 L N all Aa na ca)
  case atStart => exact ⟨0, 0, 0, 1, 0, _, [], [], [], none, 0, 0, by omega, rfl, rfl, by omega, by omega, by omega, HK4.out⟩
  case round =>
    clear HK4
    obtain ⟨j, k, half, turn, taken, base, L, N, all, Aa, na, ca, hj, rfl, rfl, hk, htu, hna, hS⟩ := hrel
    have hbw : Below w.heap.size w wr := Hb0.out.trans (hS.bel.mono Hb0.out.size)
    by_cases hlt : j < n
    · have hi0 : (0 : Int) ≤ (j : Int) := by omega
      have hi1 : (j : Int) < (n : Int) := by omega
      have hrr := Hr.out.below hbw
      obtain ⟨bb, o, rfl, hbB, hc⟩ := hrr.1.2 (by omega)
      obtain ⟨r, hr1⟩ : ∃ r, l[j]? = some r := ⟨_, List.getElem?_eq_getElem (by have := hrr.1.1; omega)⟩
      have c0 := hc j r hr1 0 (.slice r.A r.len r.cap) rfl
      rw [Nat.mul_one, Nat.add_zero] at c0
      obtain ⟨rb, ⟨rlt, rcm⟩, rlen⟩ := hrr.2 r (List.mem_of_getElem? hr1)
      have hl63 : r.len ≤ 9223372036854775807 := by omega
      have HSr := Lib.hid hS
      have HRb := Lib.hid rb
      have Hbw := Lib.hid hbw
      clear hc hr1 hrr hS rb
      by_cases hl500 : (r.len : Int) ≤ 500
      rotate_left
      · go_wp2_with fail
        go_ret
        exact ⟨ret_bool (by simp), Hbw.out⟩
      have Hcell : Hid (∀ w', Below w.heap.size wr w' → w'.cell? ⟨bb, o + j, none⟩ = some (.slice r.A r.len r.cap)) := fun w' h => (h.cell (p := ⟨bb, o + j, none⟩) hbB).trans c0
      have hd : Below wr.heap.size wr wr.drew := (Below.refl _ _).drew
      have hz := Hbx.out wr.drew (HSr.out.bel.trans (hd.mono HSr.out.bel.size))
      have hS0 : wr.drew.cell? ⟨w.heap.size, 0, none⟩ = some (.slice A1 n1 c1) ∧ wr.drew.cell? ⟨w.heap.size, 1, none⟩ = some (.slice A3 n3 c3) ∧ wr.drew.cell? ⟨w.heap.size, 2, none⟩ = some (.slice A4 n4 c4) ∧ wr.drew.cell? ⟨bb, o + j, none⟩ = some (.slice r.A r.len r.cap) := ⟨hz.1, hz.2.1, hz.2.2, Hcell.out _ (hd.mono Hbw.out.size)⟩
      have HS0 := Lib.hid hS0
      have HSd := Lib.hid (HSr.out.below hd)
      have HRd := Lib.hid (HRb.out.below (hd.mono Hbw.out.size))
      have Hbd : Hid (Below w.heap.size w wr.drew) := Hbw.out.trans (hd.mono Hbw.out.size)
      clear hz hS0 hd
      go_wp2_with fail
      refine startH (fun w' => w'.cell? ⟨w.heap.size, 0, none⟩ = some (.slice A1 n1 c1) ∧ w'.cell? ⟨w.heap.size, 1, none⟩ = some (.slice A3 n3 c3) ∧ w'.cell? ⟨w.heap.size, 2, none⟩ = some (.slice A4 n4 c4) ∧ w'.cell? ⟨bb, o + j, none⟩ = some (.slice r.A r.len r.cap)) 8 #[false, false, false, false, false, false, false, false] rfl rfl (by kernel_rfl) ?_ (fun hHeld => ?_)
      · (first | exact HS0.out | exact hHeld | exact hS7)
      refine takeH 0 82 #[true, false, false, false, false, false, false, false] (v := ?_) rfl rfl rfl (by kernel_rfl) (by kernel_rfl) (by kernel_rfl) (fun _ _ _ h => h) (Or.inl ⟨by rfl, ?_⟩) hHeld ?_
      rotate_left
      · (intro w' hSw; (try dsimp only at hSw); go_simp; (try with_reducible rfl))
      simp only [List.set_cons_zero, List.set_cons_succ]
      refine takeH 1 83 #[true, true, false, false, false, false, false, false] (v := ?_) rfl rfl rfl (by kernel_rfl) (by kernel_rfl) (by kernel_rfl) (fun _ _ _ h => h) (Or.inl ⟨by rfl, ?_⟩) hHeld ?_
      rotate_left
      · (intro w' hSw; (try dsimp only at hSw); go_simp; (try with_reducible rfl))
      simp only [List.set_cons_zero, List.set_cons_succ]
      refine takeH 2 84 #[true, true, true, false, false, false, false, false] (v := ?_) rfl rfl rfl (by kernel_rfl) (by kernel_rfl) (by kernel_rfl) (fun _ _ _ h => h) (Or.inl ⟨by rfl, ?_⟩) hHeld ?_
      rotate_left
      · (intro w' hSw; (try dsimp only at hSw); go_simp; (try with_reducible rfl))
      simp only [List.set_cons_zero, List.set_cons_succ]
      refine takeH 3 85 #[true, true, true, true, false, false, false, false] (v := ?_) rfl rfl rfl (by kernel_rfl) (by kernel_rfl) (by kernel_rfl) (fun _ _ _ h => h) (Or.inl ⟨by rfl, ?_⟩) hHeld ?_
      rotate_left
      · (intro w' hSw; (try dsimp only at hSw); go_simp; (try with_reducible rfl))
      simp only [List.set_cons_zero, List.set_cons_succ]
      refine takeH 4 86 #[true, true, true, true, true, false, false, false] (v := ?_) rfl rfl rfl (by kernel_rfl) (by kernel_rfl) (by kernel_rfl) (fun _ _ _ h => h) (Or.inl ⟨by rfl, ?_⟩) hHeld ?_
      rotate_left
      · (intro w' hSw; (try dsimp only at hSw); go_simp; (try with_reducible rfl))
      simp only [List.set_cons_zero, List.set_cons_succ]
      refine takeH 5 87 #[true, true, true, true, true, true, false, false] (v := ?_) rfl rfl rfl (by kernel_rfl) (by kernel_rfl) (by kernel_rfl) (fun _ _ _ h => h) (Or.inl ⟨by rfl, ?_⟩) hHeld ?_
      rotate_left
      · (intro w' hSw; (try dsimp only at hSw); go_simp; (try with_reducible rfl))
      simp only [List.set_cons_zero, List.set_cons_succ]
      refine branchH 6 88 #[true, true, true, true, true, true, true, false] (by kernel_rfl) rfl rfl rfl (by rfl) (fun K hK => ?_)
      go_simp
      (go_at_call 17; (with_reducible refine (put_any sb lb p q base m k half turn taken n1 n3 L N ⟨A1, n1, c1, A3, n3, c3, A4, n4, c4⟩ s r.A r.len r.cap w.heap.size r.l _ HSd.out.sto (Hx.out.below Hbd.out) HRd.out ⟨Hbd.out.size, by have := HSd.out.lo; have := Hzb.out; omega, by have := HSd.out.lo; have := Hzb.out; omega, by have := HSd.out.lo; have := Hzb.out; omega⟩ (by unfold maxLen; omega) (by omega) (by omega)).mono ?_))
      rintro e w7 ⟨en, half7, turn7, taken7, L7, N7, b7, rfl, hS7s, ht7, hc7, hrel7, hb7, hb7'⟩
      have hz := Hbx.out w7 (HSd.out.bel.trans (hc7.below HSd.out.bel.size HSd.out.four_lo))
      have hbx7 : Below w.heap.size wr.drew w7 := hc7.below Hbd.out.size (fun k hk => by have := HSd.out.four_lo k hk; have := Hzb.out; omega)
      have hS7 : w7.cell? ⟨w.heap.size, 0, none⟩ = some (.slice A1 n1 c1) ∧ w7.cell? ⟨w.heap.size, 1, none⟩ = some (.slice A3 n3 c3) ∧ w7.cell? ⟨w.heap.size, 2, none⟩ = some (.slice A4 n4 c4) ∧ w7.cell? ⟨bb, o + j, none⟩ = some (.slice r.A r.len r.cap) := ⟨hz.1, hz.2.1, hz.2.2, Hcell.out _ (((Below.refl wr.heap.size wr).drew.mono Hbw.out.size).trans hbx7)⟩
      have HR7 := Lib.hid (HRd.out.below hbx7)
      have Hrel := Lib.hid (And.intro hS7s (And.intro hc7 (And.intro (rel_keep hrel7 HSd.out.eqN) hb7')))
      have hturn7 : turn7 ≤ 1 + (j + 1) := by omega
      clear hz hS7s hc7 hrel7 hb7 hb7' hbx7 ht7
      refine hK.out _ _ ?_ (fun hHeld' => ?_)
      · (first | exact HS0.out | exact hHeld | exact hS7)
      clear hK K hHeld
      have hHeld := hHeld'
      clear hHeld'
      simp only [List.set_cons_zero, List.set_cons_succ]
      refine takeH 7 15 #[true, true, true, true, true, true, true, true] (v := ?_) rfl rfl rfl (by kernel_rfl) (by kernel_rfl) (by kernel_rfl) (fun _ _ _ h => h) (Or.inl ⟨by rfl, ?_⟩) hHeld ?_
      rotate_left
      · (intro w' hSw; (try dsimp only at hSw); go_simp; (try with_reducible rfl))
      simp only [List.set_cons_zero, List.set_cons_succ]
      refine wpAnyH_done (by kernel_rfl) ?_ _
      refine NoPanic.normal ?_
      have hcc := hHeld.2.2.2
      obtain ⟨hS7s, hc7, hrel7, hb7'⟩ := Hrel.out
      clear hHeld Hrel
      rcases hrel7 with ⟨rfl, hN7⟩ | ⟨hen, rfl, rfl⟩
      · have HKH := Lib.hid (HSd.out.put hS7s hc7 (hb7' rfl))
        obtain ⟨n', hn''⟩ : ∃ x, x = na + r.len := ⟨_, rfl⟩
        obtain ⟨all', hall⟩ : ∃ x, x = all ++ r.l := ⟨_, rfl⟩
        have hnB : n' ≤ 500 * (j + 1) := by omega
        have hnI : (n' : Int) ≤ 60000 := by omega
        have HN7 : Hid (N7 = lastN all') := by rw [hall]; exact hN7
        have Hn := Lib.hid hn''
        have Hall := Lib.hid hall
        have Hlen : Hid (all'.length = n') := by show _ = _; rw [hall, hn'', List.length_append, HKH.out.len, HR7.out.1]
        clear hS7s hc7 hN7 hb7' hn'' hall HSd HRd HSr HRb Hbd HS0
        by_cases hs : (n' : Int) < 32
        · have Heq : Hid (N7 = all') := HN7.out.trans (lastN_small (by rw [Hlen.out]; omega))
          go_wp2_with (first
          | (at_builtin
             refine wpList_app _ rfl (.tmp 91) (.tmp 95) 26 rfl wb.heap.size 54 i0 (.agg #[.int .i64 0, .int .i64 0, .int .i64 0]) 3 24 Try.underlying26 hi hz0 hz1 hz2 rfl (by omega) (.slice Aa na ca) na (all.flatMap Nt.cells) rfl HKH.out.own w.heap.size r.A r.len r.cap (r.l.flatMap Nt.cells) rfl (rds_rd HR7.out) (cells_one r.l) ?g1 ?g2 ?g3 ?_
             case g1 => unfold maxLen; omega
             case g2 => omega
             case g3 => exact HKH.out.bel.size
             intro v' w8 hown8 hg8 hat8
             rw [← Hn.out, ← List.flatMap_append, ← Hall.out] at hown8
             obtain ⟨A8, c8, rfl⟩ := own_shape hown8
             have hK8 := HKH.out.app hown8 (by rw [Hall.out, Hn.out, List.length_append, HKH.out.len, HR7.out.1]) HN7.out hg8
             have HK8 := Lib.hid hK8
             have hc8 := own_max hown8
             clear hown8 hg8 hat8 hK8 HKH)
          | (go_at_call 19; (with_reducible refine (notes_any sb lb b7 n1 n3 N7 _ HK8.out.sto.sto (by have := HK8.out.sto.n32; omega)).mono ?_)
             rintro e w9 ⟨A9, c9, rfl, hown9, hb9⟩
             have HO9 := Lib.hid hown9
             have HK9 := Lib.hid (HK8.out.below hb9)
             have HL9 := Lib.hid (rds_of_own (own_below HK8.out.own hb9) HK8.out.len)
             have hn32 : N7.length ≤ maxLen := by have := HK8.out.sto.n32; unfold maxLen; omega
             clear hown9 hb9)
          | (go_at_call 18; (with_reducible refine (same_nt A9 A8 N7.length n' c9 _ N7 all' w9 (rds_of_own HO9.out rfl) HL9.out hn32 (by unfold maxLen; omega)).mono ?_)
             rintro e w10 ⟨he, hb10⟩
             rw [decide_eq_true Heq.out] at he
             subst he
             have HK10 := Lib.hid (HK9.out.below hb10)
             clear hb10 HK9 HO9 HL9 HK8))
          all_goals
            go_roundg (gk - 1)
            case measure => omega
            case rel =>
              try subst_vars
              exact ⟨j + 1, _, _, _, _, _, _, _, _, _, _, _, by omega, rfl, by go_num, by omega, by omega, by omega, HK10.out⟩
        · obtain ⟨d, hd⟩ : ∃ d, d = n' - 32 := ⟨_, rfl⟩
          have hd1 : d < n' := by omega
          have hdT : ((n' : Int) - 32).toNat = d := by omega
          have hdJ : ¬ (d : Int) < 0 := by omega
          have Heq : Hid (N7 = all'.drop d) := by
            have h := HN7.out
            unfold lastN at h
            rw [Hlen.out, ← hd] at h
            exact h
          clear hd
          go_wp2_with (first
          | (at_builtin
             refine wpList_app _ rfl (.tmp 91) (.tmp 95) 26 rfl wb.heap.size 54 i0 (.agg #[.int .i64 0, .int .i64 0, .int .i64 0]) 3 24 Try.underlying26 hi hz0 hz1 hz2 rfl (by omega) (.slice Aa na ca) na (all.flatMap Nt.cells) rfl HKH.out.own w.heap.size r.A r.len r.cap (r.l.flatMap Nt.cells) rfl (rds_rd HR7.out) (cells_one r.l) ?g1 ?g2 ?g3 ?_
             case g1 => unfold maxLen; omega
             case g2 => omega
             case g3 => exact HKH.out.bel.size
             intro v' w8 hown8 hg8 hat8
             rw [← Hn.out, ← List.flatMap_append, ← Hall.out] at hown8
             obtain ⟨A8, c8, rfl⟩ := own_shape hown8
             have hK8 := HKH.out.app hown8 (by rw [Hall.out, Hn.out, List.length_append, HKH.out.len, HR7.out.1]) HN7.out hg8
             have HK8 := Lib.hid hK8
             have hc8 := own_max hown8
             obtain ⟨b9, o9, rfl, hrd8⟩ := rds_drop (c := c8) (rds_of_own hown8 Hlen.out) hd1
             have Hrd8 := Lib.hid hrd8
             clear hrd8
             clear hown8 hg8 hat8 hK8 HKH)
          | (go_at_call 19; (with_reducible refine (notes_any sb lb b7 n1 n3 N7 _ HK8.out.sto.sto (by have := HK8.out.sto.n32; omega)).mono ?_)
             rintro e w9 ⟨A9, c9, rfl, hown9, hb9⟩
             have HO9 := Lib.hid hown9
             have HK9 := Lib.hid (HK8.out.below hb9)
             have HL9 := Lib.hid ((Hrd8.out.below hb9).more hb9.size)
             have hn32 : N7.length ≤ maxLen := by have := HK8.out.sto.n32; unfold maxLen; omega
             clear hown9 hb9)
          | (go_at_call 18; (with_reducible refine (same_nt A9 (some ⟨b9, o9 + d * 3, none⟩) N7.length (n' - d) c9 (c8 - d) N7 (all'.drop d) w9 (rds_of_own HO9.out rfl) HL9.out hn32 (by unfold maxLen; omega)).mono ?_)
             rintro e w10 ⟨he, hb10⟩
             rw [decide_eq_true Heq.out] at he
             subst he
             have HK10 := Lib.hid (HK9.out.below hb10)
             clear hb10 HK9 HO9 HL9 HK8))
          all_goals
            go_roundg (gk - 1)
            case measure => omega
            case rel =>
              try subst_vars
              exact ⟨j + 1, _, _, _, _, _, _, _, _, _, _, _, by omega, rfl, by go_num, by omega, by omega, by omega, HK10.out⟩
      · have HK8 := Lib.hid (HSd.out.same hS7s hc7)
        have hnI : (na : Int) ≤ 60000 := by omega
        have Hlen := Lib.hid HSd.out.len
        have hc8 := own_max HSd.out.own
        have HN7 := Lib.hid HSd.out.eqN
        have hena : ((en : Int) == 0) = false ∧ ((en : Int) == 101) = false := by
          rcases hen with rfl | rfl <;> exact ⟨rfl, rfl⟩
        obtain ⟨hen0, hen1⟩ := hena
        clear hS7s hc7 hb7' HSd HRd HSr HRb Hbd HS0 HR7 hen
        by_cases hs : (na : Int) < 32
        · have Heq : Hid (N7 = all) := HN7.out.trans (lastN_small (by rw [Hlen.out]; omega))
          go_wp2_with (first
          | (go_at_call 19; (with_reducible refine (notes_any sb lb b7 n1 n3 N7 _ HK8.out.sto.sto (by have := HK8.out.sto.n32; omega)).mono ?_)
             rintro e w9 ⟨A9, c9, rfl, hown9, hb9⟩
             have HO9 := Lib.hid hown9
             have HK9 := Lib.hid (HK8.out.below hb9)
             have HL9 := Lib.hid (rds_of_own (own_below HK8.out.own hb9) HK8.out.len)
             have hn32 : N7.length ≤ maxLen := by have := HK8.out.sto.n32; unfold maxLen; omega
             clear hown9 hb9)
          | (go_at_call 18; (with_reducible refine (same_nt A9 Aa N7.length na c9 _ N7 all w9 (rds_of_own HO9.out rfl) HL9.out hn32 (by unfold maxLen; omega)).mono ?_)
             rintro e w10 ⟨he, hb10⟩
             rw [decide_eq_true Heq.out] at he
             subst he
             have HK10 := Lib.hid (HK9.out.below hb10)
             clear hb10 HK9 HO9 HL9 HK8))
          all_goals
            go_roundg (gk - 1)
            case measure => omega
            case rel =>
              try subst_vars
              exact ⟨j + 1, _, _, _, _, _, _, _, _, _, _, _, by omega, rfl, by go_num, by omega, by omega, by omega, HK10.out⟩
        · obtain ⟨d, hd⟩ : ∃ d, d = na - 32 := ⟨_, rfl⟩
          have hd1 : d < na := by omega
          have hdT : ((na : Int) - 32).toNat = d := by omega
          have hdJ : ¬ (d : Int) < 0 := by omega
          have Heq : Hid (N7 = all.drop d) := by
            have h := HN7.out
            unfold lastN at h
            rw [Hlen.out, ← hd] at h
            exact h
          obtain ⟨b9, o9, hAa, hrd8⟩ := rds_drop (c := ca) (rds_of_own HK8.out.own Hlen.out) hd1
          have Hrd8 := Lib.hid hrd8
          subst hAa
          clear hd hrd8
          go_wp2_with (first
          | (go_at_call 19; (with_reducible refine (notes_any sb lb b7 n1 n3 N7 _ HK8.out.sto.sto (by have := HK8.out.sto.n32; omega)).mono ?_)
             rintro e w9 ⟨A9, c9, rfl, hown9, hb9⟩
             have HO9 := Lib.hid hown9
             have HK9 := Lib.hid (HK8.out.below hb9)
             have HL9 := Lib.hid ((Hrd8.out.below hb9).more hb9.size)
             have hn32 : N7.length ≤ maxLen := by have := HK8.out.sto.n32; unfold maxLen; omega
             clear hown9 hb9)
          | (go_at_call 18; (with_reducible refine (same_nt A9 (some ⟨b9, o9 + d * 3, none⟩) N7.length (na - d) c9 (ca - d) N7 (all.drop d) w9 (rds_of_own HO9.out rfl) HL9.out hn32 (by unfold maxLen; omega)).mono ?_)
             rintro e w10 ⟨he, hb10⟩
             rw [decide_eq_true Heq.out] at he
             subst he
             have HK10 := Lib.hid (HK9.out.below hb10)
             clear hb10 HK9 HO9 HL9 HK8))
          all_goals
            go_roundg (gk - 1)
            case measure => omega
            case rel =>
              try subst_vars
              exact ⟨j + 1, _, _, _, _, _, _, _, _, _, _, _, by omega, rfl, by go_num, by omega, by omega, by omega, HK10.out⟩
    · obtain rfl : j = n := by omega
      have hi0 : ¬ (j : Int) < (j : Int) := by omega
      have HB := Lib.hid hbw
      clear hS hk htu hj hlt hbw hna
      go_wp2_with fail
      go_ret
      exact ⟨ret_bool (by simp), HB.out⟩
theorem keeps_walk (a : Int) (vv : Value) (z : StV × St) (A : Option Addr) (n c : Nat) (l : List Nsl) (w : World) (hw : (Lit.int .u8 a).wf = true) (h0 : vv = .agg #[.slice z.1.A1 z.1.n1 z.1.c1, .slice z.1.A2 z.1.n2 z.1.c2, .slice z.1.A3 z.1.n3 z.1.c3] ∧ StR w w.heap.size z.1 z.2 ∧ z.1.fit)
    (h1 : Nss w w.heap.size A n l ∧ (n ≤ c ∧ c ≤ maxLen) ∧ n ≤ 140737488351232) :
    Calls Try.prog 5 #[.int .u8 a, vv, .slice A n c] w fun e w' => e = .returned (.bool true) ∧ Below w.heap.size w w' := by
  obtain ⟨rfl, hx, hf⟩ := h0
  obtain ⟨q1, q2⟩ := wf_u8' hw
  by_cases hg : 500 < z.1.n1 + z.1.n2 + z.1.n3 + 0 ∨ 100 < n
  · exact keeps_great a q1 q2 z.1 A n c w hf h1.2.2 hg
  · by_cases hn : z.1.n1 ≤ 8 ∧ z.1.n2 ≤ 8
    · exact keeps_go a q1 q2 z.1 z.2 A n c l w hf hx h1.1 h1.2.1.1 h1.2.1.2 (by omega) (by omega) hn
    · exact keeps_far a q1 q2 z.1 A n c w hf (by omega) (by omega) hn
end Go.Proofs.Ytcdgaeenfhpnkaa
