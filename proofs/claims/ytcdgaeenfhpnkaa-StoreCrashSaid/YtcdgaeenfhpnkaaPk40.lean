/- The document's reader of a record, walked: bytes that may be some. -/
import Derived.Test.YtcdgaeenfhpnkaaPk39
set_option linter.unusedVariables false
set_option linter.unusedSimpArgs false
set_option maxRecDepth 100000
namespace Go.Proofs.Ytcdgaeenfhpnkaa
open Go Go.RowKit
attribute [local go_sem] Oper.semAt_some

theorem ba_loop (bs : ByteArray) : ∀ (n i : Nat) (r : List UInt8), bs.size - i = n → ByteArray.toList.loop bs i r = r.reverse ++ bs.data.toList.drop i
  | 0, i, r, h => by
    rw [ByteArray.toList.loop, if_neg (by omega), List.drop_of_length_le (by have : bs.data.toList.length = bs.size := by simp
                                                                             omega), List.append_nil]
  | n + 1, i, r, h => by
    have hi : i < bs.size := by omega
    have hl : i < bs.data.toList.length := by
      have : bs.data.toList.length = bs.size := by simp
      omega
    rw [ByteArray.toList.loop, if_pos hi, ba_loop bs n (i + 1) _ (by omega), List.reverse_cons, List.append_assoc, List.drop_eq_getElem_cons hl]
    congr 1
    show [bs.get! i] ++ _ = _
    rw [List.singleton_append]
    congr 1
    have : i < bs.data.size := hi
    show bs.data[i]! = bs.data.toList[i]
    rw [getElem!_pos bs.data i this]
    simp
theorem ba_toList (bs : ByteArray) : bs.toList = bs.data.toList := by
  unfold ByteArray.toList
  rw [ba_loop bs _ 0 [] rfl]
  simp
theorem bstr_ne {a b : List Nat} (h : ¬ bstr a = bstr b) : ((bstr a).toList == (bstr b).toList) = false := by
  rw [beq_eq_false_iff_ne]
  intro e
  apply h
  rw [ba_toList, ba_toList] at e
  have e2 : (bstr a).data = (bstr b).data := Array.toList_inj.1 e
  unfold bstr at e2 ⊢
  exact congrArg ByteArray.mk e2
/-- while it is read: the result's box, and that of the state that is built -/
structure YS (w W : World) (cs : Array Value) : Prop where
  bel : Below w.heap.size w W
  res : W.heap[w.heap.size]? = some (.cells #[.slice none 0 0, .slice none 0 0, .slice none 0 0] 25)
  xat : W.heap[w.heap.size + 1]? = some (.cells cs 25)
section
variable {w W W' : World} {cs : Array Value} {j : Nat}
theorem YS.lt (h : YS w W cs) : w.heap.size + 1 < W.heap.size := (Array.getElem?_eq_some_iff.1 h.xat).1
theorem YS.below (h : YS w W cs) (hb : Below W.heap.size W W') : YS w W' cs :=
  ⟨h.bel.trans (hb.mono h.bel.size), (hb.block _ (by have := h.lt; omega)).trans h.res, (hb.block _ h.lt).trans h.xat⟩
theorem YS.set (h : YS w W cs) (u : Value) : YS w (W.setCell ⟨w.heap.size + 1, j, none⟩ u) (cs.setIfInBounds j u) :=
  ⟨(chg_set (X := fun k => k = w.heap.size + 1) (Chg.refl _ _) rfl |>.below (B := w.heap.size) h.bel.size (fun k hk => by have : k = w.heap.size + 1 := hk; omega) |> h.bel.trans), heap_set_other u h.res (by omega), heap_set_same u h.xat⟩
theorem YS.grown {row : Option Nat} (h : YS w W cs) (hg : W.grownBy W' row) (hr : ∀ g, row = some g → w.heap.size + 2 ≤ g) : YS w W' cs := by
  have hb : Below (w.heap.size + 2) W W' := (Below.refl _ _).grown hg (by have := h.lt; omega) hr
  exact ⟨h.bel.trans (hb.mono (by omega)), (hb.block _ (by omega)).trans h.res, (hb.block _ (by omega)).trans h.xat⟩
theorem YS.cells {a b c : Value} (h : YS w W #[a, b, c]) : (W.cell? ⟨w.heap.size + 1, 0, none⟩ = some a ∧ W.cell? ⟨w.heap.size + 1, 1, none⟩ = some b ∧ W.cell? ⟨w.heap.size + 1, 2, none⟩ = some c) ∧ (W.frozen? ⟨w.heap.size + 1, 0, none⟩ = false ∧ W.frozen? ⟨w.heap.size + 1, 1, none⟩ = false ∧ W.frozen? ⟨w.heap.size + 1, 2, none⟩ = false) := by
  have n0 := cell_of_row _ _ 0 _ _ _ h.xat
  have n1 := cell_of_row _ _ 1 _ _ _ h.xat
  have n2 := cell_of_row _ _ 2 _ _ _ h.xat
  simp at n0 n1 n2
  exact ⟨⟨n0, n1, n2⟩, frozen_of_row _ _ 0 _ _ h.xat, frozen_of_row _ _ 1 _ _ h.xat, frozen_of_row _ _ 2 _ _ h.xat⟩
theorem Rd.dropn {B n g o i : Nat} {b : List Nat} (h : Rd w B 1 (some ⟨g, o, none⟩) n (b.map bv)) (hi : i ≤ n) : Rd w B 1 (some ⟨g, o + i, none⟩) (n - i) ((b.drop i).map bv) := by
  have hl : b.length = n := by have := h.1; simpa using this
  have := h.piece i (n - i) (by omega)
  rwa [List.take_of_length_le (by rw [List.length_drop]; omega)] at this
end
theorem YS.start (w : World) : YS w ((w.alloc (.cells #[.slice none 0 0, .slice none 0 0, .slice none 0 0] 25)).alloc (.cells #[.slice none 0 0, .slice none 0 0, .slice none 0 0] 25)) #[.slice none 0 0, .slice none 0 0, .slice none 0 0] :=
  ⟨(al_ w _).trans ((al_ _ _).mono (al_ w _).size), heap_alloc_keep _ (heap_alloc_new w _), by
    have := heap_alloc_new (w.alloc (.cells #[.slice none 0 0, .slice none 0 0, .slice none 0 0] 25)) (.cells #[.slice none 0 0, .slice none 0 0, .slice none 0 0] 25)
    rwa [World.size_alloc] at this⟩
theorem own_other {W W' : World} {b1 e1 k1 n1 b2 e2 k2 n2 : Nat} {v1 v2 : Value} {xs1 xs2 : List Value} (h1 : W.ownsRow b1 e1 k1 v1 n1 xs1) (h2 : W.ownsRow b2 e2 k2 v2 n2 xs2) (hne : e2 ≠ e1) (hg : W.grownBy W' v2.ownBlock) : W'.ownsRow b1 e1 k1 v1 n1 xs1 := by
  refine own_chg h1 (Chg.grown (X := fun g => v2.ownBlock = some g) hg (fun g e => e)) (fun g cur fr hc _ hx => ?_)
  rcases h2.2 with ⟨rfl, _⟩ | ⟨g', cap, cur', rfl, hb, hc', _⟩
  · simp [Value.ownBlock] at hx
  · simp [Value.ownBlock] at hx
    subst hx
    rw [hc'] at hc
    injection hc with hc
    injection hc with _ h9
    exact hne h9
theorem tims_next (b : List Nat) (fr j : Nat) : ((List.range (j + 1)).map (timAt b fr)).flatMap ivw = ((List.range j).map (timAt b fr)).flatMap ivw ++ ivw (timAt b fr j) := by
  rw [List.range_succ, List.map_append, List.flatMap_append]
  simp
theorem nts_next (b : List Nat) (fr j : Nat) : ((List.range (j + 1)).map (ntAt b fr)).flatMap Nt.cells = ((List.range j).map (ntAt b fr)).flatMap Nt.cells ++ (ntAt b fr j).cells := by
  rw [List.range_succ, List.map_append, List.flatMap_append]
  simp
set_option maxHeartbeats 16000000 in
theorem ref_go (A : Option Addr) (n c : Nat) (b : List Nat) (w : World) (hr : Rd w w.heap.size 1 A n (b.map bv)) (hb : ∀ x ∈ b, x < 256) (hn : 3 ≤ n) (hn2 : n ≤ 3000) (hnc : n ≤ c) (hcm : c ≤ maxLen) (hok : refOk b) :
    Calls Try.prog 11 #[.slice A n c] w (ReadP w (readV b)) := by
  have hll : b.length = n := by have := hr.1; simpa using this
  obtain ⟨g, o, rfl, hgl, hby⟩ := bytes_at hr (by omega)
  have get : ∀ i, i < n → b[i]? = some (b.getD i 0) := fun i hi => by rw [List.getD_eq_getElem?_getD, List.getElem?_eq_getElem (by omega)]; rfl
  have lt : ∀ i, i < n → b.getD i 0 < 256 := fun i hi => hb _ (List.mem_of_getElem? (get i hi))
  have c0 := hby 0 _ (get 0 (by omega)) w (Below.refl _ _)
  have c1 := hby 1 _ (get 1 (by omega)) w (Below.refl _ _)
  rw [Nat.add_zero] at c0
  obtain ⟨_, q1, q2, q3, q4⟩ := hok
  obtain ⟨k, hk⟩ : ∃ k, k = refC b := ⟨_, rfl⟩
  obtain ⟨e, he⟩ : ∃ e, e = refE b := ⟨_, rfl⟩
  obtain ⟨at_, hat⟩ : ∃ a, a = refAt b := ⟨_, rfl⟩
  obtain ⟨m, hm⟩ : ∃ m, m = refN b := ⟨_, rfl⟩
  have hat2 : at_ = 2 + 7 * (k + e) + 6 * k := by rw [hat, hk, he]; rfl
  rw [← hk] at q1
  rw [← he] at q2
  rw [← hat] at q3 q4
  rw [← hm] at q4
  rw [hll] at q3 q4
  have c0' : w.cell? ⟨g, o, none⟩ = some (.int .u8 k) := by rw [hk]; exact c0
  have c1' : w.cell? ⟨g, o + 1, none⟩ = some (.int .u8 e) := by rw [he]; exact c1
  have l0 : k < 256 := by omega
  have l1 : e < 256 := by omega
  have lm : m < 256 := by rw [hm]; unfold refN; rw [← hat]; exact lt at_ (by omega)
  have Hca : Hid (∀ w', Below w.heap.size w w' → w'.cell? ⟨g, o + at_, none⟩ = some (.int .u8 m)) := fun w' h => by rw [hm]; unfold refN; rw [← hat]; exact hby at_ _ (get at_ (by omega)) w' h
  have ca := Hca.out w (Below.refl _ _)
  have k8 : (k : Int) ≤ 8 := by omega
  have e8 : (e : Int) ≤ 8 := by omega
  have ha2 : 2 + 7 * ((k : Int) + (e : Int)) + 6 * (k : Int) = (at_ : Int) := by omega
  have h4 : (at_ : Int) + 1 ≤ n := by omega
  have hne2 : ((n : Int) != (at_ : Int) + 1 + 8 * (m : Int)) = false := by rw [bne_eq_false_iff_eq]; omega
  have hnI : 3 ≤ (n : Int) := by omega
  have hnJ : (n : Int) ≤ 3000 := by omega
  have hcI : (n : Int) ≤ (c : Int) := by omega
  have hc63 : c ≤ 9223372036854775807 := by unfold maxLen at hcm; omega
  have hs7 : 2 + 7 * (k : Int) ≤ (n : Int) := by omega
  have Hq : Hid (at_ = 2 + 7 * (k + e) + 6 * k ∧ n = at_ + 1 + 8 * m) := ⟨hat2, q4⟩
  have Hr := Lib.hid hr
  have Hb := Lib.hid hb
  have Hst : Hid (refSt b = ⟨lats (b.drop 2) k, lats (b.drop (2 + 7 * k)) e, (List.range k).map (timAt b (2 + 7 * (k + e)))⟩ ∧ refNt b = (List.range m).map (ntAt b (at_ + 1))) := by rw [hk, he, hm, hat]; exact ⟨rfl, rfl⟩
  have Hok : Hid (refOk b) := ⟨by omega, by omega, by omega, by omega, by omega⟩
  have Hby := Lib.hid (And.intro hby (And.intro get lt))
  obtain ⟨i0, hi, hz0, hz1, hz2⟩ := info_parts info_nt
  obtain ⟨i1, hyi, hy0, hy1, hy2⟩ := info_parts info_i64
  clear c0 c1 get lt hby hk he hat hm hr hll hat2 hb q3 q4
  go_enter Try.func11, Try.ntmps11
  go_wp2_with (first
    | (go_at_call 36; (with_reducible refine (unlatches_any _ _ _ w.heap.size k (b.drop 2) _ ((Hr.out.dropn (i := 2) (by omega)).below (YS.start w).bel) (YS.start w).bel.size (fun x hx => Hb.out x (List.mem_of_mem_drop hx)) (by omega) (by have := Hq.out; omega) (by omega) (by omega)).mono ?_)
       rintro ed w2 ⟨A2, d2, he2, hown2, hb2⟩
       rw [lats_len] at he2 hown2
       subst he2
       have hY2 := (YS.start w).below hb2
       obtain ⟨⟨z0, z1, z2⟩, f0, f1, f2⟩ := hY2.cells
       have HY3 : Hid (YS w (w2.setCell ⟨w.heap.size + 1, 0, none⟩ (.slice A2 k d2)) #[.slice A2 k d2, .slice none 0 0, .slice none 0 0]) := hY2.set (j := 0) _
       have HO1 : Hid ((w2.setCell ⟨w.heap.size + 1, 0, none⟩ (.slice A2 k d2)).ownsRow (w.heap.size + 2) 61 3 (.slice A2 k d2) k ((lats (b.drop 2) k).flatMap Lt.cells)) := own_setj (own_base hown2 (by simp only [World.size_alloc]; omega)) (by omega)
       clear hown2 hb2 hY2)
    | (go_at_call 36; (with_reducible refine (unlatches_any _ _ _ w.heap.size e (b.drop (2 + 7 * k)) _ ((Hr.out.dropn (i := 2 + 7 * k) (by omega)).below HY3.out.bel) HY3.out.bel.size (fun x hx => Hb.out x (List.mem_of_mem_drop hx)) (by omega) (by have := Hq.out; omega) (by omega) (by omega)).mono ?_)
       rintro ed w4 ⟨A4, d4, he4, hown4, hb4⟩
       rw [lats_len] at he4 hown4
       subst he4
       clear z0 z1 z2 f0 f1 f2
       have hY4 := HY3.out.below hb4
       obtain ⟨⟨z0, z1, z2⟩, f0, f1, f2⟩ := hY4.cells
       have HY5 : Hid (YS w (w4.setCell ⟨w.heap.size + 1, 1, none⟩ (.slice A4 e d4)) #[.slice A2 k d2, .slice A4 e d4, .slice none 0 0]) := hY4.set (j := 1) _
       have HP1 : Hid ((w4.setCell ⟨w.heap.size + 1, 1, none⟩ (.slice A4 e d4)).ownsRow (w.heap.size + 2) 61 3 (.slice A2 k d2) k ((lats (b.drop 2) k).flatMap Lt.cells)) := own_setj (own_below HO1.out hb4) (by omega)
       have HP2 : Hid ((w4.setCell ⟨w.heap.size + 1, 1, none⟩ (.slice A4 e d4)).ownsRow (w.heap.size + 2) 61 3 (.slice A4 e d4) e ((lats (b.drop (2 + 7 * k)) e).flatMap Lt.cells)) := own_setj (own_base hown4 (by have := HY3.out.lt; omega)) (by omega)
       clear hown4 hb4 hY4 HY3 HO1))
  clear z0 z1 z2 f0 f1 f2 ca c0' c1' hne2
  go_loopg [10] k (fun qq i wr => ∃ (j de : Nat) (Ae : Option Addr), qq + j = k ∧ i = .int .i64 j ∧ YS w wr #[.slice A2 k d2, .slice A4 e d4, .slice Ae j de] ∧ (wr.ownsRow (w.heap.size + 2) 61 3 (.slice A2 k d2) k ((lats (b.drop 2) k).flatMap Lt.cells)) ∧ (wr.ownsRow (w.heap.size + 2) 61 3 (.slice A4 e d4) e ((lats (b.drop (2 + 7 * k)) e).flatMap Lt.cells)) ∧ wr.ownsRow (w.heap.size + 2) 2 1 (.slice Ae j de) j (((List.range j).map (timAt b (2 + 7 * (k + e)))).flatMap ivw))
  case atStart => exact ⟨0, 0, none, by omega, rfl, HY5.out, HP1.out, HP2.out, World.ownsRow_nil _ _ _ _⟩
  case round =>
    clear HY5 HP1 HP2
    obtain ⟨j, de, Ae, hj, rfl, hY, ho1, ho2, ho3⟩ := hrel
    have HY := Lib.hid hY
    have HO1 := Lib.hid ho1
    have HO2 := Lib.hid ho2
    have HO3 := Lib.hid ho3
    clear ho1 ho2 ho3
    by_cases hlt : j < k
    · have hi1 : (j : Int) < (k : Int) := by omega
      have hj7 : (j : Int) ≤ 7 := by omega
      obtain ⟨f, hf⟩ : ∃ f, f = 2 + 7 * (k + e) + 6 * j := ⟨_, rfl⟩
      have hfI : 2 + 7 * ((k : Int) + (e : Int)) + 6 * (j : Int) = (f : Int) := by omega
      have hf6 : (f : Int) + 6 ≤ (n : Int) := by have := Hq.out; omega
      obtain ⟨sx, hsx⟩ : ∃ sx, sx = (b.drop f).take 6 := ⟨_, rfl⟩
      have hpc := (Hr.out.below hY.bel).piece f 6 (by omega)
      rw [← hsx] at hpc
      have hll : b.length = n := by have := Hr.out.1; simpa using this
      have Hsl : Hid (sx.length = 6 ∧ ∀ x ∈ sx, x < 256) := ⟨by rw [hsx, List.length_take, List.length_drop, hll]; omega, fun x hx => Hb.out x (List.mem_of_mem_drop (List.mem_of_mem_take (hsx ▸ hx)))⟩
      have Htm : Hid ((ofSix sx : Int) = timAt b (2 + 7 * (k + e)) j) := by show _ = _; unfold timAt; rw [hsx, hf]
      have Hpc := Lib.hid hpc
      have z2 := hY.cells.1.2.2
      have hlt2 : w.heap.size + 1 < wr.heap.size := hY.lt
      have hw6 : IntKind.i64.wrap ((f : Int) + 6) = (f : Int) + 6 := IntWalk.i64_in _ (by omega)
      have hge : (0 ≤ (f : Int) + 6) = True := eq_true (by omega)
      have hle : ((f : Int) + 6 ≤ (c : Int)) = True := eq_true (by omega)
      have htn : ((f : Int) + 6).toNat = f + 6 := by omega
      have hcf : (c = f) = False := eq_false (by omega)
      clear hf hsx hpc hll hY
      go_wp2_with fail
      refine sk (fun _ => True) 12 ?_ (fun hHeld => ?_)
      · (trivial)
      refine tk 0 88 hHeld ?_
      refine tk 2 90 hHeld ?_
      refine tk 3 91 hHeld ?_
      refine tk 4 92 hHeld ?_
      refine tk 5 93 hHeld ?_
      refine tk 6 94 hHeld ?_
      refine wpAnyH_ready (rs := [1, 7]) (by kernel_rfl) (by simp) ?_
      refine (consH 1 89 #[true, true, true, true, true, true, true, false, false, false, false, false] rfl rfl rfl (by rfl) (fun K hK => ?_) (consH 7 95 #[true, false, true, true, true, true, true, true, false, false, false, false] rfl rfl rfl (by rfl) (fun K hK => ?_) AllReadyH.nil))
      · go_simp
        refine hK.out _ _ ?_ (fun hHeld' => ?_)
        · (trivial)
        clear hK K hHeld
        have hHeld := hHeld'
        clear hHeld'
        simp only [List.set_cons_zero, List.set_cons_succ]
        refine bk 7 95 (fun K hK => ?_)
        go_simp
        (go_at_call 37; (with_reducible refine (unsix_any _ _ w.heap.size sx _ Hsl.out.1 (Hpc.out.below (Below.refl _ _).drew) Hsl.out.2).mono ?_))
        rintro ed wq ⟨rfl, hwq⟩
        subst hwq
        refine hK.out _ _ ?_ (fun hHeld' => ?_)
        · (trivial)
        clear hK K hHeld
        have hHeld := hHeld'
        clear hHeld'
        simp only [List.set_cons_zero, List.set_cons_succ]
        refine bk 8 96 (fun K hK => ?_)
        go_simp
        refine hK.out _ _ ?_ (fun hHeld' => ?_)
        · (trivial)
        clear hK K hHeld
        have hHeld := hHeld'
        clear hHeld'
        simp only [List.set_cons_zero, List.set_cons_succ]
        refine bk 9 97 (fun K hK => ?_)
        have hlit := own_new wr 2 1 1 [.int .i64 (ofSix sx)] (by unfold maxLen; omega) rfl
        have hbW : Below wr.heap.size wr (wr.alloc (.cells #[.int .i64 (ofSix sx)] 2)).drew := (al_ wr _).drew
        refine wp_app _ (.tmp 89) (.tmp 96) 23 rfl (w.heap.size + 2) 2 i1 (.int .i64 0) 1 8 Try.underlying23 hyi hy0 hy1 hy2 rfl (by omega) (.slice Ae j de) j _ rfl (own_below HO3.out hbW) _ (some ⟨wr.heap.size, 0, none⟩) 1 1 [.int .i64 (ofSix sx)] rfl ((Rd.of_own hlit).below (Below.refl _ _).drew) (fun u hu => by simp at hu; subst hu; rfl) (by unfold maxLen; omega) (by omega) (Nat.le_trans hlt2 hbW.size) ?_
        intro v' w9 hown9 hg9 hat9
        have hY9 := (HY.out.below hbW).grown hg9 (fun g' hg' => (own_blk' (own_below HO3.out hbW) g' hg').1)
        have ho1 := own_other (own_below HO1.out hbW) (own_below HO3.out hbW) (by decide) hg9
        have ho2 := own_other (own_below HO2.out hbW) (own_below HO3.out hbW) (by decide) hg9
        obtain ⟨A9, d9, rfl⟩ := own_shape hown9
        rw [show [Value.int .i64 (ofSix sx)] = ivw (timAt b (2 + 7 * (k + e)) j) from by rw [← Htm.out]; rfl, ← tims_next] at hown9
        obtain ⟨⟨y0, y1, y2⟩, f0, f1, f2⟩ := hY9.cells
        refine hK.out _ _ ?_ (fun hHeld' => ?_)
        · (trivial)
        clear hK K hHeld
        have hHeld := hHeld'
        clear hHeld'
        simp only [List.set_cons_zero, List.set_cons_succ]
        refine tk 10 98 hHeld ?_
        refine bn 11 (fun K hK => ?_)
        go_simp
        first | refine hK.out undef _ ?_ (fun hHeld' => ?_) | refine hK.out _ _ ?_ (fun hHeld' => ?_)
        · (trivial)
        clear hK K hHeld
        have hHeld := hHeld'
        clear hHeld'
        try simp only [List.set_cons_zero, List.set_cons_succ]
        refine wpAnyH_done (by kernel_rfl) ?_ _
        refine NoPanic.normal ?_
        go_wp2_with fail
        go_roundg (gk - 1)
        case measure => omega
        case rel => exact ⟨j + 1, d9, A9, by omega, by go_num, hY9.set (j := 2) _, own_setj ho1 (by omega), own_setj ho2 (by omega), own_setj hown9 (by omega)⟩
      · go_simp
        (go_at_call 37; (with_reducible refine (unsix_any _ _ w.heap.size sx _ Hsl.out.1 (Hpc.out.below (Below.refl _ _).drew) Hsl.out.2).mono ?_))
        rintro ed wq ⟨rfl, hwq⟩
        subst hwq
        refine hK.out _ _ ?_ (fun hHeld' => ?_)
        · (trivial)
        clear hK K hHeld
        have hHeld := hHeld'
        clear hHeld'
        simp only [List.set_cons_zero, List.set_cons_succ]
        refine wpAnyH_ready (rs := [1, 8]) (by kernel_rfl) (by simp) ?_
        refine (consH 1 89 #[true, true, true, true, true, true, true, true, false, false, false, false] rfl rfl rfl (by rfl) (fun K hK => ?_) (consH 8 96 #[true, false, true, true, true, true, true, true, true, false, false, false] rfl rfl rfl (by rfl) (fun K hK => ?_) AllReadyH.nil))
        · go_simp
          refine hK.out _ _ ?_ (fun hHeld' => ?_)
          · (trivial)
          clear hK K hHeld
          have hHeld := hHeld'
          clear hHeld'
          simp only [List.set_cons_zero, List.set_cons_succ]
          refine bk 8 96 (fun K hK => ?_)
          go_simp
          refine hK.out _ _ ?_ (fun hHeld' => ?_)
          · (trivial)
          clear hK K hHeld
          have hHeld := hHeld'
          clear hHeld'
          simp only [List.set_cons_zero, List.set_cons_succ]
          refine bk 9 97 (fun K hK => ?_)
          have hlit := own_new wr 2 1 1 [.int .i64 (ofSix sx)] (by unfold maxLen; omega) rfl
          have hbW : Below wr.heap.size wr (wr.alloc (.cells #[.int .i64 (ofSix sx)] 2)).drew := (al_ wr _).drew
          refine wp_app _ (.tmp 89) (.tmp 96) 23 rfl (w.heap.size + 2) 2 i1 (.int .i64 0) 1 8 Try.underlying23 hyi hy0 hy1 hy2 rfl (by omega) (.slice Ae j de) j _ rfl (own_below HO3.out hbW) _ (some ⟨wr.heap.size, 0, none⟩) 1 1 [.int .i64 (ofSix sx)] rfl ((Rd.of_own hlit).below (Below.refl _ _).drew) (fun u hu => by simp at hu; subst hu; rfl) (by unfold maxLen; omega) (by omega) (Nat.le_trans hlt2 hbW.size) ?_
          intro v' w9 hown9 hg9 hat9
          have hY9 := (HY.out.below hbW).grown hg9 (fun g' hg' => (own_blk' (own_below HO3.out hbW) g' hg').1)
          have ho1 := own_other (own_below HO1.out hbW) (own_below HO3.out hbW) (by decide) hg9
          have ho2 := own_other (own_below HO2.out hbW) (own_below HO3.out hbW) (by decide) hg9
          obtain ⟨A9, d9, rfl⟩ := own_shape hown9
          rw [show [Value.int .i64 (ofSix sx)] = ivw (timAt b (2 + 7 * (k + e)) j) from by rw [← Htm.out]; rfl, ← tims_next] at hown9
          obtain ⟨⟨y0, y1, y2⟩, f0, f1, f2⟩ := hY9.cells
          refine hK.out _ _ ?_ (fun hHeld' => ?_)
          · (trivial)
          clear hK K hHeld
          have hHeld := hHeld'
          clear hHeld'
          simp only [List.set_cons_zero, List.set_cons_succ]
          refine tk 10 98 hHeld ?_
          refine bn 11 (fun K hK => ?_)
          go_simp
          first | refine hK.out undef _ ?_ (fun hHeld' => ?_) | refine hK.out _ _ ?_ (fun hHeld' => ?_)
          · (trivial)
          clear hK K hHeld
          have hHeld := hHeld'
          clear hHeld'
          try simp only [List.set_cons_zero, List.set_cons_succ]
          refine wpAnyH_done (by kernel_rfl) ?_ _
          refine NoPanic.normal ?_
          go_wp2_with fail
          go_roundg (gk - 1)
          case measure => omega
          case rel => exact ⟨j + 1, d9, A9, by omega, by go_num, hY9.set (j := 2) _, own_setj ho1 (by omega), own_setj ho2 (by omega), own_setj hown9 (by omega)⟩
        · go_simp
          refine hK.out _ _ ?_ (fun hHeld' => ?_)
          · (trivial)
          clear hK K hHeld
          have hHeld := hHeld'
          clear hHeld'
          simp only [List.set_cons_zero, List.set_cons_succ]
          refine bk 1 89 (fun K hK => ?_)
          go_simp
          refine hK.out _ _ ?_ (fun hHeld' => ?_)
          · (trivial)
          clear hK K hHeld
          have hHeld := hHeld'
          clear hHeld'
          simp only [List.set_cons_zero, List.set_cons_succ]
          refine bk 9 97 (fun K hK => ?_)
          have hlit := own_new wr 2 1 1 [.int .i64 (ofSix sx)] (by unfold maxLen; omega) rfl
          have hbW : Below wr.heap.size wr (wr.alloc (.cells #[.int .i64 (ofSix sx)] 2)).drew := (al_ wr _).drew
          refine wp_app _ (.tmp 89) (.tmp 96) 23 rfl (w.heap.size + 2) 2 i1 (.int .i64 0) 1 8 Try.underlying23 hyi hy0 hy1 hy2 rfl (by omega) (.slice Ae j de) j _ rfl (own_below HO3.out hbW) _ (some ⟨wr.heap.size, 0, none⟩) 1 1 [.int .i64 (ofSix sx)] rfl ((Rd.of_own hlit).below (Below.refl _ _).drew) (fun u hu => by simp at hu; subst hu; rfl) (by unfold maxLen; omega) (by omega) (Nat.le_trans hlt2 hbW.size) ?_
          intro v' w9 hown9 hg9 hat9
          have hY9 := (HY.out.below hbW).grown hg9 (fun g' hg' => (own_blk' (own_below HO3.out hbW) g' hg').1)
          have ho1 := own_other (own_below HO1.out hbW) (own_below HO3.out hbW) (by decide) hg9
          have ho2 := own_other (own_below HO2.out hbW) (own_below HO3.out hbW) (by decide) hg9
          obtain ⟨A9, d9, rfl⟩ := own_shape hown9
          rw [show [Value.int .i64 (ofSix sx)] = ivw (timAt b (2 + 7 * (k + e)) j) from by rw [← Htm.out]; rfl, ← tims_next] at hown9
          obtain ⟨⟨y0, y1, y2⟩, f0, f1, f2⟩ := hY9.cells
          refine hK.out _ _ ?_ (fun hHeld' => ?_)
          · (trivial)
          clear hK K hHeld
          have hHeld := hHeld'
          clear hHeld'
          simp only [List.set_cons_zero, List.set_cons_succ]
          refine tk 10 98 hHeld ?_
          refine bn 11 (fun K hK => ?_)
          go_simp
          first | refine hK.out undef _ ?_ (fun hHeld' => ?_) | refine hK.out _ _ ?_ (fun hHeld' => ?_)
          · (trivial)
          clear hK K hHeld
          have hHeld := hHeld'
          clear hHeld'
          try simp only [List.set_cons_zero, List.set_cons_succ]
          refine wpAnyH_done (by kernel_rfl) ?_ _
          refine NoPanic.normal ?_
          go_wp2_with fail
          go_roundg (gk - 1)
          case measure => omega
          case rel => exact ⟨j + 1, d9, A9, by omega, by go_num, hY9.set (j := 2) _, own_setj ho1 (by omega), own_setj ho2 (by omega), own_setj hown9 (by omega)⟩
    · have hjk : j = k := by omega
      rw [hjk] at HY HO3
      rw [hjk]
      have hi0 : ¬ (k : Int) < (k : Int) := by omega
      clear hlt hj hY hjk
      go_wp2_with fail
      go_loopg [6, 12] m (fun qq v i W => ∃ (j dn : Nat) (An : Option Addr), qq + j = m ∧ v = .slice An j dn ∧ i = .int .i64 j ∧ YS w W #[.slice A2 k d2, .slice A4 e d4, .slice Ae k de] ∧ (W.ownsRow (w.heap.size + 2) 61 3 (.slice A2 k d2) k ((lats (b.drop 2) k).flatMap Lt.cells)) ∧ (W.ownsRow (w.heap.size + 2) 61 3 (.slice A4 e d4) e ((lats (b.drop (2 + 7 * k)) e).flatMap Lt.cells)) ∧ (W.ownsRow (w.heap.size + 2) 2 1 (.slice Ae k de) k (((List.range k).map (timAt b (2 + 7 * (k + e)))).flatMap ivw)) ∧ W.ownsRow (w.heap.size + 2) 54 3 (.slice An j dn) j (((List.range j).map (ntAt b (at_ + 1))).flatMap Nt.cells))
      case atStart => exact ⟨0, 0, none, by omega, rfl, rfl, HY.out, HO1.out, HO2.out, HO3.out, World.ownsRow_nil _ _ _ _⟩
      case round =>
        clear HY HO1 HO2 HO3
        obtain ⟨j, dn, An, hj, rfl, rfl, hY, ho1, ho2, ho3, ho4⟩ := hrel
        have HY := Lib.hid hY
        have ca := Hca.out wr hY.bel
        by_cases hlt : j < m
        · have hi1 : (j : Int) < (m : Int) := by omega
          have hj7 : (j : Int) ≤ 255 := by omega
          obtain ⟨f, hf⟩ : ∃ f, f = at_ + 1 + 8 * j := ⟨_, rfl⟩
          have hfI : (at_ : Int) + 1 + 8 * (j : Int) = (f : Int) := by omega
          have hf8 : (f : Int) + 8 ≤ (n : Int) := by have := Hq.out; omega
          obtain ⟨x1, hx1⟩ : ∃ x, x = b.getD f 0 := ⟨_, rfl⟩
          obtain ⟨x2, hx2⟩ : ∃ x, x = b.getD (f + 1) 0 := ⟨_, rfl⟩
          have l1' : x1 < 256 := by rw [hx1]; exact Hby.out.2.2 f (by omega)
          have l2' : x2 < 256 := by rw [hx2]; exact Hby.out.2.2 (f + 1) (by omega)
          have d1 : ∀ w', Below w.heap.size wr w' → w'.cell? ⟨g, o + f, none⟩ = some (.int .u8 x1) := fun w' h => by rw [hx1]; exact Hby.out.1 f _ (Hby.out.2.1 f (by omega)) w' (hY.bel.trans h)
          have d2' : ∀ w', Below w.heap.size wr w' → w'.cell? ⟨g, o + (f + 1), none⟩ = some (.int .u8 x2) := fun w' h => by rw [hx2]; exact Hby.out.1 (f + 1) _ (Hby.out.2.1 (f + 1) (by omega)) w' (hY.bel.trans h)
          obtain ⟨sx, hsx⟩ : ∃ sx, sx = (b.drop (f + 2)).take 6 := ⟨_, rfl⟩
          have hpc := (Hr.out.below hY.bel).piece (f + 2) 6 (by omega)
          rw [← hsx] at hpc
          have hll : b.length = n := by have := Hr.out.1; simpa using this
          have Hsl : Hid (sx.length = 6 ∧ ∀ x ∈ sx, x < 256) := ⟨by rw [hsx, List.length_take, List.length_drop, hll]; omega, fun x hx => Hb.out x (List.mem_of_mem_drop (List.mem_of_mem_take (hsx ▸ hx)))⟩
          have Hnt : Hid ([Value.int .i64 x1, .int .i64 x2, .int .i64 (ofSix sx)] = (ntAt b (at_ + 1) j).cells) := by show _ = _; unfold ntAt; rw [hsx, hx1, hx2, hf]; rfl
          have Hpc := Lib.hid hpc
          have hlow : w.heap.size ≤ wr.heap.size := hY.bel.size
          have wx1 : IntKind.i64.wrap (x1 : Int) = (x1 : Int) := IntWalk.i64_in _ (by omega)
          have wx2 : IntKind.i64.wrap (x2 : Int) = (x2 : Int) := IntWalk.i64_in _ (by omega)
          have hw1 : IntKind.i64.wrap ((f : Int) + 1) = (f : Int) + 1 := IntWalk.i64_in _ (by omega)
          have hw2 : IntKind.i64.wrap ((f : Int) + 2) = (f : Int) + 2 := IntWalk.i64_in _ (by omega)
          have hw8 : IntKind.i64.wrap ((f : Int) + 8) = (f : Int) + 8 := IntWalk.i64_in _ (by omega)
          have hge1 : (0 ≤ (f : Int) + 1) = True := eq_true (by omega)
          have hge2 : (0 ≤ (f : Int) + 2) = True := eq_true (by omega)
          have hge8 : (0 ≤ (f : Int) + 8) = True := eq_true (by omega)
          have hin0 : ((f : Int) < (n : Int)) = True := eq_true (by omega)
          have hin1 : ((f : Int) + 1 < (n : Int)) = True := eq_true (by omega)
          have hin0' : (f < n) = True := eq_true (by omega)
          have hin1' : (f + 1 < n) = True := eq_true (by omega)
          have hle : ((f : Int) + 8 ≤ (c : Int)) = True := eq_true (by omega)
          have htn1 : ((f : Int) + 1).toNat = f + 1 := by omega
          have htn2 : ((f : Int) + 2).toNat = f + 2 := by omega
          have htn8 : ((f : Int) + 8).toNat = f + 8 := by omega
          have hcf : (c = f + 2) = False := eq_false (by omega)
          have Ho1 := Lib.hid ho1
          have Ho2 := Lib.hid ho2
          have Ho3 := Lib.hid ho3
          have Ho4 := Lib.hid ho4
          clear hf hsx hpc hll hY hx1 hx2 ho1 ho2 ho3 ho4
          go_wp2_with fail
          refine sk (fun w' => Below w.heap.size wr w') 23 ?_ (fun hHeld => ?_)
          · (first | exact (Below.refl _ _).drew | assumption | exact hHeld.alloc (Nat.le_trans hlow hHeld.size) _)
          refine tk 0 113 hHeld ?_
          refine tk 1 114 hHeld ?_
          refine tk 2 115 hHeld ?_
          refine tk 3 116 hHeld ?_
          refine tk 4 117 hHeld ?_
          refine tk 5 118 hHeld ?_
          refine tk 6 119 hHeld ?_
          refine tk 7 120 hHeld ?_
          refine tk 8 121 hHeld ?_
          refine tk 9 122 hHeld ?_
          refine tk 10 123 hHeld ?_
          refine tk 11 124 hHeld ?_
          refine tk 12 125 hHeld ?_
          refine tk 13 126 hHeld ?_
          refine tk 14 127 hHeld ?_
          refine tk 15 128 hHeld ?_
          refine tk 16 129 hHeld ?_
          refine tk 17 130 hHeld ?_
          refine bk 18 131 (fun K hK => ?_)
          go_simp
          (go_at_call 37; (with_reducible refine (unsix_any _ _ w.heap.size sx _ Hsl.out.1 (Hpc.out.below (Below.refl _ _).drew) Hsl.out.2).mono ?_))
          rintro ed wq ⟨rfl, hwq⟩
          subst hwq
          refine hK.out _ _ ?_ (fun hHeld' => ?_)
          · (first | exact (Below.refl _ _).drew | assumption | exact hHeld.alloc (Nat.le_trans hlow hHeld.size) _)
          clear hK K hHeld
          have hHeld := hHeld'
          clear hHeld'
          simp only [List.set_cons_zero, List.set_cons_succ]
          refine tk 19 132 hHeld ?_
          refine bk 20 133 (fun K hK => ?_)
          go_simp
          refine hK.out _ _ ?_ (fun hHeld' => ?_)
          · (first | exact (Below.refl _ _).drew | assumption | exact hHeld.alloc (Nat.le_trans hlow hHeld.size) _)
          clear hK K hHeld
          have hHeld := hHeld'
          clear hHeld'
          simp only [List.set_cons_zero, List.set_cons_succ]
          refine bk 21 134 (fun K hK => ?_)
          have hlit := own_new wr 54 3 1 [.int .i64 x1, .int .i64 x2, .int .i64 (ofSix sx)] (by unfold maxLen; omega) rfl
          have hbW : Below wr.heap.size wr (wr.alloc (.cells #[.int .i64 x1, .int .i64 x2, .int .i64 (ofSix sx)] 54)).drew := (al_ wr _).drew
          refine wp_app _ (.tmp 113) (.tmp 133) 26 rfl (w.heap.size + 2) 54 i0 (.agg #[.int .i64 0, .int .i64 0, .int .i64 0]) 3 24 Try.underlying26 hi hz0 hz1 hz2 rfl (by omega) (.slice An j dn) j _ rfl (own_below Ho4.out hbW) _ (some ⟨wr.heap.size, 0, none⟩) 1 1 [.int .i64 x1, .int .i64 x2, .int .i64 (ofSix sx)] rfl ((Rd.of_own hlit).below (Below.refl _ _).drew) (fun u hu => by simp at hu; rcases hu with rfl | rfl | rfl <;> rfl) (by unfold maxLen; omega) (by omega) (Nat.le_trans HY.out.lt hbW.size) ?_
          intro v' w9 hown9 hg9 hat9
          have hY9 := (HY.out.below hbW).grown hg9 (fun g' hg' => (own_blk' (own_below Ho4.out hbW) g' hg').1)
          have ho1 := own_other (own_below Ho1.out hbW) (own_below Ho4.out hbW) (by decide) hg9
          have ho2 := own_other (own_below Ho2.out hbW) (own_below Ho4.out hbW) (by decide) hg9
          have ho3 := own_other (own_below Ho3.out hbW) (own_below Ho4.out hbW) (by decide) hg9
          have hH9 : Below w.heap.size wr w9 := (hbW.mono hlow).grown hg9 (Nat.le_trans hlow hbW.size) (fun g' hg' => by have := (own_blk' (own_below Ho4.out hbW) g' hg').1; omega)
          obtain ⟨A9, d9, rfl⟩ := own_shape hown9
          rw [Hnt.out, ← nts_next] at hown9
          refine hK.out _ _ ?_ (fun hHeld' => ?_)
          · (first | exact (Below.refl _ _).drew | assumption | exact hHeld.alloc (Nat.le_trans hlow hHeld.size) _)
          clear hK K hHeld
          have hHeld := hHeld'
          clear hHeld'
          simp only [List.set_cons_zero, List.set_cons_succ]
          refine tk 22 6 hHeld ?_
          refine wpAnyH_done (by kernel_rfl) ?_ _
          refine NoPanic.normal ?_
          go_wp2_with fail
          go_roundg (gk - 1)
          case measure => omega
          case rel => exact ⟨j + 1, d9, A9, by omega, rfl, by go_num, hY9, ho1, ho2, ho3, hown9⟩
        · have hjm : j = m := by omega
          rw [hjm] at ho4
          rw [hjm]
          have hi0 : ¬ (m : Int) < (m : Int) := by omega
          have hV : StO wr (w.heap.size + 2) ⟨A2, k, d2, A4, e, d4, Ae, k, de⟩ (refSt b) := by
            rw [Hst.out.1]
            exact ⟨ho1, ho2, ho3, lats_len _ _, lats_len _ _, by simp⟩
          have hNt : wr.ownsRow (w.heap.size + 2) 54 3 (.slice An m dn) m ((refNt b).flatMap Nt.cells) := by rw [Hst.out.2]; exact ho4
          have hNl : (refNt b).length = m := by rw [Hst.out.2]; simp
          have HV := Lib.hid hV
          have HNt := Lib.hid hNt
          have HNl := Lib.hid hNl
          have y0 : ∀ w', Below wr.heap.size wr w' → w'.cell? ⟨w.heap.size + 1, 0, none⟩ = some (.slice A2 k d2) := fun w' h => (HY.out.below h).cells.1.1
          have y1 : ∀ w', Below wr.heap.size wr w' → w'.cell? ⟨w.heap.size + 1, 1, none⟩ = some (.slice A4 e d4) := fun w' h => (HY.out.below h).cells.1.2.1
          have y2 : ∀ w', Below wr.heap.size wr w' → w'.cell? ⟨w.heap.size + 1, 2, none⟩ = some (.slice Ae k de) := fun w' h => (HY.out.below h).cells.1.2.2
          have kcv : ∀ (w' : World) (A : Option Addr) (n c B : Nat) (l : List Nat), Rd w' B 1 A n (l.map bv) → (convert 27 9 (.slice A n c)).run Try.prog w' = .ok (.string (bstr l)) w' := fun w' A n c B l h =>
            run_str h 27 9 5 Try.underlying27 Try.underlying5 Try.underlying9
          have Hcv := Lib.hid kcv
          have cv2 : ∀ w', Below wr.heap.size wr w' → (convert 27 9 (.slice (some ⟨g, o, none⟩) n c)).run Try.prog w' = .ok (.string (bstr b)) w' := fun w' h => kcv w' _ n c _ b ((Hr.out.to HY.out.bel).below h)
          obtain ⟨z, hz⟩ : ∃ z, z = bytesF (refSt b) (refNt b) := ⟨_, rfl⟩
          have Hz := Lib.hid hz
          have hzb : z = b ∨ ((bstr z).toList == (bstr b).toList) = false ∧ z ≠ b := by
            by_cases h : z = b
            · exact .inl h
            · exact .inr ⟨bstr_ne (fun h' => h (bstr_inj (by rw [hz]; exact bytesF_lt _ _) Hb.out h')), h⟩
          clear ho1 ho2 ho3 ho4 hV hNt hNl kcv hz hY hlt hj hjm
          rcases hzb with rfl | ⟨hne, hnz⟩
          · have Hyes : Hid (readV z = (refSt z, refNt z, true)) := ref_yes Hok.out Hz.out.symm
            go_wp2_with fail
            refine sk (fun w' => Below wr.heap.size wr w') 7 ?_ (fun hHeld => ?_)
            · (first | exact (Below.refl _ _).drew | assumption)
            refine tk 0 135 hHeld ?_
            refine tk 1 136 hHeld ?_
            refine tk 4 139 hHeld ?_
            refine tk 5 140 hHeld ?_
            refine bk 2 137 (fun K hK => ?_)
            go_simp
            (go_at_call 13; (with_reducible refine (bytes22_any ⟨A2, k, d2, A4, e, d4, Ae, k, de⟩ (refSt z) An m dn _ (refNt z) _ (HV.out.below hHeld).toR (rds_of_own (own_below HNt.out hHeld) HNl.out) (by unfold maxLen; omega) (Nat.le_refl _)).mono ?_))
            rintro ed wn ⟨v9, rfl, hown9, hb9⟩
            rw [← Hz.out] at hown9
            obtain ⟨A9, c9, rfl⟩ := own_shape hown9
            have hHn := hHeld.trans (hb9.mono hHeld.size)
            have kv9 := Hcv.out wn A9 z.length c9 _ z (Rd.of_own hown9)
            clear hown9
            refine hK.out _ _ ?_ (fun hHeld' => ?_)
            · (first | exact (Below.refl _ _).drew | assumption)
            clear hK K hHeld
            have hHeld := hHeld'
            clear hHeld'
            simp only [List.set_cons_zero, List.set_cons_succ]
            refine bk 3 138 (fun K hK => ?_)
            go_simp
            refine hK.out _ _ ?_ (fun hHeld' => ?_)
            · (first | exact (Below.refl _ _).drew | assumption)
            clear hK K hHeld
            have hHeld := hHeld'
            clear hHeld'
            simp only [List.set_cons_zero, List.set_cons_succ]
            refine tk 6 141 hHeld ?_
            refine wpAnyH_done (by kernel_rfl) ?_ _
            refine NoPanic.normal ?_
            have hYn := HY.out.below hHeld
            obtain ⟨⟨g0, g1, g2⟩, _⟩ := hYn.cells
            have s0 := cell_of_row _ w.heap.size 0 _ _ _ hYn.res
            have s1 := cell_of_row _ w.heap.size 1 _ _ _ hYn.res
            have s2 := cell_of_row _ w.heap.size 2 _ _ _ hYn.res
            have f0 := frozen_of_row _ w.heap.size 0 _ _ hYn.res
            have f1 := frozen_of_row _ w.heap.size 1 _ _ hYn.res
            have f2 := frozen_of_row _ w.heap.size 2 _ _ hYn.res
            simp at s0 s1 s2
            have HYn := Lib.hid hYn
            have HVn := Lib.hid (HV.out.below hHeld)
            have HNn := Lib.hid (own_below HNt.out hHeld)
            clear hYn y0 y1 y2 cv2 hHeld kv9
            go_wp2_with fail
            refine bodyPost_ret (results_ctt rfl _ _ w.heap.size #[.slice A2 k d2, .slice A4 e d4, .slice Ae k de] rfl (run_loadVar_row _ w.heap.size 25 25 _ (0, 0) _ (heap_set_same (j := 2) (.slice Ae k de) (heap_set_same (j := 1) (.slice A4 e d4) (heap_set_same (j := 0) (.slice A2 k d2) HYn.out.res))) Try.underlying25 rfl (by kernel_rfl))) rfl ?_
            rw [Hyes.out]
            have q := HVn.out
            refine ⟨⟨A2, k, d2, A4, e, d4, Ae, k, de⟩, An, m, dn, rfl, ⟨own_base (own_setj (own_setj (own_setj q.o1 ?_) ?_) ?_) ?_, own_base (own_setj (own_setj (own_setj q.o2 ?_) ?_) ?_) ?_, own_base (own_setj (own_setj (own_setj q.o3 ?_) ?_) ?_) ?_, q.l1, q.l2, q.l3⟩, own_base (own_setj (own_setj (own_setj HNn.out ?_) ?_) ?_) ?_, HNl.out, ((HYn.out.bel.setCell (Nat.le_refl _) _).setCell (Nat.le_refl _) _).setCell (Nat.le_refl _) _⟩
            all_goals omega
          · have Hno : Hid (readV b = (⟨[], [], []⟩, [], false)) := ref_no Hb.out (fun h => hnz (Hz.out.trans h.2))
            go_wp2_with fail
            refine sk (fun w' => Below wr.heap.size wr w') 7 ?_ (fun hHeld => ?_)
            · (first | exact (Below.refl _ _).drew | assumption)
            refine tk 0 135 hHeld ?_
            refine tk 1 136 hHeld ?_
            refine tk 4 139 hHeld ?_
            refine tk 5 140 hHeld ?_
            refine bk 2 137 (fun K hK => ?_)
            go_simp
            (go_at_call 13; (with_reducible refine (bytes22_any ⟨A2, k, d2, A4, e, d4, Ae, k, de⟩ (refSt b) An m dn _ (refNt b) _ (HV.out.below hHeld).toR (rds_of_own (own_below HNt.out hHeld) HNl.out) (by unfold maxLen; omega) (Nat.le_refl _)).mono ?_))
            rintro ed wn ⟨v9, rfl, hown9, hb9⟩
            rw [← Hz.out] at hown9
            obtain ⟨A9, c9, rfl⟩ := own_shape hown9
            have hHn := hHeld.trans (hb9.mono hHeld.size)
            have kv9 := Hcv.out wn A9 z.length c9 _ z (Rd.of_own hown9)
            clear hown9
            refine hK.out _ _ ?_ (fun hHeld' => ?_)
            · (first | exact (Below.refl _ _).drew | assumption)
            clear hK K hHeld
            have hHeld := hHeld'
            clear hHeld'
            simp only [List.set_cons_zero, List.set_cons_succ]
            refine bk 3 138 (fun K hK => ?_)
            go_simp
            refine hK.out _ _ ?_ (fun hHeld' => ?_)
            · (first | exact (Below.refl _ _).drew | assumption)
            clear hK K hHeld
            have hHeld := hHeld'
            clear hHeld'
            simp only [List.set_cons_zero, List.set_cons_succ]
            refine tk 6 141 hHeld ?_
            refine wpAnyH_done (by kernel_rfl) ?_ _
            refine NoPanic.normal ?_
            have hYn := HY.out.below hHeld
            have s0 := cell_of_row _ w.heap.size 0 _ _ _ hYn.res
            have s1 := cell_of_row _ w.heap.size 1 _ _ _ hYn.res
            have s2 := cell_of_row _ w.heap.size 2 _ _ _ hYn.res
            have f0 := frozen_of_row _ w.heap.size 0 _ _ hYn.res
            have f1 := frozen_of_row _ w.heap.size 1 _ _ hYn.res
            have f2 := frozen_of_row _ w.heap.size 2 _ _ hYn.res
            simp at s0 s1 s2
            have HYn := Lib.hid hYn
            clear hYn y0 y1 y2 cv2 hHeld kv9
            go_wp2_with fail
            exact ref_fin rfl rfl rfl rfl (heap_set_same (j := 2) (.slice none 0 0) (heap_set_same (j := 1) (.slice none 0 0) (heap_set_same (j := 0) (.slice none 0 0) HYn.out.res))) (((HYn.out.bel.setCell (Nat.le_refl _) _).setCell (Nat.le_refl _) _).setCell (Nat.le_refl _) _) Hno.out
theorem ref_read (A : Option Addr) (n c : Nat) (b : List Nat) (w : World) (hr : Rd w w.heap.size 1 A n (b.map bv)) (hb : ∀ x ∈ b, x < 256) (hn2 : n ≤ 3000) (hnc : n ≤ c) (hcm : c ≤ maxLen) :
    Calls Try.prog 11 #[.slice A n c] w (ReadP w (readV b)) := by
  by_cases hn : n < 3
  · exact ref_short A n c _ b w hr hb hn
  · by_cases hok : refOk b
    · exact ref_go A n c b w hr hb (by omega) hn2 hnc hcm hok
    · exact ref_bad A n c b w hr hb (by omega) hn2 hok
theorem ref_is {A : Option Addr} {n c : Nat} {b : List Nat} {w : World} {x : St × List Nt × Bool} (hx : readV b = x) (hr : Rd w w.heap.size 1 A n (b.map bv)) (hb : ∀ x ∈ b, x < 256) (hn2 : n ≤ 3000) (hnc : n ≤ c) (hcm : c ≤ maxLen) :
    Calls Try.prog 11 #[.slice A n c] w (ReadP w x) := by
  rw [← hx]
  exact ref_read A n c b w hr hb hn2 hnc hcm
end Go.Proofs.Ytcdgaeenfhpnkaa
