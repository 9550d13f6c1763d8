/- The statements on stores: are the calls too much? -/
import Derived.Test.YtcdgaeenfhpnkaaPk31
set_option linter.unusedVariables false
set_option linter.unusedSimpArgs false
set_option maxRecDepth 100000
namespace Go.Proofs.Ytcdgaeenfhpnkaa
open Go Go.RowKit
attribute [local go_sem] Oper.semAt_some

def bigO (r : Opr) : Bool := decide (500 < r.v.n1 + r.v.n2 + r.v.n3 + r.len)
def grB (l : List Opr) (n : Nat) : Bool := (l.take 200).any bigO || decide (100 < n)
theorem grB_no {l : List Opr} {n : Nat} (h : grB l n = false) : n ≤ 100 := by
  unfold grB at h
  simp at h
  exact h.2
theorem grB_yes {l : List Opr} {n j : Nat} {r : Opr} (hj : l[j]? = some r) (h200 : j < 200) (hb : bigO r = true) : grB l n = true := by
  unfold grB
  rw [Bool.or_eq_true]
  refine .inl (List.any_eq_true.2 ⟨r, ?_, hb⟩)
  refine List.mem_of_getElem? (i := j) ?_
  rw [List.getElem?_take, if_pos h200]
  exact hj
theorem any_next {l : List Opr} {j : Nat} {r : Opr} (hj : l[j]? = some r) (h : (l.take j).any bigO = false) (hb : bigO r = false) : (l.take (j + 1)).any bigO = false := by
  rw [List.take_add_one, hj, List.any_append, h]
  simp [hb]
theorem grB_end {l : List Opr} {n j : Nat} (hl : l.length = n) (h : (l.take j).any bigO = false) (hj : j = n ∨ 200 ≤ j) : grB l n = decide (100 < n) := by
  have h2 : (l.take 200).any bigO = false := by
    rw [Bool.eq_false_iff] at h ⊢
    intro hx
    obtain ⟨r, hr, hb⟩ := List.any_eq_true.1 hx
    refine h (List.any_eq_true.2 ⟨r, ?_, hb⟩)
    rcases hj with rfl | hj
    · rw [List.take_of_length_le (by omega)]; exact List.mem_of_mem_take hr
    · obtain ⟨i, hi⟩ := List.mem_iff_getElem?.1 hr
      refine List.mem_of_getElem? (i := i) ?_
      rw [List.getElem?_take] at hi ⊢
      split at hi
      · rw [if_pos (by omega)]; exact hi
      · simp at hi
  unfold grB
  rw [h2]; rfl
/-- a call's cells, in any later world -/
theorem opr_cells {w : World} {b o n j : Nat} {l : List Opr} {r : Opr} (h : RdS Opr.cells w w.heap.size 7 (some ⟨b, o, none⟩) n l) (hj : l[j]? = some r) (hn : 0 < n) :
    ∀ w', Below w.heap.size w w' → (w'.cell? ⟨b, o + j * 7, none⟩ = some (.int .i64 r.what) ∧ w'.cell? ⟨b, o + j * 7 + 1, none⟩ = some (.int .i64 r.at_) ∧ w'.cell? ⟨b, o + j * 7 + 2, none⟩ = some (.int .i64 r.n)) ∧
      (w'.cell? ⟨b, o + j * 7 + 3, none⟩ = some (.slice r.v.A1 r.v.n1 r.v.c1) ∧ w'.cell? ⟨b, o + j * 7 + 4, none⟩ = some (.slice r.v.A2 r.v.n2 r.v.c2) ∧ w'.cell? ⟨b, o + j * 7 + 5, none⟩ = some (.slice r.v.A3 r.v.n3 r.v.c3)) ∧ w'.cell? ⟨b, o + j * 7 + 6, none⟩ = some (.slice r.A r.len r.cap) := by
  intro w' hb
  obtain ⟨b', o', e, hB, hc⟩ := h.2 hn
  injection e with e
  injection e with e1 e2
  subst e1 e2
  have k := fun i u hi => (hb.cell (p := ⟨b, o + j * 7 + i, none⟩) hB).trans (hc j r hj i u hi)
  exact ⟨⟨k 0 _ rfl, k 1 _ rfl, k 2 _ rfl⟩, ⟨k 3 _ rfl, k 4 _ rfl, k 5 _ rfl⟩, k 6 _ rfl⟩
theorem RdS.more' {α : Type} {f : α → List Value} {w : World} {B B' k n : Nat} {A : Option Addr} {l : List α} (h : RdS f w B k A n l) (hB : B ≤ B') : RdS f w B' k A n l := h.more hB
theorem Opr.ok.more {w : World} {B B' : Nat} {r : Opr} (h : r.ok w B) (hB : B ≤ B') : r.ok w B' := ⟨h.x.more hB, h.f, h.l.more hB, h.k, h.q, h.w1, h.w2, h.w3⟩
set_option maxHeartbeats 8000000 in
theorem great_any (A : Option Addr) (n c : Nat) (l : List Opr) (w : World) (B : Nat) (h : Ops w B A n l) (hn : n ≤ 140737488351232) (hB : B ≤ w.heap.size) :
    Calls Try.prog 20 #[.slice A n c] w fun e w' => e = .returned (.bool (grB l n)) ∧ Below w.heap.size w w' := by
  have h : Ops w w.heap.size A n l := ⟨h.1.more hB, fun r hr => (h.2 r hr).more hB⟩
  have hll := h.1.1
  have H := Lib.hid h
  have hnm : n ≤ 9223372036854775807 := by omega
  clear h
  go_enter Try.func20, Try.ntmps20
  go_wp2_with fail
  go_loopg [3] n (fun qq i wr => ∃ j : Nat, qq + j = n ∧ i = .int .i64 j ∧ j ≤ n ∧ (l.take j).any bigO = false ∧ Below w.heap.size w wr)
  case atStart => exact ⟨0, by omega, rfl, Nat.zero_le _, rfl, Below.refl _ _⟩
  case round =>
    obtain ⟨j, hj, rfl, hjn, hany, hb⟩ := hrel
    have Hany := Lib.hid hany
    have Hll := Lib.hid hll
    clear hany hll
    have Hb := Lib.hid hb
    clear hb
    by_cases hlt : j < n ∧ j < 200
    · obtain ⟨hlt, h200⟩ := hlt
      have hi0 : (0 : Int) ≤ (j : Int) := by omega
      have hi1 : (j : Int) < (n : Int) := by omega
      have hi2 : (j : Int) < 200 := by omega
      obtain ⟨bb, o, rfl, hbB, _⟩ := H.out.1.2 (by omega)
      obtain ⟨r, hr1⟩ : ∃ r, l[j]? = some r := ⟨_, List.getElem?_eq_getElem (by have := H.out.1.1; omega)⟩
      have hok := H.out.2 r (List.mem_of_getElem? hr1)
      have hcl := opr_cells H.out.1 hr1 (by omega)
      have hfit := hok.f
      have hq := hok.q
      obtain ⟨gv, hgv⟩ : ∃ gv, gv = decide (500 < r.v.n1 + r.v.n2 + r.v.n3 + r.len) := ⟨_, rfl⟩
      have Hgv := Lib.hid hgv
      have Hr1 := Lib.hid hr1
      have Hfit : Hid (r.v.n1 ≤ 140737488351232 ∧ r.v.n2 ≤ 140737488351232 ∧ r.v.n3 ≤ 140737488351232) := hfit
      have d0 : ∀ w', Below wr.heap.size wr w' → w'.cell? ⟨bb, o + j * 7 + 3, none⟩ = some (.slice r.v.A1 r.v.n1 r.v.c1) := fun w' h => (hcl w' (Hb.out.trans (h.mono Hb.out.size))).2.1.1
      have d1 : ∀ w', Below wr.heap.size wr w' → w'.cell? ⟨bb, o + j * 7 + 4, none⟩ = some (.slice r.v.A2 r.v.n2 r.v.c2) := fun w' h => (hcl w' (Hb.out.trans (h.mono Hb.out.size))).2.1.2.1
      have d2 : ∀ w', Below wr.heap.size wr w' → w'.cell? ⟨bb, o + j * 7 + 5, none⟩ = some (.slice r.v.A3 r.v.n3 r.v.c3) := fun w' h => (hcl w' (Hb.out.trans (h.mono Hb.out.size))).2.1.2.2
      have d3 : ∀ w', Below wr.heap.size wr w' → w'.cell? ⟨bb, o + j * 7 + 6, none⟩ = some (.slice r.A r.len r.cap) := fun w' h => (hcl w' (Hb.out.trans (h.mono Hb.out.size))).2.2
      clear hok hcl hfit hgv hr1
      go_wp2_with fail
      refine sk (fun w' => Below wr.heap.size wr w') 11 ?_ (fun hHeld => ?_)
      · (first | exact (Below.refl _ _).drew | assumption)
      refine tk 0 14 hHeld ?_
      refine tk 1 15 hHeld ?_
      refine tk 2 16 hHeld ?_
      refine tk 3 17 hHeld ?_
      refine tk 4 18 hHeld ?_
      refine tk 5 19 hHeld ?_
      refine tk 6 20 hHeld ?_
      refine tk 7 21 hHeld ?_
      refine tk 8 22 hHeld ?_
      refine tk 9 23 hHeld ?_
      refine bk 10 24 (fun K hK => ?_)
      go_simp
      (go_at_call 9; (with_reducible refine (greatState_any ⟨r.v.A1, r.v.n1, r.v.c1, r.v.A2, r.v.n2, r.v.c2, r.v.A3, r.v.n3, r.v.c3⟩ r.A r.len r.cap _ Hfit.out.1 Hfit.out.2.1 Hfit.out.2.2 hq).mono ?_))
      rintro e wn ⟨he, hbn⟩
      dsimp only at he
      rw [← Hgv.out] at he
      subst he
      have hHn := hHeld.trans (hbn.mono hHeld.size)
      refine hK.out _ _ ?_ (fun hHeld' => ?_)
      · (first | exact (Below.refl _ _).drew | assumption)
      clear hK K hHeld
      have hHeld := hHeld'
      clear hHeld'
      simp only [List.set_cons_zero, List.set_cons_succ]
      refine wpAnyH_done (by kernel_rfl) ?_ _
      refine NoPanic.normal ?_
      have Hw := Lib.hid (Hb.out.trans (hHeld.mono Hb.out.size))
      have hgb := Hgv.out
      clear hHeld d0 d1 d2 d3 Hgv
      cases gv
      · have hgb : bigO r = false := hgb.symm
        have Hgb := Lib.hid hgb
        clear hgb
        go_wp2_with fail
        go_roundg (gk - 1)
        case measure => omega
        case rel => exact ⟨j + 1, by omega, by go_num, by omega, any_next Hr1.out Hany.out Hgb.out, Hw.out⟩
      · have hgb : bigO r = true := hgb.symm
        have Hgb := Lib.hid hgb
        clear hgb
        go_wp2_with fail
        go_ret
        exact ⟨ret_bool2 (grB_yes Hr1.out (by omega) Hgb.out).symm, Hw.out⟩
    · have go : ¬ (j : Int) < (n : Int) ∨ (j : Int) < (n : Int) ∧ ¬ (j : Int) < 200 := by omega
      clear hlt
      rcases go with h | ⟨h, h'⟩
      all_goals
        go_wp2_with fail
        go_ret
        refine ⟨ret_bool2 ?_, Hb.out⟩
        rw [grB_end Hll.out Hany.out (by omega), decide_eq_decide]
        omega
end Go.Proofs.Ytcdgaeenfhpnkaa
/- A store on a disk whose power may fail: the disk as it is; log.Open. -/
set_option linter.unusedVariables false
set_option linter.unusedSimpArgs false
set_option maxRecDepth 100000
namespace Go.Proofs.Ytcdgaeenfhpnkaa.Cr
open Go Go.RowKit CrcMath
attribute [local go_sem] Oper.semAt_some

/-- blocks below one -/
def Lo (B : Nat) (k : Nat) : Prop := k < B
/-- a disk, and the block from which on it lies -/
structure DX where
  d : DD
  b0 : Nat
/-- the disk at p, q is m, which is up; what a log finds on it -/
def DK (w : World) (p q : Nat) (m : DX) (k half turn taken : Nat) (L : List (List Nat)) : Prop := ∃ d, HD w (Lo m.b0) p q d ∧ d = m.d ∧ m.d.down = false ∧ OS.from_ m.d 2 = ⟨L, half, turn, taken⟩ ∧ m.d.writes ≤ k ∧ ∀ b ∈ L, fineB b
section
variable {w w' W : World} {p q k half turn taken b j lb : Nat} {m : DX} {B : Nat} {L : List (List Nat)} {T : TypeId} {fr : Nat × Nat} {cur : Array Value} {u : Value} {d : DD}
theorem DK.below (h : DK w p q m k half turn taken L) (hb : Below w.heap.size w w') : DK w' p q m k half turn taken L := by
  obtain ⟨d, h1, h2⟩ := h
  exact ⟨d, h1.below hb, h2⟩
theorem HD.ty (h : HD W (Lo B) p q d) (hb : W.heap[b]? = some (.cells cur T fr)) (h1 : T ≠ 82) (h2 : T ≠ 150 ∧ T ≠ 101) : HD (W.setCell ⟨b, j, none⟩ u) (Lo B) p q d := by
  obtain ⟨c, h⟩ := h
  refine ⟨c, h.ok, fun k hk => by have := h.old k hk; simpa [World.setCell] using this, h.pq, h.up, h.uq, heap_set_other u h.hp (ty_ne h.hp hb h1), heap_set_other u h.hq (ty_ne h.hq hb h2.1), fun a b' e => ?_⟩
  obtain ⟨g1, g2, g3, g4⟩ := h.hc a b' e
  exact ⟨g1, g2, g3, heap_set_other u g4 (ty_ne g4 hb h2.2)⟩
theorem DK.ty (h : DK W p q m k half turn taken L) (hb : W.heap[b]? = some (.cells cur T fr)) (h1 : T ≠ 82) (h2 : T ≠ 150 ∧ T ≠ 101) : DK (W.setCell ⟨b, j, none⟩ u) p q m k half turn taken L := by
  obtain ⟨d, g1, g2⟩ := h
  exact ⟨d, HD.ty g1 hb h1 h2, g2⟩
theorem DK.fine (h : DK w p q m k half turn taken L) : ∀ b ∈ L, fineB b := by
  obtain ⟨d, _, _, _, _, _, h⟩ := h
  exact h
end
/-- what Open answers -/
def OpenL (p q : Nat) (m : DX) (k half turn taken : Nat) (l : List (List Nat)) (w : World) (e : Ending) (w' : World) : Prop :=
  ∃ v, e = .returned (.tuple #[.pointer (some ⟨w.heap.size, 0, none⟩), v, .int .i64 0]) ∧ OutOk w' (w.heap.size + 1) w'.heap.size v l ∧ LogAt w' w.heap.size p half turn taken ∧ DK w' p q m k half turn taken l ∧ Below w.heap.size w w'
theorem lg_open {p q k half turn taken : Nat} {m : DX} {l : List (List Nat)} {w : World} (h : DK w p q m k half turn taken l) :
    Calls Try.prog 48 #[.pointer (some ⟨p, 0, none⟩)] w (OpenL p q m k half turn taken l w) := by
  have h0 := h
  obtain ⟨d, hd, rfl, hup, hos, _⟩ := h
  refine (open_up (Lo m.b0) p q m.d w hd hup).mono ?_
  rintro e w' ⟨v, he, ho, hl, hb⟩
  rw [hos] at ho hl
  exact ⟨v, he, ho, hl, h0.below hb, hb⟩
/-- a store, its log, its disk -/
structure Sto (w : World) (p q lb sb base : Nat) (m : DX) (k half turn taken c e : Nat) (L : List (List Nat)) (N : List Nt) : Prop where
  dk : DK w p q m k half turn taken L
  at_ : LogAt w lb p half turn taken
  sto : StoAt w sb lb base c e N
  n32 : N.length ≤ 32
  okn : ∀ x ∈ N, okN x
  le : base ≤ w.heap.size
  ne : sb ≠ p ∧ sb ≠ q ∧ sb ≠ lb
end Go.Proofs.Ytcdgaeenfhpnkaa.Cr
