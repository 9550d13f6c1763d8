/- Package store: a note is read. -/
import Derived.Test.YtcdgaeenfhpnkaaPk20
set_option linter.unusedVariables false
set_option linter.unusedSimpArgs false
set_option maxRecDepth 100000
namespace Go.Proofs.Ytcdgaeenfhpnkaa
open Go Go.RowKit
attribute [local go_sem] Oper.semAt_some

def noteOf (k o t : Nat) : Nt := ⟨k, o, t⟩
def Rr.note (r : Rr) : Nt × Rr := (noteOf r.one.1 r.one.2.one.1 r.one.2.one.2.time.1, r.one.2.one.2.time.2.check (decide (okN (noteOf r.one.1 r.one.2.one.1 r.one.2.one.2.time.1))))
def zN : Obj := .cells #[.int .i64 0, .int .i64 0, .int .i64 0] 54
/-- while a note's numbers are read -/
structure NI (wa wc : World) (cp rb B : Nat) (r : Rr) (res : Nat) : Prop where
  rd : RdrAt wc rb B r
  chg : Chg (fun k => k = rb) wa wc
  hcp : wc.heap[cp]? = some (.cells #[.pointer (some ⟨rb, 0, none⟩)] 55)
  ne : cp ≠ rb ∧ res ≠ rb
  hres : wc.heap[res]? = some zN
  lt : cp < wa.heap.size ∧ rb < wa.heap.size ∧ res < wa.heap.size
/-- the note that is built, at bx -/
structure NB (wa wc : World) (bx : Nat) (cs : Array Value) : Prop where
  at_ : wc.heap[bx]? = some (.cells cs 54)
  ge : wa.heap.size ≤ bx
section
variable {wa wc w' : World} {cp rb B res bx j : Nat} {r r' : Rr} {cs : Array Value}
theorem NI.cell (h : NI wa wc cp rb B r res) : wc.cell? ⟨cp, 0, none⟩ = some (.pointer (some ⟨rb, 0, none⟩)) := by
  have := cell_of_row wc cp 0 _ _ _ h.hcp
  simpa using this
theorem NI.step (h : NI wa wc cp rb B r res) (hr : RdrAt w' rb B r') (hc : Chg (fun k => k = rb) wc w') : NI wa w' cp rb B r' res := by
  have hs := h.chg.size
  exact ⟨hr, h.chg.trans hc, (hc.at_ (by have := h.lt.1; omega) h.ne.1).trans h.hcp, h.ne, (hc.at_ (by have := h.lt.2.2; omega) h.ne.2).trans h.hres, h.lt⟩
theorem NI.below (h : NI wa wc cp rb B r res) (hb : Below wc.heap.size wc w') : NI wa w' cp rb B r res := h.step (h.rd.below hb) (Chg.of hb)
theorem NI.alloc (h : NI wa wc cp rb B r res) (o : Obj) : NI wa (wc.alloc o) cp rb B r res := h.below ((Below.refl _ _).alloc (Nat.le_refl _) o)
theorem NI.set (h : NI wa wc cp rb B r res) (hb : wa.heap.size ≤ bx) (u : Value) : NI wa (wc.setCell ⟨bx, j, none⟩ u) cp rb B r res :=
  ⟨rdr_other u h.rd (by have := h.lt.2.1; omega) (by have := h.rd.2.1; have := h.lt.2.1; omega), h.chg.setNew hb j u, heap_set_other u h.hcp (by have := h.lt.1; omega), h.ne, heap_set_other u h.hres (by have := h.lt.2.2; omega), h.lt⟩
theorem NB.step (h : NB wa wc bx cs) (hi : NI wa wc cp rb B r res) (hc : Chg (fun k => k = rb) wc w') : NB wa w' bx cs :=
  ⟨(hc.at_ (Array.getElem?_eq_some_iff.1 h.at_).1 (by have := h.ge; have := hi.lt.2.1; show ¬ bx = rb; omega)).trans h.at_, h.ge⟩
theorem NB.below (h : NB wa wc bx cs) (hb : Below wc.heap.size wc w') : NB wa w' bx cs := ⟨(hb.block _ (Array.getElem?_eq_some_iff.1 h.at_).1).trans h.at_, h.ge⟩
theorem NB.cells {k o t : Int} (h : NB wa wc bx #[.int .i64 k, .int .i64 o, .int .i64 t]) : wc.cell? ⟨bx, 0, none⟩ = some (.int .i64 k) ∧ wc.cell? ⟨bx, 1, none⟩ = some (.int .i64 o) ∧ wc.cell? ⟨bx, 2, none⟩ = some (.int .i64 t) := by
  have n0 := cell_of_row _ bx 0 _ _ _ h.at_
  have n1 := cell_of_row _ bx 1 _ _ _ h.at_
  have n2 := cell_of_row _ bx 2 _ _ _ h.at_
  simp at n0 n1 n2
  exact ⟨n0, n1, n2⟩
theorem NB.new (h : NI wa wc cp rb B r res) : NB wa (wc.alloc (.cells cs 54)) wc.heap.size cs := ⟨heap_alloc_new _ _, h.chg.size⟩
theorem NB.set (h : NB wa wc bx cs) (u : Value) : NB wa (wc.setCell ⟨bx, j, none⟩ u) bx (cs.setIfInBounds j u) := ⟨heap_set_same u h.at_, h.ge⟩
end
set_option maxHeartbeats 4000000 in
theorem note_rd (cp rb B : Nat) (r : Rr) (w : World) (h : RdrAt w rb B r) (hcp : w.heap[cp]? = some (.cells #[.pointer (some ⟨rb, 0, none⟩)] 55)) :
    Calls Try.prog 32 #[.pointer (some ⟨cp, 0, none⟩)] w fun e w' => e = .returned (.agg #[.int .i64 r.note.1.kind, .int .i64 r.note.1.who, .int .i64 r.note.1.at_]) ∧ RdrAt w' rb B r.note.2 ∧ Chg (fun k => k = rb) w w' := by
  obtain ⟨k, r1, hk⟩ : ∃ x r1, r.one = (x, r1) := ⟨_, _, rfl⟩
  obtain ⟨o, r2, ho⟩ : ∃ x r2, r1.one = (x, r2) := ⟨_, _, rfl⟩
  obtain ⟨t, r3, ht⟩ : ∃ t r3, r2.time = (t, r3) := ⟨_, _, rfl⟩
  have hk256 : k < 256 := by have := one_lt r h.bytes; rw [hk] at this; exact this
  have ho256 : o < 256 := by
    have := one_lt r1 (by have := one_bytes r h.bytes; rw [hk] at this; exact this)
    rw [ho] at this; exact this
  have hl : r.note = (noteOf k o t, r3.check (decide (okN (noteOf k o t)))) := by
    unfold Rr.note
    rw [hk]
    dsimp only
    rw [ho]
    dsimp only
    rw [ht]
  rw [hl]
  have al : ∀ (w : World) (o : Obj), Below w.heap.size w (w.alloc o) := fun w o => (Below.refl _ _).alloc (Nat.le_refl _) _
  have Al := Lib.hid al
  have hne : cp ≠ rb := by
    rintro rfl
    obtain ⟨⟨A, n, c, h1, _⟩, _⟩ := h
    rw [hcp] at h1
    injection h1 with h1
    injection h1 with _ h2
    exact absurd h2 (by decide)
  obtain ⟨wa, hwa⟩ : ∃ x, x = w.alloc zN := ⟨_, rfl⟩
  have hza : wa.heap.size = w.heap.size + 1 := by rw [hwa]; simp
  have hI0 : NI wa wa.drew cp rb B r w.heap.size := by
    have ha := al w zN
    have hlt := (Array.getElem?_eq_some_iff.1 hcp).1
    have hrl := h.lt
    rw [← hwa] at ha
    have hres : wa.heap[w.heap.size]? = some zN := by rw [hwa]; exact heap_alloc_new _ _
    have h0 : NI wa wa cp rb B r w.heap.size := ⟨h.below ha, Chg.refl _ _, (ha.block cp hlt).trans hcp, ⟨hne, by omega⟩, hres, by omega, by omega, by omega⟩
    exact h0.below (Below.refl _ _).drew
  have hca : Chg (fun k => k = rb) w wa := by rw [hwa]; exact Chg.of (al w zN)
  have HK := Lib.hid hk
  have HO := Lib.hid ho
  have HT := Lib.hid ht
  have Hwa := Lib.hid hwa
  have Hza := Lib.hid hza
  have Hca := Lib.hid hca
  have HI0 := Lib.hid hI0
  have hkI : (k : Int) < 256 := by omega
  have hoI : (o : Int) < 256 := by omega
  have HBr : Hid (B ≤ w.heap.size) := by have := hI0.rd.2.1; have := hI0.lt.2.1; show _ ≤ _; omega
  have HWk : Hid (IntKind.i64.wrap (k : Int) = (k : Int)) := IntWalk.i64_in _ (by omega)
  have HWo : Hid (IntKind.i64.wrap (o : Int) = (o : Int)) := IntWalk.i64_in _ (by omega)
  unfold zN at Hwa
  clear h hcp hk ho ht hl al hne hwa hza hca hI0
  go_enter Try.func32, Try.ntmps32
  go_wp2_with fail
  rw [← Hwa.out]
  have hI := HI0.out
  clear HI0
  refine sk (fun w' => w'.cell? ⟨cp, 0, none⟩ = some (.pointer (some ⟨rb, 0, none⟩))) 9 ?_ (fun hHeld => ?_)
  · (exact hI.cell)
  refine tk 0 3 hHeld ?_
  refine tk 3 6 hHeld ?_
  refine wpAnyH_ready (rs := [1, 7]) (by kernel_rfl) (by simp) ?_
  refine (consH 1 4 #[true, true, false, true, false, false, false, false, false] rfl rfl rfl (by rfl) (fun K hK => ?_) (consH 7 2 #[true, false, false, true, false, false, false, true, false] rfl rfl rfl (by rfl) (fun K hK => ?_) AllReadyH.nil))
  · go_simp
    (go_at_call 33; (with_reducible refine (one_any rb B r _ hI.rd).mono ?_))
    rintro e w1 ⟨he, hr1, hc1⟩
    rw [HK.out] at he hr1
    subst he
    try (have hN := hN.step hI hc1)
    have hI := hI.step hr1 hc1
    clear hr1 hc1
    refine hK.out _ _ ?_ (fun hHeld' => ?_)
    · (exact hI.cell)
    clear hK K hHeld
    have hHeld := hHeld'
    clear hHeld'
    simp only [List.set_cons_zero, List.set_cons_succ]
    refine tk 2 5 hHeld ?_
    refine wpAnyH_ready (rs := [4, 7]) (by kernel_rfl) (by simp) ?_
    refine (consH 4 7 #[true, true, true, true, true, false, false, false, false] rfl rfl rfl (by rfl) (fun K hK => ?_) (consH 7 2 #[true, true, true, true, false, false, false, true, false] rfl rfl rfl (by rfl) (fun K hK => ?_) AllReadyH.nil))
    · go_simp
      (go_at_call 33; (with_reducible refine (one_any rb B r1 _ hI.rd).mono ?_))
      rintro e w4 ⟨he, hr4, hc4⟩
      rw [HO.out] at he hr4
      subst he
      try (have hN := hN.step hI hc4)
      have hI := hI.step hr4 hc4
      clear hr4 hc4
      refine hK.out _ _ ?_ (fun hHeld' => ?_)
      · (exact hI.cell)
      clear hK K hHeld
      have hHeld := hHeld'
      clear hHeld'
      simp only [List.set_cons_zero, List.set_cons_succ]
      refine tk 5 8 hHeld ?_
      refine tk 6 9 hHeld ?_
      refine bk 7 2 (fun K hK => ?_)
      go_simp
      have hN := NB.new (cs := #[.int .i64 0, .int .i64 0, .int .i64 0]) hI
      have hI := hI.alloc (.cells #[.int .i64 0, .int .i64 0, .int .i64 0] 54)
      first
        | (obtain ⟨w7, hw7⟩ : ∃ x, x = w4.alloc (.cells #[.int .i64 0, .int .i64 0, .int .i64 0] 54) := ⟨_, rfl⟩
           obtain ⟨bx, hbx⟩ : ∃ b, b = w4.heap.size := ⟨_, rfl⟩
           rw [← hw7, ← hbx]
           have hN : NB wa w7 bx #[.int .i64 0, .int .i64 0, .int .i64 0] := by rw [hw7, hbx]; exact hN
           have hI : NI wa w7 cp rb B r2 w.heap.size := by rw [hw7]; exact hI)
        | (obtain ⟨w7, hw7⟩ : ∃ x, x = w1.alloc (.cells #[.int .i64 0, .int .i64 0, .int .i64 0] 54) := ⟨_, rfl⟩
           obtain ⟨bx, hbx⟩ : ∃ b, b = w1.heap.size := ⟨_, rfl⟩
           rw [← hw7, ← hbx]
           have hN : NB wa w7 bx #[.int .i64 0, .int .i64 0, .int .i64 0] := by rw [hw7, hbx]; exact hN
           have hI : NI wa w7 cp rb B r1 w.heap.size := by rw [hw7]; exact hI)
        | (obtain ⟨w7, hw7⟩ : ∃ x, x = wa.drew.alloc (.cells #[.int .i64 0, .int .i64 0, .int .i64 0] 54) := ⟨_, rfl⟩
           obtain ⟨bx, hbx⟩ : ∃ b, b = wa.heap.size := ⟨_, rfl⟩
           first | rw [← hw7, ← hbx] | (rw [← hbx]; show K _ (wa.drew.alloc (.cells #[.int .i64 0, .int .i64 0, .int .i64 0] 54)); rw [← hw7])
           have hN : NB wa w7 bx #[.int .i64 0, .int .i64 0, .int .i64 0] := by rw [hw7, hbx]; exact hN
           have hI : NI wa w7 cp rb B r w.heap.size := by rw [hw7]; exact hI)
      clear hw7 hbx
      refine hK.out _ _ ?_ (fun hHeld' => ?_)
      · (exact hI.cell)
      clear hK K hHeld
      have hHeld := hHeld'
      clear hHeld'
      simp only [List.set_cons_zero, List.set_cons_succ]
      refine bn 8 (fun K hK => ?_)
      have n0 := cell_of_row _ bx 0 _ _ _ hN.at_
      have n1 := cell_of_row _ bx 1 _ _ _ hN.at_
      have n2 := cell_of_row _ bx 2 _ _ _ hN.at_
      have m0 := frozen_of_row _ bx 0 _ _ hN.at_
      have m1 := frozen_of_row _ bx 1 _ _ hN.at_
      have m2 := frozen_of_row _ bx 2 _ _ hN.at_
      simp at n0 n1 n2
      go_simp
      first
        | (obtain ⟨w8, hw8⟩ : ∃ x, x = (((w7.setCell ⟨bx, 0, none⟩ (.int .i64 (IntKind.i64.wrap (k : Int)))).setCell ⟨bx, 1, none⟩ (.int .i64 (IntKind.i64.wrap (o : Int)))).setCell ⟨bx, 2, none⟩ (.int .i64 0)) := ⟨_, rfl⟩
           rw [← hw8]
           have hI : NI wa w8 cp rb B r2 w.heap.size := by rw [hw8]; exact ((hI.set hN.ge _).set hN.ge _).set hN.ge _
           have hN : NB wa w8 bx #[.int .i64 k, .int .i64 o, .int .i64 0] := by
             have h := ((hN.set (j := 0) (.int .i64 (IntKind.i64.wrap (k : Int)))).set (j := 1) (.int .i64 (IntKind.i64.wrap (o : Int)))).set (j := 2) (.int .i64 0)
             rw [HWk.out, HWo.out] at h
             rw [hw8, HWk.out, HWo.out]; exact h)
        | (obtain ⟨w8, hw8⟩ : ∃ x, x = (((w4.setCell ⟨bx, 0, none⟩ (.int .i64 (IntKind.i64.wrap (k : Int)))).setCell ⟨bx, 1, none⟩ (.int .i64 (IntKind.i64.wrap (o : Int)))).setCell ⟨bx, 2, none⟩ (.int .i64 0)) := ⟨_, rfl⟩
           rw [← hw8]
           have hI : NI wa w8 cp rb B r2 w.heap.size := by rw [hw8]; exact ((hI.set hN.ge _).set hN.ge _).set hN.ge _
           have hN : NB wa w8 bx #[.int .i64 k, .int .i64 o, .int .i64 0] := by
             have h := ((hN.set (j := 0) (.int .i64 (IntKind.i64.wrap (k : Int)))).set (j := 1) (.int .i64 (IntKind.i64.wrap (o : Int)))).set (j := 2) (.int .i64 0)
             rw [HWk.out, HWo.out] at h
             rw [hw8, HWk.out, HWo.out]; exact h)
      clear hw8 n0 n1 n2 m0 m1 m2
      first | refine hK.out undef _ ?_ (fun hHeld' => ?_) | refine hK.out _ _ ?_ (fun hHeld' => ?_)
      · (exact hI.cell)
      clear hK K hHeld
      have hHeld := hHeld'
      clear hHeld'
      try simp only [List.set_cons_zero, List.set_cons_succ]
      refine wpAnyH_done (by kernel_rfl) ?_ _
      refine NoPanic.normal ?_
      have HI := Lib.hid hI
      have HN := Lib.hid hN
      have z8 := hI.cell
      clear hI hN hHeld
      go_wp2_with (first
        | (go_at_call 30; (with_reducible refine (time_rd rb B r2 _ HI.out.rd).mono ?_)
           rintro e w9 ⟨he, hr9, hc9⟩
           rw [HT.out] at he hr9
           subst he
           have hN9 := HN.out.step HI.out hc9
           have hI9 := HI.out.step hr9 hc9
           have n2 := cell_of_row _ bx 2 _ _ _ hN9.at_
           have m2 := frozen_of_row _ bx 2 _ _ hN9.at_
           simp at n2
           have HI9 := Lib.hid hI9
           have HN9 := Lib.hid hN9
           clear hr9 hc9 hN9 hI9 z8))
      obtain ⟨wd, hwd⟩ : ∃ x, x = w9.setCell ⟨bx, 2, none⟩ (.int .i64 t) := ⟨_, rfl⟩
      have hI10 : NI wa wd cp rb B r3 w.heap.size := by rw [hwd]; exact HI9.out.set HN9.out.ge _
      have hN10 : NB wa wd bx #[.int .i64 k, .int .i64 o, .int .i64 t] := by rw [hwd]; exact HN9.out.set (.int .i64 (t : Int))
      rw [← hwd]
      have hS0 := And.intro (hI10.below (Below.refl _ wd).drew).cell (hN10.below (Below.refl _ wd).drew).cells
      have HS0 := Lib.hid hS0
      have HI10 := Lib.hid (hI10.below (Below.refl _ wd).drew)
      have HN10 := Lib.hid (hN10.below (Below.refl _ wd).drew)
      clear hwd hI10 hN10 hS0 n2 m2 HI9 HN9 HI HN
      refine sk (fun w' => w'.cell? ⟨cp, 0, none⟩ = some (.pointer (some ⟨rb, 0, none⟩)) ∧ w'.cell? ⟨bx, 0, none⟩ = some (.int .i64 k) ∧ w'.cell? ⟨bx, 1, none⟩ = some (.int .i64 o) ∧ w'.cell? ⟨bx, 2, none⟩ = some (.int .i64 t)) 4 ?_ (fun hHeld => ?_)
      · (first | exact HS0.out | exact hS11 | exact hS12)
      refine tk 0 13 hHeld ?_
      refine tk 1 14 hHeld ?_
      refine bk 2 15 (fun K hK => ?_)
      go_simp
      (go_at_call 35; (with_reducible refine (rightNote_any ⟨(k : Int), (o : Int), (t : Int)⟩ _).mono ?_))
      rintro e w11 ⟨rfl, hb11⟩
      have hI11 := HI10.out.below hb11
      have hN11 := HN10.out.below hb11
      have hS11 := And.intro hI11.cell hN11.cells
      clear hb11
      refine hK.out _ _ ?_ (fun hHeld' => ?_)
      · (first | exact HS0.out | exact hS11 | exact hS12)
      clear hK K hHeld
      have hHeld := hHeld'
      clear hHeld'
      simp only [List.set_cons_zero, List.set_cons_succ]
      refine bk 3 16 (fun K hK => ?_)
      go_simp
      (go_at_call 34; (with_reducible refine (check_any rb B r3 _ _ hI11.rd).mono ?_))
      rintro e w12 ⟨rfl, hr12, hc12⟩
      have hI12 := hI11.step hr12 hc12
      have hN12 := hN11.step hI11 hc12
      have hS12 := And.intro hI12.cell hN12.cells
      clear hr12 hc12
      refine hK.out _ _ ?_ (fun hHeld' => ?_)
      · (first | exact HS0.out | exact hS11 | exact hS12)
      clear hK K hHeld
      have hHeld := hHeld'
      clear hHeld'
      simp only [List.set_cons_zero, List.set_cons_succ]
      refine wpAnyH_done (by kernel_rfl) ?_ _
      refine NoPanic.normal ?_
      obtain ⟨y0, y1, y2⟩ := hN12.cells
      have s0 := cell_of_row w12 w.heap.size 0 _ _ _ hI12.hres
      have s1 := cell_of_row w12 w.heap.size 1 _ _ _ hI12.hres
      have s2 := cell_of_row w12 w.heap.size 2 _ _ _ hI12.hres
      have q0 := frozen_of_row w12 w.heap.size 0 _ _ hI12.hres
      have q1 := frozen_of_row w12 w.heap.size 1 _ _ hI12.hres
      have q2 := frozen_of_row w12 w.heap.size 2 _ _ hI12.hres
      simp at s0 s1 s2
      have HI12 := Lib.hid hI12
      clear hI12 hN12 hS12 hHeld HS0 hI11 hN11 hS11
      go_wp2_with fail
      have hne2 : w.heap.size ≠ rb := HI12.out.ne.2
      have hB2 : B ≤ w.heap.size := HBr.out
      refine bodyPost_ret (results_cell_row rfl _ _ w.heap.size 54 #[.int .i64 k, .int .i64 o, .int .i64 t] (0, 0) _ rfl (heap_set_same (j := 2) (.int .i64 (t : Int)) (heap_set_same (j := 1) (.int .i64 (o : Int)) (heap_set_same (j := 0) (.int .i64 (k : Int)) HI12.out.hres))) Try.underlying54 rfl (by kernel_rfl)) rfl ⟨rfl, rdr_other (j := 2) _ (rdr_other (j := 1) _ (rdr_other (b := w.heap.size) (j := 0) _ HI12.out.rd hne2 hB2) hne2 hB2) hne2 hB2,
        (((Hca.out.trans HI12.out.chg).setNew (b := w.heap.size) (Nat.le_refl _) 0 _).setNew (b := w.heap.size) (Nat.le_refl _) 1 _).setNew (b := w.heap.size) (Nat.le_refl _) 2 _⟩
    · go_simp
      have hN := NB.new (cs := #[.int .i64 0, .int .i64 0, .int .i64 0]) hI
      have hI := hI.alloc (.cells #[.int .i64 0, .int .i64 0, .int .i64 0] 54)
      first
        | (obtain ⟨w7, hw7⟩ : ∃ x, x = w4.alloc (.cells #[.int .i64 0, .int .i64 0, .int .i64 0] 54) := ⟨_, rfl⟩
           obtain ⟨bx, hbx⟩ : ∃ b, b = w4.heap.size := ⟨_, rfl⟩
           rw [← hw7, ← hbx]
           have hN : NB wa w7 bx #[.int .i64 0, .int .i64 0, .int .i64 0] := by rw [hw7, hbx]; exact hN
           have hI : NI wa w7 cp rb B r2 w.heap.size := by rw [hw7]; exact hI)
        | (obtain ⟨w7, hw7⟩ : ∃ x, x = w1.alloc (.cells #[.int .i64 0, .int .i64 0, .int .i64 0] 54) := ⟨_, rfl⟩
           obtain ⟨bx, hbx⟩ : ∃ b, b = w1.heap.size := ⟨_, rfl⟩
           rw [← hw7, ← hbx]
           have hN : NB wa w7 bx #[.int .i64 0, .int .i64 0, .int .i64 0] := by rw [hw7, hbx]; exact hN
           have hI : NI wa w7 cp rb B r1 w.heap.size := by rw [hw7]; exact hI)
        | (obtain ⟨w7, hw7⟩ : ∃ x, x = wa.drew.alloc (.cells #[.int .i64 0, .int .i64 0, .int .i64 0] 54) := ⟨_, rfl⟩
           obtain ⟨bx, hbx⟩ : ∃ b, b = wa.heap.size := ⟨_, rfl⟩
           first | rw [← hw7, ← hbx] | (rw [← hbx]; show K _ (wa.drew.alloc (.cells #[.int .i64 0, .int .i64 0, .int .i64 0] 54)); rw [← hw7])
           have hN : NB wa w7 bx #[.int .i64 0, .int .i64 0, .int .i64 0] := by rw [hw7, hbx]; exact hN
           have hI : NI wa w7 cp rb B r w.heap.size := by rw [hw7]; exact hI)
      clear hw7 hbx
      refine hK.out _ _ ?_ (fun hHeld' => ?_)
      · (exact hI.cell)
      clear hK K hHeld
      have hHeld := hHeld'
      clear hHeld'
      simp only [List.set_cons_zero, List.set_cons_succ]
      refine bk 4 7 (fun K hK => ?_)
      go_simp
      (go_at_call 33; (with_reducible refine (one_any rb B r1 _ hI.rd).mono ?_))
      rintro e w4 ⟨he, hr4, hc4⟩
      rw [HO.out] at he hr4
      subst he
      try (have hN := hN.step hI hc4)
      have hI := hI.step hr4 hc4
      clear hr4 hc4
      refine hK.out _ _ ?_ (fun hHeld' => ?_)
      · (exact hI.cell)
      clear hK K hHeld
      have hHeld := hHeld'
      clear hHeld'
      simp only [List.set_cons_zero, List.set_cons_succ]
      refine tk 5 8 hHeld ?_
      refine tk 6 9 hHeld ?_
      refine bn 8 (fun K hK => ?_)
      have n0 := cell_of_row _ bx 0 _ _ _ hN.at_
      have n1 := cell_of_row _ bx 1 _ _ _ hN.at_
      have n2 := cell_of_row _ bx 2 _ _ _ hN.at_
      have m0 := frozen_of_row _ bx 0 _ _ hN.at_
      have m1 := frozen_of_row _ bx 1 _ _ hN.at_
      have m2 := frozen_of_row _ bx 2 _ _ hN.at_
      simp at n0 n1 n2
      go_simp
      first
        | (obtain ⟨w8, hw8⟩ : ∃ x, x = (((w7.setCell ⟨bx, 0, none⟩ (.int .i64 (IntKind.i64.wrap (k : Int)))).setCell ⟨bx, 1, none⟩ (.int .i64 (IntKind.i64.wrap (o : Int)))).setCell ⟨bx, 2, none⟩ (.int .i64 0)) := ⟨_, rfl⟩
           rw [← hw8]
           have hI : NI wa w8 cp rb B r2 w.heap.size := by rw [hw8]; exact ((hI.set hN.ge _).set hN.ge _).set hN.ge _
           have hN : NB wa w8 bx #[.int .i64 k, .int .i64 o, .int .i64 0] := by
             have h := ((hN.set (j := 0) (.int .i64 (IntKind.i64.wrap (k : Int)))).set (j := 1) (.int .i64 (IntKind.i64.wrap (o : Int)))).set (j := 2) (.int .i64 0)
             rw [HWk.out, HWo.out] at h
             rw [hw8, HWk.out, HWo.out]; exact h)
        | (obtain ⟨w8, hw8⟩ : ∃ x, x = (((w4.setCell ⟨bx, 0, none⟩ (.int .i64 (IntKind.i64.wrap (k : Int)))).setCell ⟨bx, 1, none⟩ (.int .i64 (IntKind.i64.wrap (o : Int)))).setCell ⟨bx, 2, none⟩ (.int .i64 0)) := ⟨_, rfl⟩
           rw [← hw8]
           have hI : NI wa w8 cp rb B r2 w.heap.size := by rw [hw8]; exact ((hI.set hN.ge _).set hN.ge _).set hN.ge _
           have hN : NB wa w8 bx #[.int .i64 k, .int .i64 o, .int .i64 0] := by
             have h := ((hN.set (j := 0) (.int .i64 (IntKind.i64.wrap (k : Int)))).set (j := 1) (.int .i64 (IntKind.i64.wrap (o : Int)))).set (j := 2) (.int .i64 0)
             rw [HWk.out, HWo.out] at h
             rw [hw8, HWk.out, HWo.out]; exact h)
      clear hw8 n0 n1 n2 m0 m1 m2
      first | refine hK.out undef _ ?_ (fun hHeld' => ?_) | refine hK.out _ _ ?_ (fun hHeld' => ?_)
      · (exact hI.cell)
      clear hK K hHeld
      have hHeld := hHeld'
      clear hHeld'
      try simp only [List.set_cons_zero, List.set_cons_succ]
      refine wpAnyH_done (by kernel_rfl) ?_ _
      refine NoPanic.normal ?_
      have HI := Lib.hid hI
      have HN := Lib.hid hN
      have z8 := hI.cell
      clear hI hN hHeld
      go_wp2_with (first
        | (go_at_call 30; (with_reducible refine (time_rd rb B r2 _ HI.out.rd).mono ?_)
           rintro e w9 ⟨he, hr9, hc9⟩
           rw [HT.out] at he hr9
           subst he
           have hN9 := HN.out.step HI.out hc9
           have hI9 := HI.out.step hr9 hc9
           have n2 := cell_of_row _ bx 2 _ _ _ hN9.at_
           have m2 := frozen_of_row _ bx 2 _ _ hN9.at_
           simp at n2
           have HI9 := Lib.hid hI9
           have HN9 := Lib.hid hN9
           clear hr9 hc9 hN9 hI9 z8))
      obtain ⟨wd, hwd⟩ : ∃ x, x = w9.setCell ⟨bx, 2, none⟩ (.int .i64 t) := ⟨_, rfl⟩
      have hI10 : NI wa wd cp rb B r3 w.heap.size := by rw [hwd]; exact HI9.out.set HN9.out.ge _
      have hN10 : NB wa wd bx #[.int .i64 k, .int .i64 o, .int .i64 t] := by rw [hwd]; exact HN9.out.set (.int .i64 (t : Int))
      rw [← hwd]
      have hS0 := And.intro (hI10.below (Below.refl _ wd).drew).cell (hN10.below (Below.refl _ wd).drew).cells
      have HS0 := Lib.hid hS0
      have HI10 := Lib.hid (hI10.below (Below.refl _ wd).drew)
      have HN10 := Lib.hid (hN10.below (Below.refl _ wd).drew)
      clear hwd hI10 hN10 hS0 n2 m2 HI9 HN9 HI HN
      refine sk (fun w' => w'.cell? ⟨cp, 0, none⟩ = some (.pointer (some ⟨rb, 0, none⟩)) ∧ w'.cell? ⟨bx, 0, none⟩ = some (.int .i64 k) ∧ w'.cell? ⟨bx, 1, none⟩ = some (.int .i64 o) ∧ w'.cell? ⟨bx, 2, none⟩ = some (.int .i64 t)) 4 ?_ (fun hHeld => ?_)
      · (first | exact HS0.out | exact hS11 | exact hS12)
      refine tk 0 13 hHeld ?_
      refine tk 1 14 hHeld ?_
      refine bk 2 15 (fun K hK => ?_)
      go_simp
      (go_at_call 35; (with_reducible refine (rightNote_any ⟨(k : Int), (o : Int), (t : Int)⟩ _).mono ?_))
      rintro e w11 ⟨rfl, hb11⟩
      have hI11 := HI10.out.below hb11
      have hN11 := HN10.out.below hb11
      have hS11 := And.intro hI11.cell hN11.cells
      clear hb11
      refine hK.out _ _ ?_ (fun hHeld' => ?_)
      · (first | exact HS0.out | exact hS11 | exact hS12)
      clear hK K hHeld
      have hHeld := hHeld'
      clear hHeld'
      simp only [List.set_cons_zero, List.set_cons_succ]
      refine bk 3 16 (fun K hK => ?_)
      go_simp
      (go_at_call 34; (with_reducible refine (check_any rb B r3 _ _ hI11.rd).mono ?_))
      rintro e w12 ⟨rfl, hr12, hc12⟩
      have hI12 := hI11.step hr12 hc12
      have hN12 := hN11.step hI11 hc12
      have hS12 := And.intro hI12.cell hN12.cells
      clear hr12 hc12
      refine hK.out _ _ ?_ (fun hHeld' => ?_)
      · (first | exact HS0.out | exact hS11 | exact hS12)
      clear hK K hHeld
      have hHeld := hHeld'
      clear hHeld'
      simp only [List.set_cons_zero, List.set_cons_succ]
      refine wpAnyH_done (by kernel_rfl) ?_ _
      refine NoPanic.normal ?_
      obtain ⟨y0, y1, y2⟩ := hN12.cells
      have s0 := cell_of_row w12 w.heap.size 0 _ _ _ hI12.hres
      have s1 := cell_of_row w12 w.heap.size 1 _ _ _ hI12.hres
      have s2 := cell_of_row w12 w.heap.size 2 _ _ _ hI12.hres
      have q0 := frozen_of_row w12 w.heap.size 0 _ _ hI12.hres
      have q1 := frozen_of_row w12 w.heap.size 1 _ _ hI12.hres
      have q2 := frozen_of_row w12 w.heap.size 2 _ _ hI12.hres
      simp at s0 s1 s2
      have HI12 := Lib.hid hI12
      clear hI12 hN12 hS12 hHeld HS0 hI11 hN11 hS11
      go_wp2_with fail
      have hne2 : w.heap.size ≠ rb := HI12.out.ne.2
      have hB2 : B ≤ w.heap.size := HBr.out
      refine bodyPost_ret (results_cell_row rfl _ _ w.heap.size 54 #[.int .i64 k, .int .i64 o, .int .i64 t] (0, 0) _ rfl (heap_set_same (j := 2) (.int .i64 (t : Int)) (heap_set_same (j := 1) (.int .i64 (o : Int)) (heap_set_same (j := 0) (.int .i64 (k : Int)) HI12.out.hres))) Try.underlying54 rfl (by kernel_rfl)) rfl ⟨rfl, rdr_other (j := 2) _ (rdr_other (j := 1) _ (rdr_other (b := w.heap.size) (j := 0) _ HI12.out.rd hne2 hB2) hne2 hB2) hne2 hB2,
        (((Hca.out.trans HI12.out.chg).setNew (b := w.heap.size) (Nat.le_refl _) 0 _).setNew (b := w.heap.size) (Nat.le_refl _) 1 _).setNew (b := w.heap.size) (Nat.le_refl _) 2 _⟩
  · go_simp
    have hN := NB.new (cs := #[.int .i64 0, .int .i64 0, .int .i64 0]) hI
    have hI := hI.alloc (.cells #[.int .i64 0, .int .i64 0, .int .i64 0] 54)
    first
      | (obtain ⟨w7, hw7⟩ : ∃ x, x = w4.alloc (.cells #[.int .i64 0, .int .i64 0, .int .i64 0] 54) := ⟨_, rfl⟩
         obtain ⟨bx, hbx⟩ : ∃ b, b = w4.heap.size := ⟨_, rfl⟩
         rw [← hw7, ← hbx]
         have hN : NB wa w7 bx #[.int .i64 0, .int .i64 0, .int .i64 0] := by rw [hw7, hbx]; exact hN
         have hI : NI wa w7 cp rb B r2 w.heap.size := by rw [hw7]; exact hI)
      | (obtain ⟨w7, hw7⟩ : ∃ x, x = w1.alloc (.cells #[.int .i64 0, .int .i64 0, .int .i64 0] 54) := ⟨_, rfl⟩
         obtain ⟨bx, hbx⟩ : ∃ b, b = w1.heap.size := ⟨_, rfl⟩
         rw [← hw7, ← hbx]
         have hN : NB wa w7 bx #[.int .i64 0, .int .i64 0, .int .i64 0] := by rw [hw7, hbx]; exact hN
         have hI : NI wa w7 cp rb B r1 w.heap.size := by rw [hw7]; exact hI)
      | (obtain ⟨w7, hw7⟩ : ∃ x, x = wa.drew.alloc (.cells #[.int .i64 0, .int .i64 0, .int .i64 0] 54) := ⟨_, rfl⟩
         obtain ⟨bx, hbx⟩ : ∃ b, b = wa.heap.size := ⟨_, rfl⟩
         first | rw [← hw7, ← hbx] | (rw [← hbx]; show K _ (wa.drew.alloc (.cells #[.int .i64 0, .int .i64 0, .int .i64 0] 54)); rw [← hw7])
         have hN : NB wa w7 bx #[.int .i64 0, .int .i64 0, .int .i64 0] := by rw [hw7, hbx]; exact hN
         have hI : NI wa w7 cp rb B r w.heap.size := by rw [hw7]; exact hI)
    clear hw7 hbx
    refine hK.out _ _ ?_ (fun hHeld' => ?_)
    · (exact hI.cell)
    clear hK K hHeld
    have hHeld := hHeld'
    clear hHeld'
    simp only [List.set_cons_zero, List.set_cons_succ]
    refine bk 1 4 (fun K hK => ?_)
    go_simp
    (go_at_call 33; (with_reducible refine (one_any rb B r _ hI.rd).mono ?_))
    rintro e w1 ⟨he, hr1, hc1⟩
    rw [HK.out] at he hr1
    subst he
    try (have hN := hN.step hI hc1)
    have hI := hI.step hr1 hc1
    clear hr1 hc1
    refine hK.out _ _ ?_ (fun hHeld' => ?_)
    · (exact hI.cell)
    clear hK K hHeld
    have hHeld := hHeld'
    clear hHeld'
    simp only [List.set_cons_zero, List.set_cons_succ]
    refine tk 2 5 hHeld ?_
    refine bk 4 7 (fun K hK => ?_)
    go_simp
    (go_at_call 33; (with_reducible refine (one_any rb B r1 _ hI.rd).mono ?_))
    rintro e w4 ⟨he, hr4, hc4⟩
    rw [HO.out] at he hr4
    subst he
    try (have hN := hN.step hI hc4)
    have hI := hI.step hr4 hc4
    clear hr4 hc4
    refine hK.out _ _ ?_ (fun hHeld' => ?_)
    · (exact hI.cell)
    clear hK K hHeld
    have hHeld := hHeld'
    clear hHeld'
    simp only [List.set_cons_zero, List.set_cons_succ]
    refine tk 5 8 hHeld ?_
    refine tk 6 9 hHeld ?_
    refine bn 8 (fun K hK => ?_)
    have n0 := cell_of_row _ bx 0 _ _ _ hN.at_
    have n1 := cell_of_row _ bx 1 _ _ _ hN.at_
    have n2 := cell_of_row _ bx 2 _ _ _ hN.at_
    have m0 := frozen_of_row _ bx 0 _ _ hN.at_
    have m1 := frozen_of_row _ bx 1 _ _ hN.at_
    have m2 := frozen_of_row _ bx 2 _ _ hN.at_
    simp at n0 n1 n2
    go_simp
    first
      | (obtain ⟨w8, hw8⟩ : ∃ x, x = (((w7.setCell ⟨bx, 0, none⟩ (.int .i64 (IntKind.i64.wrap (k : Int)))).setCell ⟨bx, 1, none⟩ (.int .i64 (IntKind.i64.wrap (o : Int)))).setCell ⟨bx, 2, none⟩ (.int .i64 0)) := ⟨_, rfl⟩
         rw [← hw8]
         have hI : NI wa w8 cp rb B r2 w.heap.size := by rw [hw8]; exact ((hI.set hN.ge _).set hN.ge _).set hN.ge _
         have hN : NB wa w8 bx #[.int .i64 k, .int .i64 o, .int .i64 0] := by
           have h := ((hN.set (j := 0) (.int .i64 (IntKind.i64.wrap (k : Int)))).set (j := 1) (.int .i64 (IntKind.i64.wrap (o : Int)))).set (j := 2) (.int .i64 0)
           rw [HWk.out, HWo.out] at h
           rw [hw8, HWk.out, HWo.out]; exact h)
      | (obtain ⟨w8, hw8⟩ : ∃ x, x = (((w4.setCell ⟨bx, 0, none⟩ (.int .i64 (IntKind.i64.wrap (k : Int)))).setCell ⟨bx, 1, none⟩ (.int .i64 (IntKind.i64.wrap (o : Int)))).setCell ⟨bx, 2, none⟩ (.int .i64 0)) := ⟨_, rfl⟩
         rw [← hw8]
         have hI : NI wa w8 cp rb B r2 w.heap.size := by rw [hw8]; exact ((hI.set hN.ge _).set hN.ge _).set hN.ge _
         have hN : NB wa w8 bx #[.int .i64 k, .int .i64 o, .int .i64 0] := by
           have h := ((hN.set (j := 0) (.int .i64 (IntKind.i64.wrap (k : Int)))).set (j := 1) (.int .i64 (IntKind.i64.wrap (o : Int)))).set (j := 2) (.int .i64 0)
           rw [HWk.out, HWo.out] at h
           rw [hw8, HWk.out, HWo.out]; exact h)
    clear hw8 n0 n1 n2 m0 m1 m2
    first | refine hK.out undef _ ?_ (fun hHeld' => ?_) | refine hK.out _ _ ?_ (fun hHeld' => ?_)
    · (exact hI.cell)
    clear hK K hHeld
    have hHeld := hHeld'
    clear hHeld'
    try simp only [List.set_cons_zero, List.set_cons_succ]
    refine wpAnyH_done (by kernel_rfl) ?_ _
    refine NoPanic.normal ?_
    have HI := Lib.hid hI
    have HN := Lib.hid hN
    have z8 := hI.cell
    clear hI hN hHeld
    go_wp2_with (first
      | (go_at_call 30; (with_reducible refine (time_rd rb B r2 _ HI.out.rd).mono ?_)
         rintro e w9 ⟨he, hr9, hc9⟩
         rw [HT.out] at he hr9
         subst he
         have hN9 := HN.out.step HI.out hc9
         have hI9 := HI.out.step hr9 hc9
         have n2 := cell_of_row _ bx 2 _ _ _ hN9.at_
         have m2 := frozen_of_row _ bx 2 _ _ hN9.at_
         simp at n2
         have HI9 := Lib.hid hI9
         have HN9 := Lib.hid hN9
         clear hr9 hc9 hN9 hI9 z8))
    obtain ⟨wd, hwd⟩ : ∃ x, x = w9.setCell ⟨bx, 2, none⟩ (.int .i64 t) := ⟨_, rfl⟩
    have hI10 : NI wa wd cp rb B r3 w.heap.size := by rw [hwd]; exact HI9.out.set HN9.out.ge _
    have hN10 : NB wa wd bx #[.int .i64 k, .int .i64 o, .int .i64 t] := by rw [hwd]; exact HN9.out.set (.int .i64 (t : Int))
    rw [← hwd]
    have hS0 := And.intro (hI10.below (Below.refl _ wd).drew).cell (hN10.below (Below.refl _ wd).drew).cells
    have HS0 := Lib.hid hS0
    have HI10 := Lib.hid (hI10.below (Below.refl _ wd).drew)
    have HN10 := Lib.hid (hN10.below (Below.refl _ wd).drew)
    clear hwd hI10 hN10 hS0 n2 m2 HI9 HN9 HI HN
    refine sk (fun w' => w'.cell? ⟨cp, 0, none⟩ = some (.pointer (some ⟨rb, 0, none⟩)) ∧ w'.cell? ⟨bx, 0, none⟩ = some (.int .i64 k) ∧ w'.cell? ⟨bx, 1, none⟩ = some (.int .i64 o) ∧ w'.cell? ⟨bx, 2, none⟩ = some (.int .i64 t)) 4 ?_ (fun hHeld => ?_)
    · (first | exact HS0.out | exact hS11 | exact hS12)
    refine tk 0 13 hHeld ?_
    refine tk 1 14 hHeld ?_
    refine bk 2 15 (fun K hK => ?_)
    go_simp
    (go_at_call 35; (with_reducible refine (rightNote_any ⟨(k : Int), (o : Int), (t : Int)⟩ _).mono ?_))
    rintro e w11 ⟨rfl, hb11⟩
    have hI11 := HI10.out.below hb11
    have hN11 := HN10.out.below hb11
    have hS11 := And.intro hI11.cell hN11.cells
    clear hb11
    refine hK.out _ _ ?_ (fun hHeld' => ?_)
    · (first | exact HS0.out | exact hS11 | exact hS12)
    clear hK K hHeld
    have hHeld := hHeld'
    clear hHeld'
    simp only [List.set_cons_zero, List.set_cons_succ]
    refine bk 3 16 (fun K hK => ?_)
    go_simp
    (go_at_call 34; (with_reducible refine (check_any rb B r3 _ _ hI11.rd).mono ?_))
    rintro e w12 ⟨rfl, hr12, hc12⟩
    have hI12 := hI11.step hr12 hc12
    have hN12 := hN11.step hI11 hc12
    have hS12 := And.intro hI12.cell hN12.cells
    clear hr12 hc12
    refine hK.out _ _ ?_ (fun hHeld' => ?_)
    · (first | exact HS0.out | exact hS11 | exact hS12)
    clear hK K hHeld
    have hHeld := hHeld'
    clear hHeld'
    simp only [List.set_cons_zero, List.set_cons_succ]
    refine wpAnyH_done (by kernel_rfl) ?_ _
    refine NoPanic.normal ?_
    obtain ⟨y0, y1, y2⟩ := hN12.cells
    have s0 := cell_of_row w12 w.heap.size 0 _ _ _ hI12.hres
    have s1 := cell_of_row w12 w.heap.size 1 _ _ _ hI12.hres
    have s2 := cell_of_row w12 w.heap.size 2 _ _ _ hI12.hres
    have q0 := frozen_of_row w12 w.heap.size 0 _ _ hI12.hres
    have q1 := frozen_of_row w12 w.heap.size 1 _ _ hI12.hres
    have q2 := frozen_of_row w12 w.heap.size 2 _ _ hI12.hres
    simp at s0 s1 s2
    have HI12 := Lib.hid hI12
    clear hI12 hN12 hS12 hHeld HS0 hI11 hN11 hS11
    go_wp2_with fail
    have hne2 : w.heap.size ≠ rb := HI12.out.ne.2
    have hB2 : B ≤ w.heap.size := HBr.out
    refine bodyPost_ret (results_cell_row rfl _ _ w.heap.size 54 #[.int .i64 k, .int .i64 o, .int .i64 t] (0, 0) _ rfl (heap_set_same (j := 2) (.int .i64 (t : Int)) (heap_set_same (j := 1) (.int .i64 (o : Int)) (heap_set_same (j := 0) (.int .i64 (k : Int)) HI12.out.hres))) Try.underlying54 rfl (by kernel_rfl)) rfl ⟨rfl, rdr_other (j := 2) _ (rdr_other (j := 1) _ (rdr_other (b := w.heap.size) (j := 0) _ HI12.out.rd hne2 hB2) hne2 hB2) hne2 hB2,
      (((Hca.out.trans HI12.out.chg).setNew (b := w.heap.size) (Nat.le_refl _) 0 _).setNew (b := w.heap.size) (Nat.le_refl _) 1 _).setNew (b := w.heap.size) (Nat.le_refl _) 2 _⟩
end Go.Proofs.Ytcdgaeenfhpnkaa
