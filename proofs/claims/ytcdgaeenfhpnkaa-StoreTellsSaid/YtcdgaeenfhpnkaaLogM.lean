/- Package log: Open. -/
import Derived.Test.YtcdgaeenfhpnkaaLogL
set_option linter.unusedVariables false
set_option linter.unusedSimpArgs false
set_option maxRecDepth 100000
namespace Go.Proofs.Ytcdgaeenfhpnkaa
open Go Go.RowKit CrcMath
attribute [local go_sem] Oper.semAt_some

structure OS where
  out : List (List Nat)
  half : Nat
  turn : Nat
  taken : Nat
def OS.step (d : DD) (s : OS) (h : Nat) : OS :=
  if 0 < (recsF (secs d (h * (d.L.length / 2)) (d.L.length / 2))).out.length ∧ (s.out.length = 0 ∨ s.turn < (recsF (secs d (h * (d.L.length / 2)) (d.L.length / 2))).turn) then
    ⟨(recsF (secs d (h * (d.L.length / 2)) (d.L.length / 2))).out, h, (recsF (secs d (h * (d.L.length / 2)) (d.L.length / 2))).turn, (recsF (secs d (h * (d.L.length / 2)) (d.L.length / 2))).taken⟩
  else s
def OS.from_ (d : DD) (j : Nat) : OS := (List.range j).foldl (OS.step d) ⟨[], 0, 1, 0⟩
theorem OS.from_succ (d : DD) (j : Nat) : OS.from_ d (j + 1) = (OS.from_ d j).step d j := by
  unfold OS.from_
  rw [List.range_succ, List.foldl_append]
  rfl
/-- what Open answers on a disk that is up -/
def OpenP (U : Nat → Prop) (p q : Nat) (d : DD) (w : World) (e : Ending) (w' : World) : Prop :=
  ∃ v, e = .returned (.tuple #[.pointer (some ⟨w.heap.size, 0, none⟩), v, .int .i64 0]) ∧ OutOk w' (w.heap.size + 1) w'.heap.size v (OS.from_ d 2).out ∧ LogAt w' w.heap.size p (OS.from_ d 2).half (OS.from_ d 2).turn (OS.from_ d 2).taken ∧ Below w.heap.size w w'
theorem open_down (U : Nat → Prop) (p q : Nat) (d : DD) (w : World) (hd : HD w U p q d) (hdn : d.down = true) :
    Calls Try.prog 48 #[.pointer (some ⟨p, 0, none⟩)] w fun e w' => e = .returned (.tuple #[.pointer none, .slice none 0 0, .int .i64 101]) ∧ w' = w := by
  have Hd := Lib.hid hd
  have Hdn := Lib.hid hdn
  clear hd hdn
  go_enter Try.func48, Try.ntmps48
  go_wp2_with (first
    | (go_at_call 24; (with_reducible refine (down_any U p q d w Hd.out).mono ?_)
       rintro e w1 ⟨he, hw⟩
       obtain rfl := hw.symm
       rw [Hdn.out] at he
       subst he))
  refine bodyPost_ret (results_tmp3 rfl _ _ _) rfl ?_
  exact ⟨rfl, rfl⟩
theorem grown_setj (W : World) (b j : Nat) (v : Value) : W.grownBy (W.setCell ⟨b, j, none⟩ v) (some b) :=
  ⟨rfl, rfl, rfl, (KeepsWalks.setCell W _ v).size, fun k _ hk => Below.heap_setCell _ _ _ k (fun e => hk (by rw [e]))⟩
theorem OutOk.setj {W : World} {base Bo b : Nat} {v : Value} {out : List (List Nat)} (j : Nat) (u : Value) (h : OutOk W base Bo v out) (hb : b < base) : OutOk (W.setCell ⟨b, j, none⟩ u) base Bo v out :=
  h.keep (fun _ _ h1 => h1.kept (grown_setj W b j u) (by
    rcases h1.2 with ⟨rfl, _⟩ | ⟨g, cap, cur, rfl, hg, _⟩
    · exact .inl rfl
    · exact .inr (by simp [Value.ownBlock]; omega))) (fun g _ _ hg _ => Below.heap_setCell _ _ _ _ (by show g ≠ b; omega))
theorem HD.some_c {w : World} {U : Nat → Prop} {p q : Nat} {d : DD} (h : HD w U p q d) : ∃ c, HDc w (fun _ => False) p q c d ∧ c < w.heap.size := by
  obtain ⟨c, h⟩ := h
  cases hcut : d.cut with
  | none => exact ⟨p, ⟨h.ok, (fun _ hk => hk.elim), h.pq, id, id, (by have h1 := h.hp; rw [hcut] at h1 ⊢; exact h1), h.hq, fun a b e => by rw [hcut] at e; cases e⟩, (Array.getElem?_eq_some_iff.1 h.hp).1⟩
  | some ab =>
    obtain ⟨a, b⟩ := ab
    obtain ⟨h1, h2, h3, h4⟩ := h.hc a b hcut
    refine ⟨c, ⟨h.ok, (fun _ hk => hk.elim), h.pq, id, id, h.hp, h.hq, fun a' b' e => ?_⟩, (Array.getElem?_eq_some_iff.1 h4).1⟩
    obtain ⟨g1, g2, _, g4⟩ := h.hc a' b' e
    exact ⟨g1, g2, id, g4⟩
set_option maxHeartbeats 4000000 in
theorem open_up (U : Nat → Prop) (p q : Nat) (d : DD) (w : World) (hd : HD w U p q d) (hdn : d.down = false) :
    Calls Try.prog 48 #[.pointer (some ⟨p, 0, none⟩)] w (OpenP U p q d w) := by
  have hlen : d.L.length ≤ 256 := by obtain ⟨c, h⟩ := hd; exact h.ok.2.1
  have Hd := Lib.hid hd
  have Hdn := Lib.hid hdn
  clear hd hdn
  go_enter Try.func48, Try.ntmps48
  go_wp2_with (first
    | (go_at_call 24; (with_reducible refine (down_any U p q d w Hd.out).mono ?_)
       rintro e w1 ⟨he, hw⟩
       obtain rfl := hw.symm
       rw [Hdn.out] at he
       subst he))
  go_loopg [6, 16] 2 (fun k v i wr => ∃ j : Nat, k + j = 2 ∧ i = .int .i64 j ∧ Below w.heap.size w wr ∧ OutOk wr (w.heap.size + 1) wr.heap.size v (OS.from_ d j).out ∧ LogAt wr w.heap.size p (OS.from_ d j).half (OS.from_ d j).turn (OS.from_ d j).taken)
  case atStart =>
    have hb : Below w.heap.size w (w.alloc (.cells #[.pointer (some ⟨p, 0, none⟩), .int .i64 0, .int .i64 1, .int .i64 0] 109)) := (Below.refl _ _).alloc (Nat.le_refl _) _
    exact ⟨0, rfl, rfl, hb, ⟨[], World.ownsRow_nil _ _ _ _, fun j r hj => by simp [OS.from_] at hj⟩, heap_alloc_new w _⟩
  case round =>
    obtain ⟨j, hj, rfl, hbl, ho, hl⟩ := hrel
    by_cases hlt : j < 2
    · obtain ⟨s, hs⟩ : ∃ s, s = OS.from_ d j := ⟨_, rfl⟩
      obtain ⟨r, hr⟩ : ∃ r, r = recsF (secs d (j * (d.L.length / 2)) (d.L.length / 2)) := ⟨_, rfl⟩
      rw [← hs] at ho hl
      have hnext : OS.from_ d (j + 1) = if 0 < r.out.length ∧ (s.out.length = 0 ∨ s.turn < r.turn) then ⟨r.out, j, r.turn, r.taken⟩ else s := by
        rw [OS.from_succ, OS.step, ← hs, ← hr]
      obtain ⟨A0, c0, rfl⟩ : ∃ A0 c0, u6 = Value.slice A0 s.out.length c0 := by
        obtain ⟨vs, h1, _⟩ := ho
        exact own_shape h1
      have hdw := Hd.out.below hbl
      obtain ⟨c, hdc, hcl⟩ := hdw.some_c
      have HDC := Lib.hid hdc
      have HDW := Lib.hid hdw
      have Ho := Lib.hid ho
      have Hl := Lib.hid hl
      have Hbl := Lib.hid hbl
      have Hr0 := Lib.hid hr
      have hji : (j : Int) < 2 := by omega
      have e1 : wrap64 ((j : Int) * ((d.L.length : Int) / 2)) = ((j * (d.L.length / 2) : Nat) : Int) := by
        have hm : j * (d.L.length / 2) ≤ 256 := by
          have : j = 0 ∨ j = 1 := by omega
          rcases this with rfl | rfl <;> omega
        have e0 : (j : Int) * ((d.L.length : Int) / 2) = ((j * (d.L.length / 2) : Nat) : Int) := by simp
        rw [e0]
        unfold wrap64
        omega
      have hfm : j * (d.L.length / 2) + d.L.length / 2 ≤ d.L.length := by
        have : j = 0 ∨ j = 1 := by omega
        rcases this with rfl | rfl <;> omega
      have Hcall : Hid (Calls Try.prog 68 #[.pointer (some ⟨p, 0, none⟩), .int .i64 (wrap64 ((j : Int) * ((d.L.length : Int) / 2))), .int .i64 ((d.L.length : Int) / 2)] wr (RecsPost wr r)) := by
        show Calls _ _ _ _ _
        have e2 : (d.L.length : Int) / 2 = ((d.L.length / 2 : Nat) : Int) := by simp
        rw [e1, e2, Hr0.out]
        exact callsIn_wide.1 (records_any 0 p q c d (j * (d.L.length / 2)) (d.L.length / 2) wr HDC.out hcl Hdn.out hfm)
      clear hdc hcl hdw ho hl hbl hr hs e1 hfm hlt
      by_cases k1 : 0 < r.out.length
      · have T1 : decide ((0 : Int) < (r.out.length : Int)) = true := decide_eq_true (by omega)
        have T1' : (0 : Int) < (r.out.length : Int) := by omega
        by_cases k2 : s.out.length = 0
        · have T2 : ((s.out.length : Int) == 0) = true := by rw [beq_iff_eq]; omega
          have HN : Hid (OS.from_ d (j + 1) = ⟨r.out, j, r.turn, r.taken⟩) := by show _ = _; rw [hnext, if_pos ⟨k1, .inl k2⟩]
          clear hnext k1 k2
          go_wp2_with (first
            | (go_at_call 69; (with_reducible refine (size_any U p q w.heap.size s.half s.turn s.taken d wr HDW.out Hl.out).mono ?_)
               rintro e w2 ⟨rfl, hw2⟩
               obtain rfl := hw2.symm)
            | (go_at_call 68; (with_reducible refine Hcall.out.mono ?_)
               rintro e w3 ⟨v3, rfl, ho3, hb3, hsm3⟩
               obtain ⟨A3, c3, rfl⟩ : ∃ A3 c3, v3 = Value.slice A3 r.out.length c3 := by
                 obtain ⟨vs, h1, _⟩ := ho3
                 exact own_shape h1
               have hl3 := Hl.out.below hb3
               have z1 := cell_of_row w3 w.heap.size 1 _ _ _ hl3
               have z2 := cell_of_row w3 w.heap.size 2 _ _ _ hl3
               have z3 := cell_of_row w3 w.heap.size 3 _ _ _ hl3
               have f1 := frozen_of_row w3 w.heap.size 1 _ _ hl3
               have f2 := frozen_of_row w3 w.heap.size 2 _ _ hl3
               have f3 := frozen_of_row w3 w.heap.size 3 _ _ hl3
               simp at z1 z2 z3
               have Ho3 := Lib.hid ho3
               have Hl3 := Lib.hid hl3
               have Hb3 := Lib.hid hb3
               clear ho3 hl3 hb3 hsm3))
          go_roundg (gk - 1)
          case measure => omega
          case rel =>
            have hwz : w.heap.size + 1 ≤ wr.heap.size := (Array.getElem?_eq_some_iff.1 Hl.out).1
            refine ⟨j + 1, by omega, by go_num, ((((Hbl.out.trans (Hb3.out.mono Hbl.out.size)).setCell (p := ⟨w.heap.size, 1, none⟩) (Nat.le_refl _) _).setCell (p := ⟨w.heap.size, 2, none⟩) (Nat.le_refl _) _).setCell (p := ⟨w.heap.size, 3, none⟩) (Nat.le_refl _) _), ?_, ?_⟩
            · rw [HN.out]
              have h := ((((Ho3.out.less hwz).setj (b := w.heap.size) 1 (.int .i64 j) (by omega)).setj (b := w.heap.size) 2 (.int .i64 r.turn) (by omega)).setj (b := w.heap.size) 3 (.int .i64 r.taken) (by omega))
              exact h.more (by simp [World.setCell])
            · rw [HN.out]
              exact heap_set_same (j := 3) _ (heap_set_same (j := 2) _ (heap_set_same (j := 1) _ Hl3.out))
        · have T2 : ((s.out.length : Int) == 0) = false := by rw [beq_eq_false_iff_ne]; omega
          by_cases k3 : s.turn < r.turn
          · have T3 : decide (s.turn < r.turn) = true := decide_eq_true k3
            have HN : Hid (OS.from_ d (j + 1) = ⟨r.out, j, r.turn, r.taken⟩) := by show _ = _; rw [hnext, if_pos ⟨k1, .inr k3⟩]
            clear hnext k1 k2 k3
            go_wp2_with (first
              | (go_at_call 69; (with_reducible refine (size_any U p q w.heap.size s.half s.turn s.taken d wr HDW.out Hl.out).mono ?_)
                 rintro e w2 ⟨rfl, hw2⟩
                 obtain rfl := hw2.symm)
              | (go_at_call 68; (with_reducible refine Hcall.out.mono ?_)
                 rintro e w3 ⟨v3, rfl, ho3, hb3, hsm3⟩
                 obtain ⟨A3, c3, rfl⟩ : ∃ A3 c3, v3 = Value.slice A3 r.out.length c3 := by
                   obtain ⟨vs, h1, _⟩ := ho3
                   exact own_shape h1
                 have hl3 := Hl.out.below hb3
                 have z1 := cell_of_row w3 w.heap.size 1 _ _ _ hl3
                 have z2 := cell_of_row w3 w.heap.size 2 _ _ _ hl3
                 have z3 := cell_of_row w3 w.heap.size 3 _ _ _ hl3
                 have f1 := frozen_of_row w3 w.heap.size 1 _ _ hl3
                 have f2 := frozen_of_row w3 w.heap.size 2 _ _ hl3
                 have f3 := frozen_of_row w3 w.heap.size 3 _ _ hl3
                 simp at z1 z2 z3
                 have Ho3 := Lib.hid ho3
                 have Hl3 := Lib.hid hl3
                 have Hb3 := Lib.hid hb3
                 clear ho3 hl3 hb3 hsm3))
            go_roundg (gk - 1)
            case measure => omega
            case rel =>
              have hwz : w.heap.size + 1 ≤ wr.heap.size := (Array.getElem?_eq_some_iff.1 Hl.out).1
              refine ⟨j + 1, by omega, by go_num, ((((Hbl.out.trans (Hb3.out.mono Hbl.out.size)).setCell (p := ⟨w.heap.size, 1, none⟩) (Nat.le_refl _) _).setCell (p := ⟨w.heap.size, 2, none⟩) (Nat.le_refl _) _).setCell (p := ⟨w.heap.size, 3, none⟩) (Nat.le_refl _) _), ?_, ?_⟩
              · rw [HN.out]
                have h := ((((Ho3.out.less hwz).setj (b := w.heap.size) 1 (.int .i64 j) (by omega)).setj (b := w.heap.size) 2 (.int .i64 r.turn) (by omega)).setj (b := w.heap.size) 3 (.int .i64 r.taken) (by omega))
                exact h.more (by simp [World.setCell])
              · rw [HN.out]
                exact heap_set_same (j := 3) _ (heap_set_same (j := 2) _ (heap_set_same (j := 1) _ Hl3.out))
          · have T3 : decide (s.turn < r.turn) = false := decide_eq_false k3
            have HN : Hid (OS.from_ d (j + 1) = s) := by show _ = _; rw [hnext, if_neg (by omega)]
            clear hnext k1 k2 k3
            go_wp2_with (first
              | (go_at_call 69; (with_reducible refine (size_any U p q w.heap.size s.half s.turn s.taken d wr HDW.out Hl.out).mono ?_)
                 rintro e w2 ⟨rfl, hw2⟩
                 obtain rfl := hw2.symm)
              | (go_at_call 68; (with_reducible refine Hcall.out.mono ?_)
                 rintro e w3 ⟨v3, rfl, ho3, hb3, hsm3⟩
                 obtain ⟨A3, c3, rfl⟩ : ∃ A3 c3, v3 = Value.slice A3 r.out.length c3 := by
                   obtain ⟨vs, h1, _⟩ := ho3
                   exact own_shape h1
                 have hl3 := Hl.out.below hb3
                 have z1 := cell_of_row w3 w.heap.size 1 _ _ _ hl3
                 have z2 := cell_of_row w3 w.heap.size 2 _ _ _ hl3
                 have z3 := cell_of_row w3 w.heap.size 3 _ _ _ hl3
                 have f1 := frozen_of_row w3 w.heap.size 1 _ _ hl3
                 have f2 := frozen_of_row w3 w.heap.size 2 _ _ hl3
                 have f3 := frozen_of_row w3 w.heap.size 3 _ _ hl3
                 simp at z1 z2 z3
                 have Ho3 := Lib.hid ho3
                 have Hl3 := Lib.hid hl3
                 have Hb3 := Lib.hid hb3
                 clear ho3 hl3 hb3 hsm3))
            go_roundg (gk - 1)
            case measure => omega
            case rel =>
              refine ⟨j + 1, by omega, by go_num, Hbl.out.trans (Hb3.out.mono Hbl.out.size), ?_, ?_⟩
              · rw [HN.out]; exact (Ho.out.below Hb3.out (Nat.le_refl _)).more Hb3.out.size
              · rw [HN.out]; exact Hl3.out
      · have T1 : decide ((0 : Int) < (r.out.length : Int)) = false := decide_eq_false (by omega)
        have T1' : decide (0 < r.out.length) = false := decide_eq_false k1
        have T1n : ¬ 0 < r.out.length := k1
        have HN : Hid (OS.from_ d (j + 1) = s) := by show _ = _; rw [hnext, if_neg (fun h => k1 h.1)]
        clear hnext k1
        go_wp2_with (first
          | (go_at_call 69; (with_reducible refine (size_any U p q w.heap.size s.half s.turn s.taken d wr HDW.out Hl.out).mono ?_)
             rintro e w2 ⟨rfl, hw2⟩
             obtain rfl := hw2.symm)
          | (go_at_call 68; (with_reducible refine Hcall.out.mono ?_)
             rintro e w3 ⟨v3, rfl, ho3, hb3, hsm3⟩
             obtain ⟨A3, c3, rfl⟩ : ∃ A3 c3, v3 = Value.slice A3 r.out.length c3 := by
               obtain ⟨vs, h1, _⟩ := ho3
               exact own_shape h1
             have hl3 := Hl.out.below hb3
             have z1 := cell_of_row w3 w.heap.size 1 _ _ _ hl3
             have z2 := cell_of_row w3 w.heap.size 2 _ _ _ hl3
             have z3 := cell_of_row w3 w.heap.size 3 _ _ _ hl3
             have f1 := frozen_of_row w3 w.heap.size 1 _ _ hl3
             have f2 := frozen_of_row w3 w.heap.size 2 _ _ hl3
             have f3 := frozen_of_row w3 w.heap.size 3 _ _ hl3
             simp at z1 z2 z3
             have Ho3 := Lib.hid ho3
             have Hl3 := Lib.hid hl3
             have Hb3 := Lib.hid hb3
             clear ho3 hl3 hb3 hsm3))
        go_roundg (gk - 1)
        case measure => omega
        case rel =>
          refine ⟨j + 1, by omega, by go_num, Hbl.out.trans (Hb3.out.mono Hbl.out.size), ?_, ?_⟩
          · rw [HN.out]; exact (Ho.out.below Hb3.out (Nat.le_refl _)).more Hb3.out.size
          · rw [HN.out]; exact Hl3.out
    · obtain rfl : j = 2 := by omega
      go_wp2_with fail
      refine bodyPost_ret (results_tmp3 rfl _ _ _) rfl ?_
      exact ⟨_, rfl, ho, hl, hbl⟩
end Go.Proofs.Ytcdgaeenfhpnkaa
