/- The live question ahead of each statement on panels, walked. -/
import Derived.Test.YtphghclkfbhagaaPanelHead
set_option linter.unusedVariables false
set_option linter.unusedSimpArgs false
set_option maxRecDepth 100000
namespace Go.Proofs.Ytphghclkfbhagaa
open Go Go.RowKit

theorem below2 (w : World) (o1 o2 : Obj) : Below w.heap.size w ((w.alloc o1).alloc o2) := ((Below.refl _ _).alloc (Nat.le_refl _) _).alloc (by rw [World.size_alloc]; omega) _
theorem below1 (w : World) (o1 : Obj) : Below w.heap.size w (w.alloc o1) := (Below.refl _ _).alloc (Nat.le_refl _) _
theorem litb2 {w : World} {p q : Nat} {d : PD} (h : HP w p q d) (o1 : Obj) (a b : Bool) (e : TypeId) (fr : Nat × Nat) :
    RdU (Off p q ((w.alloc o1).alloc (.cells #[.bool a, .bool b] e fr))) ((w.alloc o1).alloc (.cells #[.bool a, .bool b] e fr)) (some ⟨w.heap.size + 1, 0, none⟩) 2 (([a, b] : List Bool).map bo) := by
  have lp := h.lp
  have lq := h.lq
  have := litb (w.alloc o1) p q (by rw [World.size_alloc]; omega) (by rw [World.size_alloc]; omega) a b e fr
  rwa [World.size_alloc] at this
theorem litb1 {w : World} {p q : Nat} {d : PD} (h : HP w p q d) (o2 : Obj) (a b : Bool) (e : TypeId) (fr : Nat × Nat) :
    RdU (Off p q ((w.alloc (.cells #[.bool a, .bool b] e fr)).alloc o2)) ((w.alloc (.cells #[.bool a, .bool b] e fr)).alloc o2) (some ⟨w.heap.size, 0, none⟩) 2 (([a, b] : List Bool).map bo) :=
  (litb w p q h.lp h.lq a b e fr).next (Off.of (below1 _ _))
theorem St.mk1 {w w1 : World} {p q : Nat} {o : Obj} {d : PD} (h : HP w1 p q d) (hb : Below (w.alloc o).heap.size (w.alloc o) w1) (lp : (w.alloc o).heap.size ≤ p) (lq : (w.alloc o).heap.size ≤ q) : St w w1 p q d :=
  ⟨h, (below1 w o).trans (hb.mono (by rw [World.size_alloc]; omega)), by rw [World.size_alloc] at lp; omega, by rw [World.size_alloc] at lq; omega⟩

set_option maxHeartbeats 4000000 in
theorem phead_any (w : World) :
    Calls Try.prog 6 #[] w fun e w' => e = .returned (.bool true) ∧ Below w.heap.size w w' := by
  go_enter Try.func6, Try.ntmps6
  go_wp2_with (first
    | (go_at_call 7; (with_reducible refine (pnew_any (some ⟨w.heap.size, 0, none⟩) 2 2 _ [1, 2] _ (lit2 w 1 2 _ _) (Nat.le_refl _) (Nat.le_refl _) (by unfold maxLen; omega)).mono ?_)
       rintro e w1 ⟨hy, -, hb⟩
       obtain ⟨p, q, rfl, lp, lq, h1⟩ := hy ok12
       have s1 : St w w1 p q e0 := St.mk1 h1 hb lp lq
       clear hy hb h1 lp lq)
    | (go_at_call 7; (with_reducible refine (pnew_any (some ⟨w1.heap.size, 0, none⟩) 1 1 _ [0] _ (lit1 w1 0 _ _) (Nat.le_refl _) (Nat.le_refl _) (by unfold maxLen; omega)).mono ?_)
       rintro e w2 ⟨-, hn, hb⟩
       obtain rfl := hn no0
       have s2 : St w w2 p q e0 := (s1.below (below1 _ _)).below hb
       clear hn hb s1)
    | (go_at_call 13; (with_reducible refine (see_any p q e0 _ (s2.h.below (below2 _ _ _)) (some ⟨w2.heap.size + 1, 0, none⟩) (some ⟨w2.heap.size, 0, none⟩) 2 2 2 2 [true, false] [false, false] (litb2 s2.h _ true false _ _) (litb1 s2.h _ false false _ _)).mono ?_)
       rintro e w3 ⟨he, h3, k3⟩
       rw [ke1] at he h3
       subst he
       have s3 : St w w3 p q e1 := (s2.below (below2 _ _ _)).next h3 k3
       have n3 : RdU (Off p q w3) w3 (some ⟨w2.heap.size, 0, none⟩) 2 (([false, false] : List Bool).map bo) := (litb1 s2.h _ false false _ _).next k3
       clear h3 k3 s2)
    | (go_at_call 18; (with_reducible refine (horn_any p q e1 _ s3.h).mono ?_)
       rintro e w4 ⟨he, hb⟩
       rw [kh1] at he
       subst he
       have s4 := s3.below hb
       have n4 := n3.next (Off.of hb)
       clear hb s3 n3)
    | (go_at_call 11; (with_reducible refine (silence_any p q e1 _ s4.h).mono ?_)
       rintro e w5 ⟨rfl, h5, k5⟩
       have s5 : St w w5 p q e2 := s4.next h5 k5
       have n5 := n4.next k5
       clear h5 k5 s4 n4)
    | (go_at_call 18; (with_reducible refine (horn_any p q e2 _ s5.h).mono ?_)
       rintro e w6 ⟨he, hb⟩
       rw [kh2] at he
       subst he
       have s6 := s5.below hb
       have n6 := n5.next (Off.of hb)
       clear hb s5 n5)
    | (go_at_call 13; (with_reducible refine (see_any p q e2 _ (s6.h.below (below1 _ _)) (some ⟨w6.heap.size, 0, none⟩) (some ⟨w2.heap.size, 0, none⟩) 2 2 2 2 [true, true] [false, false] (litb w6 p q s6.h.lp s6.h.lq true true _ _) (n6.next (Off.of (below1 _ _)))).mono ?_)
       rintro e w7 ⟨he, h7, k7⟩
       rw [ke3] at he h7
       subst he
       have s7 : St w w7 p q e3 := (s6.below (below1 _ _)).next h7 k7
       have n7 := (n6.next (Off.of (below1 _ _))).next k7
       clear h7 k7 s6 n6)
    | (go_at_call 18; (with_reducible refine (horn_any p q e3 _ s7.h).mono ?_)
       rintro e w8 ⟨he, hb⟩
       rw [kh3] at he
       subst he
       have s8 := s7.below hb
       have n8 := n7.next (Off.of hb)
       clear hb s7 n7)
    | (go_at_call 20; (with_reducible refine (looks_any p q e3 _ s8.h).mono ?_)
       rintro e w9 ⟨A9, m9, c9, rfl, hl, ho, hb⟩
       rw [kl3] at hl ho
       subst hl
       have s9 := s8.below hb
       have n9 := n8.next (Off.of hb)
       have x9 : RdU (Off p q w9) w9 A9 2 (([2, 2] : List Int).map iv) := RdU.of_own ho s8.h.lp s8.h.lq
       clear ho hb s8 n8)
    | (go_at_call 9; (with_reducible refine (ack_any p q e3 _ s9.h).mono ?_)
       rintro e w10 ⟨rfl, h, k⟩
       rw [ke4] at h
       have s10 := s9.next h k
       have n10 := n9.next k
       have x10 := x9.next k
       clear h k s9 n9 x9)
    | (go_at_call 13; (with_reducible refine (see_any p q e4 _ s10.h (some ⟨w2.heap.size, 0, none⟩) (some ⟨w2.heap.size, 0, none⟩) 2 2 2 2 [false, false] [false, false] n10 n10).mono ?_)
       rintro e w11 ⟨he, h, k⟩
       rw [ke5] at he h
       subst he
       have s11 := s10.next h k
       have x11 := x10.next k
       clear h k s10 n10 x10)
    | (go_at_call 15; (with_reducible refine (states_any p q e5 _ s11.h).mono ?_)
       rintro e w12 ⟨A12, m12, c12, rfl, hl, ho, hb⟩
       rw [ks5] at hl ho
       subst hl
       have s12 := s11.below hb
       have x12 := x11.next (Off.of hb)
       have y12 : RdU (Off p q w12) w12 A12 2 (([0, 4] : List Int).map iv) := RdU.of_own ho s11.h.lp s11.h.lq
       clear ho hb s11 x11)
    | (go_at_call 10; (with_reducible refine (reset_any p q e5 _ s12.h).mono ?_)
       rintro e w13 ⟨rfl, h, k⟩
       rw [ke6] at h
       have s13 := s12.next h k
       have x13 := x12.next k
       have y13 := y12.next k
       clear h k s12 x12 y12)
    | (go_at_call 12; (with_reducible refine (test_any p q e6 _ true s13.h).mono ?_)
       rintro e w14 ⟨rfl, h, k⟩
       have s14 : St w w14 p q e7 := s13.next h k
       have x14 := x13.next k
       have y14 := y13.next k
       clear h k s13 x13 y13)
    | (go_at_call 20; (with_reducible refine (looks_any p q e7 _ s14.h).mono ?_)
       rintro e w15 ⟨A15, m15, c15, rfl, hl, ho, hb⟩
       rw [kl7] at hl ho
       subst hl
       have s15 := s14.below hb
       have x15 := x14.next (Off.of hb)
       have y15 := y14.next (Off.of hb)
       have z15 : RdU (Off p q w15) w15 A15 2 (([1, 1] : List Int).map iv) := RdU.of_own ho s14.h.lp s14.h.lq
       clear ho hb s14 x14 y14)
    | (go_at_call 17; (with_reducible refine (sameints_any A9 (some ⟨w15.heap.size, 0, none⟩) 2 2 c9 2 _ [2, 2] [2, 2] _ (x15.next (Off.of (below1 _ _))).rd (lit2 w15 2 2 _ _) (Nat.le_refl _) (by omega)).mono ?_)
       rintro e w16 ⟨he, hb⟩
       rw [show decide (([2, 2] : List Int) = [2, 2]) = true from rfl] at he
       subst he
       have hb' := (below1 w15 _).trans (hb.mono (by rw [World.size_alloc]; omega))
       have s16 := s15.below hb'
       have y16 := y15.next (Off.of hb')
       have z16 := z15.next (Off.of hb')
       clear hb hb' s15 x15 y15 z15)
    | (go_at_call 17; (with_reducible refine (sameints_any A12 (some ⟨w16.heap.size, 0, none⟩) 2 2 c12 2 _ [0, 4] [0, 4] _ (y16.next (Off.of (below1 _ _))).rd (lit2 w16 0 4 _ _) (Nat.le_refl _) (by omega)).mono ?_)
       rintro e w17 ⟨he, hb⟩
       rw [show decide (([0, 4] : List Int) = [0, 4]) = true from rfl] at he
       subst he
       have hb' := (below1 w16 _).trans (hb.mono (by rw [World.size_alloc]; omega))
       have s17 := s16.below hb'
       have z17 := z16.next (Off.of hb')
       clear hb hb' s16 y16 z16)
    | (go_at_call 17; (with_reducible refine (sameints_any A15 (some ⟨w17.heap.size, 0, none⟩) 2 2 c15 2 _ [1, 1] [1, 1] _ (z17.next (Off.of (below1 _ _))).rd (lit2 w17 1 1 _ _) (Nat.le_refl _) (by omega)).mono ?_)
       rintro e w18 ⟨he, hb⟩
       rw [show decide (([1, 1] : List Int) = [1, 1]) = true from rfl] at he
       subst he
       have hb' := (below1 w17 _).trans (hb.mono (by rw [World.size_alloc]; omega))
       have s18 := s17.below hb'
       clear hb hb' s17 z17)
    | (go_at_call 15; (with_reducible refine (states_any p q e7 _ s18.h).mono ?_)
       rintro e w19 ⟨A19, m19, c19, rfl, hl, ho, hb⟩
       rw [ks7] at hl ho
       subst hl
       have s19 := s18.below hb
       have x19 : RdU (Off p q w19) w19 A19 2 (([0, 0] : List Int).map iv) := RdU.of_own ho s18.h.lp s18.h.lq
       clear ho hb s18)
    | (go_at_call 17; (with_reducible refine (sameints_any A19 (some ⟨w19.heap.size, 0, none⟩) 2 2 c19 2 _ [0, 0] [0, 0] _ (x19.next (Off.of (below1 _ _))).rd (lit2 w19 0 0 _ _) (Nat.le_refl _) (by omega)).mono ?_)
       rintro e w20 ⟨he, hb⟩
       rw [show decide (([0, 0] : List Int) = [0, 0]) = true from rfl] at he
       subst he
       have hb' := (below1 w19 _).trans (hb.mono (by rw [World.size_alloc]; omega))
       have s20 := s19.below hb'
       clear hb hb' s19 x19)
    | (go_at_call 13; (with_reducible refine (see_any p q e7 _ s20.h none none 0 0 0 0 [] [] (rdu_nil _ _) (rdu_nil _ _)).mono ?_)
       rintro e w21 ⟨he, h, k⟩
       rw [ke8] at he h
       subst he
       have s21 := s20.next h k
       clear h k s20)
    | (go_at_call 16; (with_reducible refine (load_any p q e7 _ (s21.h.below (below1 _ _)) (some ⟨w21.heap.size, 0, none⟩) 2 2 _ [0, 9] (lit2 w21 0 9 _ _) (by omega)).mono ?_)
       rintro e w22 ⟨-, hn, k⟩
       obtain ⟨rfl, h⟩ := hn kload
       have s22 := (s21.below (below1 _ _)).next h k
       clear h hn k s21)
    | (go_at_call 18; (with_reducible refine (horn_any p q e7 _ s22.h).mono ?_)
       rintro e w23 ⟨he, hb⟩
       rw [kh7] at he
       subst he
       have s23 := s22.below hb
       clear hb s22)
    | fail)
  go_ret
  exact ⟨rfl, s23.b⟩
end Go.Proofs.Ytphghclkfbhagaa
