/- The live question ahead of each statement on stores is answered as it says. -/
import Derived.Test.YtcdgaeenfhpnkaaPk30
set_option linter.unusedVariables false
set_option linter.unusedSimpArgs false
set_option maxRecDepth 100000
namespace Go.Proofs.Ytcdgaeenfhpnkaa
open Go Go.RowKit
attribute [local go_sem] Oper.semAt_some

theorem own_up {W W' : World} {X : Nat → Prop} {base e size n : Nat} {v : Value} {xs : List Value} (h : W.ownsRow base e size v n xs) (hc : Chg X W W') (hX : ∀ k, X k → k < base) : W'.ownsRow base e size v n xs :=
  own_chg h hc fun g cur fr hg hb hx => by have := hX g hx; omega
theorem StO.up {W W' : World} {X : Nat → Prop} {base : Nat} {v : StV} {s : St} (h : StO W base v s) (hc : Chg X W W') (hX : ∀ k, X k → k < base) : StO W' base v s :=
  ⟨own_up h.o1 hc hX, own_up h.o2 hc hX, own_up h.o3 hc hX, h.l1, h.l2, h.l3⟩
theorem RdS.nil_ (w : World) (B : Nat) : RdS Nt.cells w B 3 none 0 [] := ⟨rfl, fun h => absurd h (Nat.lt_irrefl 0)⟩
theorem z_st (w : World) (B : Nat) : StR w B ⟨none, 0, 0, none, 0, 0, none, 0, 0⟩ ⟨[], [], []⟩ := zV_st w B
theorem own_small {w : World} {base e size n c : Nat} {A : Option Addr} {xs : List Value} (h : w.ownsRow base e size (.slice A n c) n xs) : n ≤ maxLen := Nat.le_trans (own_max h).1 (own_max h).2
theorem same22_yes (v1 v2 : StV) (s : St) (A1 A2 : Option Addr) (n1 n2 c1 c2 : Nat) (l : List Nt) (w : World) (h1 : StR w w.heap.size v1 s) (h2 : StR w w.heap.size v2 s) (h3 : RdS Nt.cells w w.heap.size 3 A1 n1 l) (h4 : RdS Nt.cells w w.heap.size 3 A2 n2 l) (hn1 : n1 ≤ maxLen) (hn2 : n2 ≤ maxLen) :
    Calls Try.prog 14 #[.agg #[.slice v1.A1 v1.n1 v1.c1, .slice v1.A2 v1.n2 v1.c2, .slice v1.A3 v1.n3 v1.c3], .slice A1 n1 c1, .agg #[.slice v2.A1 v2.n1 v2.c1, .slice v2.A2 v2.n2 v2.c2, .slice v2.A3 v2.n3 v2.c3], .slice A2 n2 c2] w fun e w' => e = .returned (.bool true) ∧ Below w.heap.size w w' :=
  (same22_any v1 v2 s s A1 A2 n1 n2 c1 c2 l l w h1 h2 h3 h4 hn1 hn2).mono fun e w' h => by
    rw [decide_eq_true (⟨rfl, rfl⟩ : s = s ∧ l = l)] at h
    exact h
/-- what a row of one's own is, stays through calls of the log -/
theorem hkp_own {W : World} {base p q lb : Nat} {v : StV} {s : St} (ho : StO W base v s) (hlt : ∀ k, three p q lb k → k < base) : ∀ w1 w2, Below W.heap.size W w1 → Chg (three p q lb) w1 w2 → StR w2 w2.heap.size v s :=
  fun w1 w2 k1 k2 => ((ho.below k1).up k2 hlt).toR
def nt1 : List Nt := [⟨1, 0, 3⟩]
def b31 : List Nat := [1, 1, 3, 0, 0, 0, 0, 1, 2, 0, 0, 0, 0, 0, 0, 0, 0, 0, 0, 0, 0, 7, 1, 1, 0, 0, 0, 0, 0, 0, 3]
theorem ok31 : okR (oneS 258) nt1 := by decide
theorem b31_is : bytesF (oneS 258) nt1 = b31 := by decide
theorem read31 : readV b31 = (oneS 258, nt1, true) := by rw [← b31_is, bytesF_yes ok31]; exact read_bytes ok31
theorem str31 : bstr b31 = ⟨#[1, 1, 3, 0, 0, 0, 0, 1, 2, 0, 0, 0, 0, 0, 0, 0, 0, 0, 0, 0, 0, 7, 1, 1, 0, 0, 0, 0, 0, 0, 3]⟩ := rfl
theorem open31 : openF 1 1 (zero0 1 1) [] [b31] = some (oneS 258, nt1) := by
  unfold openF
  rw [read31, if_pos ⟨rfl, rfl, rfl⟩]
  rfl
theorem open31_no : openF 2 1 (zero0 2 1) [] [b31] = none := by
  unfold openF
  rw [read31, if_neg (fun h => by have := h.2.1; revert this; decide)]
theorem lit_nt (w : World) : RdS Nt.cells (w.alloc (.cells #[.int .i64 1, .int .i64 0, .int .i64 3] 54)) (w.alloc (.cells #[.int .i64 1, .int .i64 0, .int .i64 3] 54)).heap.size 3 (some ⟨w.heap.size, 0, none⟩) 1 nt1 :=
  rds_of_own (own_new w 54 3 1 [.int .i64 1, .int .i64 0, .int .i64 3] (by unfold maxLen; omega) rfl) rfl
theorem lit_nt_own (w : World) : (w.alloc (.cells #[.int .i64 1, .int .i64 0, .int .i64 3] 54)).ownsRow w.heap.size 54 3 (.slice (some ⟨w.heap.size, 0, none⟩) 1 1) 1 (nt1.flatMap Nt.cells) :=
  own_new w 54 3 1 [.int .i64 1, .int .i64 0, .int .i64 3] (by unfold maxLen; omega) rfl
section
variable {p q lb sb base m k half turn taken : Nat} {L : List (List Nat)} {N : List Nt} {w : World}
theorem open11 (hd : DK w p q m k half turn taken []) : Calls Try.prog 16 #[.pointer (some ⟨p, 0, none⟩), .int .i64 1, .int .i64 1] w (OpenOk p q m k half turn taken 1 1 [] w (zero0 1 1, [])) :=
  openS_go 1 1 p q m k half turn taken [] w hd (by omega) (by omega) (by simp)
theorem open11b (hd : DK w p q m k half turn taken [b31]) : Calls Try.prog 16 #[.pointer (some ⟨p, 0, none⟩), .int .i64 1, .int .i64 1] w (OpenOk p q m k half turn taken 1 1 [b31] w (oneS 258, nt1)) := by
  have h := openS_go 1 1 p q m k half turn taken [b31] w hd (by omega) (by omega) (by simp)
  rw [open31] at h
  exact h
theorem open21 (hd : DK w p q m k half turn taken [b31]) : Calls Try.prog 16 #[.pointer (some ⟨p, 0, none⟩), .int .i64 2, .int .i64 1] w (OpenNo p q m k half turn taken 221 [b31] w) := by
  have h := openS_go 2 1 p q m k half turn taken [b31] w hd (by omega) (by omega) (by simp)
  rw [open31_no] at h
  exact h
theorem put_one {en : Nat} {L' : List (List Nat)} {N' : List Nt} (h : PutRel 8 1 1 0 [] [] (oneS 258) nt1 en L' N') : en = 0 ∧ L' = [b31] ∧ N' = nt1 := by
  rcases h with ⟨_, h, _⟩ | ⟨_, _, ⟨h1, h2, h3⟩ | ⟨_, _, _, h⟩⟩
  · rcases h with h | h
    · exact absurd ok31 h
    · exact absurd ⟨rfl, rfl⟩ h
  · have e : N' = nt1 := h2
    subst e
    rw [b31_is] at h3
    refine ⟨h1, ?_, rfl⟩
    rcases h3 with h3 | h3 <;> exact h3
  · rw [b31_is] at h
    exact absurd h (by decide)
theorem put_no {m taken en : Nat} {L' : List (List Nat)} {N' : List Nt} (h : PutRel m 1 1 taken L N ⟨[], [], []⟩ [] en L' N') : en = 1 ∧ L' = L ∧ N' = N := by
  rcases h with ⟨h1, _, h2, h3⟩ | ⟨_, ⟨h, _⟩, _⟩
  · exact ⟨h1, h2, h3⟩
  · exact absurd h (by decide)
end
set_option maxHeartbeats 8000000 in
theorem head_any (w : World) :
    Calls Try.prog 8 #[] w fun e w' => e = .returned (.bool true) ∧ Below w.heap.size w w' := by
  go_enter Try.func8, Try.ntmps8
  go_wp2_with (first
    | (go_at_call 15; (with_reducible refine (lg_new w 8).mono ?_)
       rintro e w1 ⟨rfl, hd1, hb1⟩
       have HD1 : Hid (DK w1 (w.heap.size + 1) w.heap.size 8 0 0 1 0 []) := hd1
       have HB1 := Lib.hid hb1
       clear hd1 hb1)
    | (go_at_call 16; (with_reducible refine (open11 HD1.out).mono ?_)
       rintro e w2 ⟨sb, lb, ⟨A1, n1, c1, A2, n2, c2, A3, n3, c3⟩, A, n, cap, rfl, hS2, ho2, hn2, hl2, hb2, hlb, hsb⟩
       have hS2' := hS2 (by intro x hx; simp at hx)
       obtain rfl : 0 = n := hl2
       obtain rfl : 1 = n1 := ho2.l1
       obtain rfl : 1 = n3 := ho2.l3
       have hs1 : w.heap.size + 1 < w1.heap.size := HD1.out.pl
       have hls : lb < w2.heap.size := hS2'.at_.lt
       have hss : sb < w2.heap.size := hS2'.sto.lt
       have H4 : Hid ((∀ k, four (w.heap.size + 1) w.heap.size lb sb k → w.heap.size ≤ k) ∧ (∀ k, four (w.heap.size + 1) w.heap.size lb sb k → k < w2.heap.size) ∧ (∀ k, three (w.heap.size + 1) w.heap.size lb k → k < w2.heap.size)) := by
         have := hb2.size
         exact ⟨fun k hk => by rcases hk with rfl | rfl | rfl | rfl <;> omega, fun k hk => by rcases hk with rfl | rfl | rfl | rfl <;> omega, fun k hk => by rcases hk with rfl | rfl | rfl <;> omega⟩
       have HS2 := Lib.hid hS2'
       have HB2 : Hid (Below w.heap.size w w2) := HB1.out.trans (hb2.mono HB1.out.size)
       clear hS2 hS2' ho2 hn2 hb2 hlb hsb hs1 hls hss HD1 HB1)
    | (go_at_call 25; (with_reducible refine (one_st 258 _).mono ?_)
       rintro e w3 ⟨⟨P1, p1, q1, P2, p2, q2, P3, p3, q3⟩, rfl, ho3, hb3⟩
       have hb3' : Below w2.heap.size w2 w3 := (al_ w2 _).trans (hb3.mono (al_ w2 _).size)
       have HS3 := Lib.hid (HS2.out.below hb3')
       have HB3 : Hid (Below w.heap.size w w3) := HB2.out.trans (hb3'.mono HB2.out.size)
       have HZ3 : Hid (w2.heap.size ≤ w3.heap.size) := hb3'.size
       have HO3 := Lib.hid ho3
       clear ho3 hb3 hb3' HS2 HB2)
    | (go_at_call 12; (with_reducible refine (bytes_any ⟨P1, p1, q1, P2, p2, q2, P3, p3, q3⟩ (oneS 258) _ 1 1 _ nt1 _ (HO3.out.below (al_ w3 _)).toR (lit_nt w3) (by unfold maxLen; omega) (Nat.le_refl _)).mono ?_)
       rintro e w5 ⟨v5, rfl, hown5, hb5⟩
       rw [b31_is] at hown5
       obtain ⟨A5, c5, rfl⟩ := own_shape hown5
       have hb5' : Below w3.heap.size w3 w5 := (al_ w3 _).trans (hb5.mono (al_ w3 _).size)
       have HS5 := Lib.hid (HS3.out.below hb5')
       have HB5 : Hid (Below w.heap.size w w5) := HB3.out.trans (hb5'.mono HB3.out.size)
       have HZ5 : Hid (w2.heap.size ≤ w5.heap.size) := Nat.le_trans HZ3.out hb5'.size
       have HW5 := Lib.hid (own_base hown5 (Nat.le_trans HZ3.out (al_ w3 _).size))
       clear hown5 hb5 hb5' HS3 HB3 HZ3 HO3)
    | (go_at_call 25; (with_reducible refine (one_st 258 _).mono ?_)
       rintro e w6 ⟨⟨R1, r1, s1, R2, r2, s2, R3, r3, s3⟩, rfl, ho6, hb6⟩
       have HS6 := Lib.hid (HS5.out.below hb6)
       have HB6 : Hid (Below w.heap.size w w6) := HB5.out.trans (hb6.mono HB5.out.size)
       have HZ6 : Hid (w2.heap.size ≤ w6.heap.size) := Nat.le_trans HZ5.out hb6.size
       have HW6 := Lib.hid (own_below HW5.out hb6)
       have HO6 := Lib.hid (ho6.base HZ5.out)
       clear ho6 hb6 HS5 HB5 HZ5 HW5)
    | (go_at_call 17; (with_reducible refine (put_gen sb lb (w.heap.size + 1) w.heap.size w1.heap.size 8 0 0 1 0 1 1 [] [] ⟨R1, r1, s1, R2, r2, s2, R3, r3, s3⟩ (oneS 258) (some ⟨w6.heap.size, 0, none⟩) 1 1 _ nt1 _ (HS6.out.below (al_ w6 _)) (HO6.out.below (al_ w6 _)).toR (lit_nt w6) (Nat.le_refl _) (hkp_own (HO6.out.below (al_ w6 _)) H4.out.2.2) (by unfold maxLen; omega) (by omega) (by omega)).mono ?_)
       rintro e w7 ⟨en, half7, turn7, taken7, L7, N7, b7, rfl, hS7, ht7, hc7, hrel, _, _⟩
       obtain ⟨rfl, rfl, rfl⟩ := put_one hrel
       have HS7 := Lib.hid hS7
       have HT7 := Lib.hid ht7
       have HB7 : Hid (Below w.heap.size w w7) := (HB6.out.trans ((al_ w6 _).mono HB6.out.size)).trans (hc7.below (Nat.le_trans HB6.out.size (al_ w6 _).size) H4.out.1)
       have HW7 := Lib.hid (own_up (own_below HW6.out (al_ w6 _)) hc7 H4.out.2.1)
       have HZ7 : Hid (w2.heap.size ≤ w7.heap.size) := Nat.le_trans HZ6.out (Nat.le_trans (al_ w6 _).size hc7.size)
       clear hS7 ht7 hc7 hrel HS6 HB6 HZ6 HW6 HO6)
    | (go_at_call 17; (with_reducible refine (put_any sb lb (w.heap.size + 1) w.heap.size b7 8 _ half7 turn7 taken7 1 1 [b31] nt1 ⟨none, 0, 0, none, 0, 0, none, 0, 0⟩ ⟨[], [], []⟩ none 0 0 0 [] w7 HS7.out (z_st w7 0) (RdS.nil_ w7 0) ⟨Nat.zero_le _, Nat.zero_le _, Nat.zero_le _, Nat.zero_le _⟩ (Nat.zero_le _) (by omega) (by have := HT7.out; omega)).mono ?_)
       rintro e w8 ⟨en, half8, turn8, taken8, L8, N8, b8, rfl, hS8, ht8, hc8, hrel, _, _⟩
       obtain ⟨rfl, rfl, rfl⟩ := put_no hrel
       have HS8 := Lib.hid hS8
       have HB8 : Hid (Below w.heap.size w w8) := HB7.out.trans (hc8.below HB7.out.size H4.out.1)
       have HW8 := Lib.hid (own_up HW7.out hc8 H4.out.2.1)
       have HZ8 : Hid (w2.heap.size ≤ w8.heap.size) := Nat.le_trans HZ7.out hc8.size
       clear hS8 ht8 hc8 hrel HS7 HT7 HB7 HZ7 HW7)
    | (go_at_call 16; (with_reducible refine (open11b HS8.out.dk).mono ?_)
       rintro e w9 ⟨sb9, lb9, ⟨T1, t1, u1, T2, t2, u2, T3, t3, u3⟩, A9, n9, c9, rfl, _, ho9, hn9, hl9, hb9, hlb, hsb⟩
       have HS9 := Lib.hid (HS8.out.below hb9)
       have HB9 : Hid (Below w.heap.size w w9) := HB8.out.trans (hb9.mono HB8.out.size)
       have HW9 := Lib.hid (own_below HW8.out hb9)
       have HO9 := Lib.hid ho9
       have HN9 := Lib.hid hn9
       have HL9 := Lib.hid hl9
       clear ho9 hn9 hl9 hb9 hlb hsb HS8 HB8 HZ8 HW8)
    | (go_at_call 16; (with_reducible refine (open21 (HS9.out.dk.below (al_ w9 _))).mono ?_)
       rintro e w10 ⟨rfl, hd10, hb10⟩
       have hb10' : Below w9.heap.size w9 w10 := (al_ w9 _).trans (hb10.mono (al_ w9 _).size)
       have hx10 := ((hb10.trans ((al_ w10 (.cells #[.slice none 0 0, .slice none 0 0, .slice none 0 0] 25)).mono hb10.size)).block w9.heap.size (by rw [World.size_alloc]; omega)).trans (heap_alloc_new w9 _)
       have HX10 := Lib.hid hx10
       have HBa : Hid (Below w9.heap.size w9 (w10.alloc (.cells #[.slice none 0 0, .slice none 0 0, .slice none 0 0] 25))) := hb10'.trans ((al_ w10 _).mono hb10'.size)
       clear hd10 hb10 hb10' hx10)
    )
  obtain ⟨wz, hwz⟩ : ∃ x, x = w10.alloc (.cells #[.slice none 0 0, .slice none 0 0, .slice none 0 0] 25) := ⟨_, rfl⟩
  rw [← hwz] at HX10 HBa ⊢
  clear hwz
  have HSz := Lib.hid (HS9.out.below HBa.out)
  have HBz : Hid (Below w.heap.size w wz) := HB9.out.trans (HBa.out.mono HB9.out.size)
  have cv : ∀ w', Below wz.heap.size wz w' → (convert 27 9 (.slice A5 b31.length c5)).run Try.prog w' = .ok (.string ⟨#[1, 1, 3, 0, 0, 0, 0, 1, 2, 0, 0, 0, 0, 0, 0, 0, 0, 0, 0, 0, 0, 7, 1, 1, 0, 0, 0, 0, 0, 0, 3]⟩) w' := fun w' h => by
    rw [← str31]
    exact run_str ((Rd.of_own (own_below HW9.out HBa.out)).below h) 27 9 5 Try.underlying27 Try.underlying5 Try.underlying9
  have y0 : ∀ w', Below wz.heap.size wz w' → w'.cell? ⟨w9.heap.size, 0, none⟩ = some (.slice T1 t1 u1) := fun w' h => (h.cell (p := ⟨w9.heap.size, 0, none⟩) (Array.getElem?_eq_some_iff.1 HX10.out).1).trans (cell_of_row wz w9.heap.size 0 _ _ _ HX10.out)
  have y1 : ∀ w', Below wz.heap.size wz w' → w'.cell? ⟨w9.heap.size, 1, none⟩ = some (.slice T2 t2 u2) := fun w' h => (h.cell (p := ⟨w9.heap.size, 1, none⟩) (Array.getElem?_eq_some_iff.1 HX10.out).1).trans (cell_of_row wz w9.heap.size 1 _ _ _ HX10.out)
  have y2 : ∀ w', Below wz.heap.size wz w' → w'.cell? ⟨w9.heap.size, 2, none⟩ = some (.slice T3 t3 u3) := fun w' h => (h.cell (p := ⟨w9.heap.size, 2, none⟩) (Array.getElem?_eq_some_iff.1 HX10.out).1).trans (cell_of_row wz w9.heap.size 2 _ _ _ HX10.out)
  have HOz := Lib.hid (HO9.out.below HBa.out)
  have HNz := Lib.hid (own_below HN9.out HBa.out)
  refine sk (fun w' => Below wz.heap.size wz w') 34 ?_ (fun hHeld => ?_)
  · (first | exact (Below.refl _ _).drew | assumption | exact hHeld.alloc hHeld.size _)
  refine tk 0 76 hHeld ?_
  refine tk 1 77 hHeld ?_
  refine tk 2 78 hHeld ?_
  refine tk 3 79 hHeld ?_
  refine tk 4 80 hHeld ?_
  refine tk 5 81 hHeld ?_
  refine tk 6 82 hHeld ?_
  refine tk 7 83 hHeld ?_
  refine tk 8 84 hHeld ?_
  refine tk 9 85 hHeld ?_
  refine tk 10 86 hHeld ?_
  refine tk 11 87 hHeld ?_
  refine tk 12 88 hHeld ?_
  refine tk 13 89 hHeld ?_
  refine tk 14 90 hHeld ?_
  refine tk 15 91 hHeld ?_
  refine tk 16 92 hHeld ?_
  refine tk 17 93 hHeld ?_
  refine tk 19 95 hHeld ?_
  refine wpAnyH_ready (rs := [18, 20]) (by kernel_rfl) (by simp) ?_
  refine (consH 18 94 #[true, true, true, true, true, true, true, true, true, true, true, true, true, true, true, true, true, true, true, true, false, false, false, false, false, false, false, false, false, false, false, false, false, false] rfl rfl rfl (by rfl) (fun K hK => ?_) (consH 20 96 #[true, true, true, true, true, true, true, true, true, true, true, true, true, true, true, true, true, true, false, true, true, false, false, false, false, false, false, false, false, false, false, false, false, false] rfl rfl rfl (by rfl) (fun K hK => ?_) AllReadyH.nil))
  · go_simp
    (go_at_call 25; (with_reducible refine (one_st 258 _).mono ?_))
    rintro e wn ⟨⟨R1, r1, s1, R2, r2, s2, R3, r3, s3⟩, rfl, hon, hbn⟩
    have hHn := hHeld.trans (hbn.mono hHeld.size)
    refine hK.out _ _ ?_ (fun hHeld' => ?_)
    · (first | exact (Below.refl _ _).drew | assumption | exact hHeld.alloc hHeld.size _)
    clear hK K hHeld
    have hHeld := hHeld'
    clear hHeld'
    simp only [List.set_cons_zero, List.set_cons_succ]
    refine bk 20 96 (fun K hK => ?_)
    go_simp
    have hdummy : True := trivial
    refine hK.out _ _ ?_ (fun hHeld' => ?_)
    · (first | exact (Below.refl _ _).drew | assumption | exact hHeld.alloc hHeld.size _)
    clear hK K hHeld
    have hHeld := hHeld'
    clear hHeld'
    simp only [List.set_cons_zero, List.set_cons_succ]
    refine bk 21 97 (fun K hK => ?_)
    go_simp
    first
      | (go_at_call 14; (with_reducible refine (same22_yes ⟨T1, t1, u1, T2, t2, u2, T3, t3, u3⟩ ⟨R1, r1, s1, R2, r2, s2, R3, r3, s3⟩ (oneS 258) A9 _ n9 1 c9 1 nt1 _ (HOz.out.below hHeld).toR (hon.below (al_ wn _)).toR (rds_of_own (own_below HNz.out hHeld) HL9.out) (lit_nt wn) (own_small HNz.out) (by unfold maxLen; omega)).mono ?_))
      | (go_at_call 14; (with_reducible refine (same22_yes ⟨T1, t1, u1, T2, t2, u2, T3, t3, u3⟩ ⟨R1, r1, s1, R2, r2, s2, R3, r3, s3⟩ (oneS 258) A9 _ n9 1 c9 1 nt1 wn (HOz.out.below hHeld).toR hon.toR (rds_of_own (own_below HNz.out hHeld) HL9.out) ((((lit_nt wz).below (Below.refl _ _).drew).below (hbn.mono ((Below.refl 0 (wz.alloc (.cells #[.int .i64 1, .int .i64 0, .int .i64 3] 54))).drew.size))).more (Nat.le_trans ((Below.refl 0 (wz.alloc (.cells #[.int .i64 1, .int .i64 0, .int .i64 3] 54))).drew.size) hbn.size)) (own_small HNz.out) (by unfold maxLen; omega)).mono ?_))
    rintro e wq ⟨rfl, hbq⟩
    have hHq := hHeld.trans (hbq.mono hHeld.size)
    refine hK.out _ _ ?_ (fun hHeld' => ?_)
    · (first | exact (Below.refl _ _).drew | assumption | exact hHeld.alloc hHeld.size _)
    clear hK K hHeld
    have hHeld := hHeld'
    clear hHeld'
    simp only [List.set_cons_zero, List.set_cons_succ]
    refine tk 22 98 hHeld ?_
    refine tk 23 99 hHeld ?_
    refine tk 24 100 hHeld ?_
    refine tk 25 101 hHeld ?_
    refine tk 26 102 hHeld ?_
    refine tk 27 103 hHeld ?_
    refine tk 28 104 hHeld ?_
    refine bk 29 105 (fun K hK => ?_)
    go_simp
    (go_at_call 19; (with_reducible refine (notes_any sb lb b8 1 1 nt1 _ (HSz.out.sto.below (hHeld.mono (Nat.le_refl _))) (by decide)).mono ?_))
    rintro e wr ⟨Ar, cr, he, _, hbr⟩
    have he : e = .returned (.slice Ar 1 cr) := he
    subst he
    have hHr := hHeld.trans (hbr.mono hHeld.size)
    refine hK.out _ _ ?_ (fun hHeld' => ?_)
    · (first | exact (Below.refl _ _).drew | assumption | exact hHeld.alloc hHeld.size _)
    clear hK K hHeld
    have hHeld := hHeld'
    clear hHeld'
    simp only [List.set_cons_zero, List.set_cons_succ]
    refine tk 30 106 hHeld ?_
    refine tk 31 107 hHeld ?_
    refine tk 32 108 hHeld ?_
    refine tk 33 0 hHeld ?_
    refine wpAnyH_done (by kernel_rfl) ?_ _
    refine NoPanic.normal ?_
    go_wp2_with fail
    go_ret
    exact ⟨rfl, HBz.out.trans (hHeld.mono HBz.out.size)⟩
  · go_simp
    have hdummy : True := trivial
    refine hK.out _ _ ?_ (fun hHeld' => ?_)
    · (first | exact (Below.refl _ _).drew | assumption | exact hHeld.alloc hHeld.size _)
    clear hK K hHeld
    have hHeld := hHeld'
    clear hHeld'
    simp only [List.set_cons_zero, List.set_cons_succ]
    refine bk 18 94 (fun K hK => ?_)
    go_simp
    (go_at_call 25; (with_reducible refine (one_st 258 _).mono ?_))
    rintro e wn ⟨⟨R1, r1, s1, R2, r2, s2, R3, r3, s3⟩, rfl, hon, hbn⟩
    have hHn := hHeld.trans (hbn.mono hHeld.size)
    refine hK.out _ _ ?_ (fun hHeld' => ?_)
    · (first | exact (Below.refl _ _).drew | assumption | exact hHeld.alloc hHeld.size _)
    clear hK K hHeld
    have hHeld := hHeld'
    clear hHeld'
    simp only [List.set_cons_zero, List.set_cons_succ]
    refine bk 21 97 (fun K hK => ?_)
    go_simp
    first
      | (go_at_call 14; (with_reducible refine (same22_yes ⟨T1, t1, u1, T2, t2, u2, T3, t3, u3⟩ ⟨R1, r1, s1, R2, r2, s2, R3, r3, s3⟩ (oneS 258) A9 _ n9 1 c9 1 nt1 _ (HOz.out.below hHeld).toR (hon.below (al_ wn _)).toR (rds_of_own (own_below HNz.out hHeld) HL9.out) (lit_nt wn) (own_small HNz.out) (by unfold maxLen; omega)).mono ?_))
      | (go_at_call 14; (with_reducible refine (same22_yes ⟨T1, t1, u1, T2, t2, u2, T3, t3, u3⟩ ⟨R1, r1, s1, R2, r2, s2, R3, r3, s3⟩ (oneS 258) A9 _ n9 1 c9 1 nt1 wn (HOz.out.below hHeld).toR hon.toR (rds_of_own (own_below HNz.out hHeld) HL9.out) ((((lit_nt wz).below (Below.refl _ _).drew).below (hbn.mono ((Below.refl 0 (wz.alloc (.cells #[.int .i64 1, .int .i64 0, .int .i64 3] 54))).drew.size))).more (Nat.le_trans ((Below.refl 0 (wz.alloc (.cells #[.int .i64 1, .int .i64 0, .int .i64 3] 54))).drew.size) hbn.size)) (own_small HNz.out) (by unfold maxLen; omega)).mono ?_))
    rintro e wq ⟨rfl, hbq⟩
    have hHq := hHeld.trans (hbq.mono hHeld.size)
    refine hK.out _ _ ?_ (fun hHeld' => ?_)
    · (first | exact (Below.refl _ _).drew | assumption | exact hHeld.alloc hHeld.size _)
    clear hK K hHeld
    have hHeld := hHeld'
    clear hHeld'
    simp only [List.set_cons_zero, List.set_cons_succ]
    refine tk 22 98 hHeld ?_
    refine tk 23 99 hHeld ?_
    refine tk 24 100 hHeld ?_
    refine tk 25 101 hHeld ?_
    refine tk 26 102 hHeld ?_
    refine tk 27 103 hHeld ?_
    refine tk 28 104 hHeld ?_
    refine bk 29 105 (fun K hK => ?_)
    go_simp
    (go_at_call 19; (with_reducible refine (notes_any sb lb b8 1 1 nt1 _ (HSz.out.sto.below (hHeld.mono (Nat.le_refl _))) (by decide)).mono ?_))
    rintro e wr ⟨Ar, cr, he, _, hbr⟩
    have he : e = .returned (.slice Ar 1 cr) := he
    subst he
    have hHr := hHeld.trans (hbr.mono hHeld.size)
    refine hK.out _ _ ?_ (fun hHeld' => ?_)
    · (first | exact (Below.refl _ _).drew | assumption | exact hHeld.alloc hHeld.size _)
    clear hK K hHeld
    have hHeld := hHeld'
    clear hHeld'
    simp only [List.set_cons_zero, List.set_cons_succ]
    refine tk 30 106 hHeld ?_
    refine tk 31 107 hHeld ?_
    refine tk 32 108 hHeld ?_
    refine tk 33 0 hHeld ?_
    refine wpAnyH_done (by kernel_rfl) ?_ _
    refine NoPanic.normal ?_
    go_wp2_with fail
    go_ret
    exact ⟨rfl, HBz.out.trans (hHeld.mono HBz.out.size)⟩
/-- the state that a statement was handed, in its box -/
def Bx (w : World) (v : StV) (w' : World) : Prop := w'.cell? ⟨w.heap.size, 0, none⟩ = some (.slice v.A1 v.n1 v.c1) ∧ w'.cell? ⟨w.heap.size, 1, none⟩ = some (.slice v.A2 v.n2 v.c2) ∧ w'.cell? ⟨w.heap.size, 2, none⟩ = some (.slice v.A3 v.n3 v.c3)
def bxw (w : World) (v : StV) : World := w.alloc (.cells #[.slice v.A1 v.n1 v.c1, .slice v.A2 v.n2 v.c2, .slice v.A3 v.n3 v.c3] 25)
theorem bxw_size (w : World) (v : StV) : (bxw w v).heap.size = w.heap.size + 1 := World.size_alloc _ _
theorem bxw_bel (w : World) (v : StV) : Below w.heap.size w (bxw w v) := al_ _ _
theorem bx_cells {w' : World} {b : Nat} {a1 a2 a3 : Value} {W : World} (h : W.heap[b]? = some (.cells #[a1, a2, a3] 25)) (hb : Below W.heap.size W w') : w'.cell? ⟨b, 0, none⟩ = some a1 ∧ w'.cell? ⟨b, 1, none⟩ = some a2 ∧ w'.cell? ⟨b, 2, none⟩ = some a3 := by
  have h' := (hb.block b (Array.getElem?_eq_some_iff.1 h).1).trans h
  have n0 := cell_of_row _ b 0 _ _ _ h'
  have n1 := cell_of_row _ b 1 _ _ _ h'
  have n2 := cell_of_row _ b 2 _ _ _ h'
  simp at n0 n1 n2
  exact ⟨n0, n1, n2⟩
theorem bxw_bx {w w' : World} {v : StV} (hb : Below (bxw w v).heap.size (bxw w v) w') : Bx w v w' := bx_cells (heap_alloc_new w _) hb
theorem StR.to {w W : World} {v : StV} {s : St} (h : StR w w.heap.size v s) (hb : Below w.heap.size w W) : StR W W.heap.size v s := (h.below hb).more hb.size
theorem RdS.to {w W : World} {A : Option Addr} {n : Nat} {l : List Nt} (h : RdS Nt.cells w w.heap.size 3 A n l) (hb : Below w.heap.size w W) : RdS Nt.cells W W.heap.size 3 A n l := (h.below hb).more hb.size
theorem Rd.to {w W : World} {A : Option Addr} {n : Nat} {l : List Value} (h : Rd w w.heap.size 1 A n l) (hb : Below w.heap.size w W) : Rd W W.heap.size 1 A n l := (h.below hb).more hb.size
theorem read_is {A : Option Addr} {n c : Nat} {b : List Nat} {w : World} {x : St × List Nt × Bool} (hx : readV b = x) (hr : Rd w w.heap.size 1 A n (b.map bv)) (hb : ∀ x ∈ b, x < 256) (hnc : n ≤ c) (hc : c ≤ maxLen) :
    Calls Try.prog 10 #[.slice A n c] w (ReadP w x) := by
  rw [← hx]
  exact storeRead_any A n c _ b w hr (Nat.le_refl _) hb hnc hc
end Go.Proofs.Ytcdgaeenfhpnkaa
