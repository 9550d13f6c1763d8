/- The document's log: a record, records, Open. -/
import Derived.Test.YtcdgaeenfhpnkaaPk42
set_option linter.unusedVariables false
set_option linter.unusedSimpArgs false
set_option maxRecDepth 100000
namespace Go.Proofs.Ytcdgaeenfhpnkaa.Cr
open Go Go.RowKit CrcMath
attribute [local go_sem] Oper.semAt_some

theorem recsR_fuel : ∀ (f f' t : Nat) (S : List (List Nat)), (∀ s ∈ S, s.length = 64) → S.length ≤ f → S.length ≤ f' → recsR f t S = recsR f' t S
  | 0, f', t, S, hs, h, h' => by
    have : S = [] := List.length_eq_zero_iff.1 (by omega)
    rw [this, recsR_none (f := f') rfl]; rfl
  | f + 1, 0, t, S, hs, h, h' => by
    have : S = [] := List.length_eq_zero_iff.1 (by omega)
    rw [this, recsR_none (f := f + 1) rfl]; rfl
  | f + 1, f' + 1, t, S, hs, h, h' => by
    rw [recsR, recsR]
    cases hr : recF t S with
    | none => rfl
    | some x =>
      obtain ⟨b, u⟩ := x
      obtain ⟨h1, h2, _⟩ := recF_len hs hr
      dsimp only
      rw [recsR_fuel f f' u (S.drop (needsN b)) (fun s hm => hs s (List.mem_of_mem_drop hm)) (by rw [List.length_drop]; omega) (by rw [List.length_drop]; omega)]
/-- the sectors of a half -/
def halfS (D : List (List Nat)) (half : Nat) : List (List Nat) := (D.drop (half * (D.length / 2))).take (D.length / 2)
theorem halfS_len (D : List (List Nat)) (half : Nat) (hh : half ≤ 1) : (halfS D half).length = D.length / 2 := by
  unfold halfS
  have := half_two (S := D.length / 2) hh
  rw [List.length_take, List.length_drop]
  omega
theorem halfS_at (D : List (List Nat)) (half i : Nat) (hi : i < D.length / 2) : (halfS D half)[i]? = D[half * (D.length / 2) + i]? := by
  unfold halfS
  rw [List.getElem?_take, if_pos hi, List.getElem?_drop]
theorem rsize_n {r : RD} {U : Nat → Prop} {p g n : Nat} {w : World} (hn : n = r.d.L.length / 2) (h : HT w U p g r) :
    Calls Try.prog 91 #[.pointer (some ⟨p, 0, none⟩)] w fun e w' => e = .returned (.int .i64 (n : Int)) ∧ w' = w := by
  rw [hn]
  exact rsize_any r U p g w h
theorem get_n {G : Gt} {A : Option Addr} {c B : Nat} {s : List Nat} {w : World} (hG : G = getF s) (hr : Rd w B 1 A 64 (s.map bv)) (hB : B ≤ w.heap.size) (hb : ∀ c ∈ s, c < 256) (hc : 64 ≤ c) :
    Calls Try.prog 103 #[.slice A 64 c] w (GetP w G) := by
  rw [hG]
  exact get_any A c B s w hr hB hb hc
theorem nz_ {a : Nat} (h : ¬ a = 0) : ((a : Int) == 0) = false := by rw [beq_eq_false_iff_ne]; omega
theorem ne_t {a b : Nat} (h : ¬ a = b) : ((a : Int) != (b : Int)) = true := by rw [bne_iff_ne]; omega
theorem ne_f {a b : Nat} (h : a = b) : ((a : Int) != (b : Int)) = false := by rw [bne_eq_false_iff_eq]; omega
/-- the tests of a sector, in the order in which they are made -/
theorem bad_split (G : Gt) (t o j : Nat) :
    (Bad G t o j ∧ (((G.t : Int) == 0) = true ∨ (((G.t : Int) == 0) = false ∧ G.t ≠ t ∧ ((G.t : Int) != (t : Int)) = true) ∨ (((G.t : Int) == 0) = false ∧ ((G.t : Int) != (t : Int)) = false ∧ ((G.which : Int) != (j : Int)) = true) ∨
      (((G.t : Int) == 0) = false ∧ ((G.t : Int) != (t : Int)) = false ∧ ((G.which : Int) != (j : Int)) = false ∧ G.many ≠ o ∧ ((G.many : Int) != (o : Int)) = true) ∨
      (((G.t : Int) == 0) = false ∧ ((G.t : Int) != (t : Int)) = false ∧ ((G.which : Int) != (j : Int)) = false ∧ ((G.many : Int) != (o : Int)) = false ∧ decide ((o : Int) < 1) = true) ∨
      (((G.t : Int) == 0) = false ∧ ((G.t : Int) != (t : Int)) = false ∧ ((G.which : Int) != (j : Int)) = false ∧ ((G.many : Int) != (o : Int)) = false ∧ decide ((o : Int) < 1) = false ∧ decide ((8 : Int) < (o : Int)) = true) ∨
      (((G.t : Int) == 0) = false ∧ ((G.t : Int) != (t : Int)) = false ∧ ((G.which : Int) != (j : Int)) = false ∧ ((G.many : Int) != (o : Int)) = false ∧ decide ((o : Int) < 1) = false ∧ decide ((8 : Int) < (o : Int)) = false ∧ decide ((j : Int) + 1 < (o : Int)) = true ∧ ((G.part.length : Int) != 56) = true) ∨
      (((G.t : Int) == 0) = false ∧ ((G.t : Int) != (t : Int)) = false ∧ ((G.which : Int) != (j : Int)) = false ∧ ((G.many : Int) != (o : Int)) = false ∧ decide ((o : Int) < 1) = false ∧ decide ((8 : Int) < (o : Int)) = false ∧ decide ((j : Int) + 1 < (o : Int)) = false ∧ ((G.part.length : Int) == 0) = true))) ∨
    (¬ Bad G t o j ∧ G.part.length ≤ 56 ∧ (((G.t : Int) == 0) = false ∧ ((G.t : Int) != (t : Int)) = false ∧ ((G.which : Int) != (j : Int)) = false ∧ ((G.many : Int) != (o : Int)) = false ∧ decide ((o : Int) < 1) = false ∧ decide ((8 : Int) < (o : Int)) = false ∧
      (decide ((j : Int) + 1 < (o : Int)) = true ∧ ((G.part.length : Int) != 56) = false ∧ ((G.part.length : Int) == 0) = false ∨ decide ((j : Int) + 1 < (o : Int)) = false ∧ ((G.part.length : Int) == 0) = false))) ∨ 56 < G.part.length := by
  by_cases k1 : G.t = 0
  · exact .inl ⟨.inl k1, .inl (by rw [k1]; rfl)⟩
  have b1 : ((G.t : Int) == 0) = false := nz_ k1
  by_cases k2 : G.t = t
  rotate_left
  · exact .inl ⟨.inr (.inl k2), .inr (.inl ⟨b1, k2, ne_t k2⟩)⟩
  have b2 : ((G.t : Int) != (t : Int)) = false := ne_f k2
  by_cases k3 : G.which = j
  rotate_left
  · exact .inl ⟨.inr (.inr (.inl k3)), .inr (.inr (.inl ⟨b1, b2, ne_t k3⟩))⟩
  have b3 : ((G.which : Int) != (j : Int)) = false := ne_f k3
  by_cases k4 : G.many = o
  rotate_left
  · exact .inl ⟨.inr (.inr (.inr (.inl k4))), .inr (.inr (.inr (.inl ⟨b1, b2, b3, k4, ne_t k4⟩)))⟩
  have b4 : ((G.many : Int) != (o : Int)) = false := ne_f k4
  by_cases k5 : o < 1
  · exact .inl ⟨.inr (.inr (.inr (.inr (.inl k5)))), .inr (.inr (.inr (.inr (.inl ⟨b1, b2, b3, b4, decide_eq_true (by omega)⟩))))⟩
  have b5 : decide ((o : Int) < 1) = false := decide_eq_false (by omega)
  by_cases k6 : 8 < o
  · exact .inl ⟨.inr (.inr (.inr (.inr (.inr (.inl k6))))), .inr (.inr (.inr (.inr (.inr (.inl ⟨b1, b2, b3, b4, b5, decide_eq_true (by omega)⟩)))))⟩
  have b6 : decide ((8 : Int) < (o : Int)) = false := decide_eq_false (by omega)
  by_cases k7 : j + 1 < o
  · have b7 : decide ((j : Int) + 1 < (o : Int)) = true := decide_eq_true (by omega)
    by_cases k8 : G.part.length = 56
    · have b8 : ((G.part.length : Int) != 56) = false := by rw [k8]; rfl
      have b9 : ((G.part.length : Int) == 0) = false := by rw [k8]; rfl
      refine .inr (.inl ⟨?_, by omega, b1, b2, b3, b4, b5, b6, .inl ⟨b7, b8, b9⟩⟩)
      unfold Bad
      omega
    · have b8 : ((G.part.length : Int) != 56) = true := by rw [bne_iff_ne]; omega
      exact .inl ⟨.inr (.inr (.inr (.inr (.inr (.inr (.inl ⟨k7, k8⟩)))))), .inr (.inr (.inr (.inr (.inr (.inr (.inl ⟨b1, b2, b3, b4, b5, b6, b7, b8⟩))))))⟩
  · have b7 : decide ((j : Int) + 1 < (o : Int)) = false := decide_eq_false (by omega)
    by_cases k8 : G.part.length = 0
    · have b8 : ((G.part.length : Int) == 0) = true := by rw [k8]; rfl
      exact .inl ⟨.inr (.inr (.inr (.inr (.inr (.inr (.inr k8)))))), .inr (.inr (.inr (.inr (.inr (.inr (.inr ⟨b1, b2, b3, b4, b5, b6, b7, b8⟩))))))⟩
    · by_cases k9 : G.part.length ≤ 56
      · refine .inr (.inl ⟨?_, k9, b1, b2, b3, b4, b5, b6, .inr ⟨b7, nz_ k8⟩⟩)
        unfold Bad
        omega
      · exact .inr (.inr (by omega))
theorem get_part (s : List Nat) : (getF s).part.length ≤ 56 := by
  unfold getF
  split
  · unfold getB
    split
    · exact Nat.zero_le _
    · split
      · dsimp only
        rw [List.length_take]
        omega
      · exact Nat.zero_le _
  · exact Nat.zero_le _
def RecP (w : World) (o : Option (List Nat × Nat)) (e : Ending) (w' : World) : Prop :=
  Below w.heap.size w w' ∧ match o with
    | none => e = .returned (.tuple #[.slice none 0 0, .int .i64 0])
    | some x => ∃ A c, e = .returned (.tuple #[.slice A x.1.length c, .int .i64 x.2]) ∧ w'.ownsRow w.heap.size 5 1 (.slice A x.1.length c) x.1.length (x.1.map bv)
set_option maxHeartbeats 8000000 in
theorem record_any (r : RD) (U : Nat → Prop) (p g : Nat) (half at_ t0 : Nat) (w : World) (h : HT w U p g r) (hh : half ≤ 1) (ha : at_ ≤ 1000) :
    Calls Try.prog 98 #[.pointer (some ⟨p, 0, none⟩), .int .i64 half, .int .i64 at_, .int .i64 t0] w (RecP w (recF t0 ((halfS r.d.L half).drop at_))) := by
  obtain ⟨i0, hi8, hz0, hz1, hz2⟩ := info_parts info_u8
  obtain ⟨x, h1, _⟩ := h.parts
  have hl256 := h1.ok.2.1
  obtain ⟨n, hn⟩ : ∃ n, n = r.d.L.length / 2 := ⟨_, rfl⟩
  obtain ⟨S, hS⟩ : ∃ S, S = (halfS r.d.L half).drop at_ := ⟨_, rfl⟩
  have hSl : S.length = n - at_ := by rw [hS, List.length_drop, halfS_len _ _ hh, hn]
  obtain ⟨hs, hhs⟩ : ∃ hs, hs = half * n := ⟨_, rfl⟩
  have hs128 : hs ≤ 128 ∧ hs + n ≤ r.d.L.length := by
    have := half_two (S := n) hh
    omega
  have Wm : IntKind.i64.wrap ((half : Int) * (n : Int)) = (hs : Int) := by
    rw [show (half : Int) * (n : Int) = (hs : Int) by rw [hhs]; simp, IntWalk.i64_in _ (by omega)]
  have h64 : ∀ s ∈ r.d.L, s.length = 64 ∧ ∀ c ∈ s, c < 256 := fun s hm => h1.ok.1 s hm
  obtain ⟨o, ho⟩ : ∃ o, o = recF t0 S := ⟨_, rfl⟩
  have cells : Hid (∀ w', Below w.heap.size w w' → w'.cell? ⟨p, 0, none⟩ = some (.slice (some ⟨g, 0, none⟩) r.d.L.length x.c) ∧ ∀ k s, r.d.L[k]? = some s → w'.cell? ⟨g, k, none⟩ = some (.string (bstr s))) := fun w' hb => by
    have h' := h1.below hb
    have c0 := cell_of_row w' p 0 _ _ _ h'.hp
    simp at c0
    exact ⟨c0, fun k s hk => row_str h'.hg k s hk⟩
  have Hat : Hid (∀ j, at_ + j < n → S[j]? = r.d.L[hs + (at_ + j)]?) := fun j hj => by
    rw [hS, List.getElem?_drop, halfS_at _ _ _ (by omega), hhs, hn]
  have H := Lib.hid h
  have H64 := Lib.hid h64
  have Ho := Lib.hid ho
  have HSl := Lib.hid hSl
  have Hn := Lib.hid hn
  have kb : ∀ (w' : World) (s : List Nat), (convert 9 27 (.string (bstr s))).run Try.prog w' = .ok (.slice (some ⟨w'.heap.size, 0, none⟩) (bstr s).size (grownCap w' (bstr s).size 0 5)) (Lib.bytesWorld w' 5 (bstr s)) := fun w' s =>
    Lib.run_convert_string_bytes (P := Try.prog) w' 9 27 5 (bstr s) Try.underlying9 Try.underlying27 Try.underlying5
  have hL := hs128.2
  have hI0 : (0 : Int) ≤ (hs : Int) := by omega
  have HL256 := Lib.hid hl256
  have Hs128 := Lib.hid hs128
  have Hg : Hid (recF t0 ((halfS r.d.L half).drop at_) = o) := by show _ = _; rw [← hS, ho]
  clear h h1 h64 ho hSl hhs hS hn
  rw [Hg.out]
  go_enter Try.func98, Try.ntmps98
  go_wp2_with fail
  go_loopg [3, 10, 11, 12] 9 (fun k vt vo vof vi wr => ∃ (j t of_ co : Nat) (Ao : Option Addr) (out : List Nat), k + j = 9 ∧ vt = .int .i64 t ∧ vo = .slice Ao out.length co ∧ vof = .int .i64 of_ ∧ vi = .int .i64 j ∧ RInv t0 S j t of_ out ∧ wr.ownsRow w.heap.size 5 1 (.slice Ao out.length co) out.length (out.map bv) ∧ Below w.heap.size w wr)
  case atStart => exact ⟨0, t0, 1, 0, none, [], by omega, rfl, rfl, rfl, rfl, .inl ⟨rfl, rfl, rfl, rfl⟩, World.ownsRow_nil _ _ _ _, Below.refl _ _⟩
  case round =>
    obtain ⟨j, t, of_, co, Ao, out, hj, rfl, rfl, rfl, rfl, hinv, hown, hbel⟩ := hrel
    have Hinv := Lib.hid hinv
    have Hown := Lib.hid hown
    have Hbel := Lib.hid hbel
    have hj8 : j ≤ 8 ∧ out.length ≤ 448 := by
      rcases hinv with ⟨a, b, c, d⟩ | ⟨a, b, c, d, _⟩
      · rw [d]; exact ⟨by omega, by simp⟩
      · omega
    have hj8' := hj8.1
    clear hinv hown hbel
    by_cases hlt : j < of_
    rotate_left
    · have HR : Hid (o = some (out, t)) := Ho.out.trans (Hinv.out.done hlt)
      have y1 : ¬ (j : Int) < (of_ : Int) := by omega
      clear hlt
      go_wp2_with fail
      go_ret2
      unfold RecP
      rw [HR.out]
      exact ⟨Hbel.out, Ao, co, rfl, Hown.out⟩
    · have y1 : (j : Int) < (of_ : Int) := by omega
      have Hlt := Lib.hid hlt
      clear hlt
      by_cases hin : at_ + j < n
      rotate_left
      · have HR : Hid (o = none) := Ho.out.trans (Hinv.out.out Hlt.out (by rw [HSl.out]; omega))
        have y2 : ¬ (at_ : Int) + (j : Int) < (n : Int) := by omega
        clear hin
        go_wp2_with (first
          | (go_at_call 91; (with_reducible refine (rsize_n Hn.out (H.out.below Hbel.out)).mono ?_)
             rintro e w2 ⟨rfl, hw2⟩
             obtain rfl := hw2.symm))
        go_ret2
        unfold RecP
        rw [HR.out]
        exact ⟨Hbel.out, rfl⟩
      · have y2 : (at_ : Int) + (j : Int) < (n : Int) := by omega
        obtain ⟨s, hs0⟩ : ∃ s, r.d.L[hs + (at_ + j)]? = some s := ⟨_, List.getElem?_eq_getElem (by omega)⟩
        have HSj : Hid (S[j]? = some s) := (Hat.out j hin).trans hs0
        obtain ⟨hsl, hsb⟩ := H64.out s (List.mem_of_getElem? hs0)
        have Hsl := Lib.hid hsl
        have Hsb := Lib.hid hsb
        have hsz : (bstr s).size = 64 := by rw [bstr_size]; exact hsl
        have k0 : ∀ w', Below wr.heap.size wr w' → w'.cell? ⟨p, 0, none⟩ = some (.slice (some ⟨g, 0, none⟩) r.d.L.length x.c) := fun w' hb => (cells.out w' (Hbel.out.trans (hb.mono Hbel.out.size))).1
        have ks : ∀ w', Below wr.heap.size wr w' → w'.cell? ⟨g, hs + (at_ + j), none⟩ = some (.string (bstr s)) := fun w' hb => (cells.out w' (Hbel.out.trans (hb.mono Hbel.out.size))).2 _ _ hs0
        have kbs : ∀ (w' : World), (convert 9 27 (.string (bstr s))).run Try.prog w' = .ok (.slice (some ⟨w'.heap.size, 0, none⟩) 64 (grownCap w' 64 0 5)) (Lib.bytesWorld w' 5 (bstr s)) := fun w' => by
          have := kb w' s
          rw [hsz] at this
          exact this
        have c0 := k0 wr (Below.refl _ _)
        have z1 : (hs : Int) + (at_ : Int) + (j : Int) < (r.d.L.length : Int) := by omega
        have z2 : (0 : Int) ≤ (hs : Int) + (at_ : Int) + (j : Int) := by omega
        have z3 : ((hs : Int) + (at_ : Int) + (j : Int)).toNat = hs + (at_ + j) := by omega
        have W1 : IntKind.i64.wrap ((hs : Int) + (at_ : Int)) = (hs : Int) + (at_ : Int) := IntWalk.i64_in _ (by omega)
        have W2 : IntKind.i64.wrap ((hs : Int) + (at_ : Int) + (j : Int)) = (hs : Int) + (at_ : Int) + (j : Int) := IntWalk.i64_in _ (by omega)
        obtain ⟨G, hG⟩ : ∃ G, G = getF s := ⟨_, rfl⟩
        have HG := Lib.hid hG
        clear hsl hsb hs0 hin hG
        go_wp2_with (first
          | (go_at_call 91; (with_reducible refine (rsize_n Hn.out (H.out.below Hbel.out)).mono ?_)
             rintro e w2 ⟨rfl, hw2⟩
             obtain rfl := hw2.symm))
        have HB0 : Hid (Below w.heap.size w wr) := Hbel.out
        refine sk (fun w' => Below wr.heap.size wr w') 25 ?_ (fun hHeld => ?_)
        · (first | exact (Below.refl _ _).drew | assumption)
        refine tk 0 29 hHeld ?_
        refine tk 1 30 hHeld ?_
        refine tk 2 31 hHeld ?_
        refine tk 3 32 hHeld ?_
        refine tk 4 33 hHeld ?_
        refine tk 5 34 hHeld ?_
        refine tk 8 37 hHeld ?_
        refine tk 10 39 hHeld ?_
        refine bk 6 35 (fun K hK => ?_)
        go_simp
        (go_at_call 91; (with_reducible refine (rsize_n Hn.out (H.out.below (Hbel.out.trans (hHeld.mono Hbel.out.size)))).mono ?_))
        rintro e w3 ⟨rfl, hw3⟩
        obtain rfl := hw3.symm
        refine hK.out _ _ ?_ (fun hHeld' => ?_)
        · (first | exact (Below.refl _ _).drew | assumption)
        clear hK K hHeld
        have hHeld := hHeld'
        clear hHeld'
        simp only [List.set_cons_zero, List.set_cons_succ]
        refine tk 7 36 hHeld ?_
        refine tk 9 38 hHeld ?_
        refine tk 11 40 hHeld ?_
        refine tk 12 41 hHeld ?_
        refine tk 13 42 hHeld ?_
        refine bk 14 43 (fun K hK => ?_)
        go_simp
        have hHb := hHeld.trans ((bw_below _ 5 (bstr s)).mono hHeld.size)
        refine hK.out _ _ ?_ (fun hHeld' => ?_)
        · (first | exact (Below.refl _ _).drew | assumption)
        clear hK K hHeld
        have hHeld := hHeld'
        clear hHeld'
        simp only [List.set_cons_zero, List.set_cons_succ]
        refine bk 15 44 (fun K hK => ?_)
        go_simp
        have Hbw : Rd (Lib.bytesWorld wr.drew 5 (bstr s)) (wr.heap.size + 1) 1 (some ⟨wr.heap.size, 0, none⟩) 64 (s.map bv) := bw_rd wr.drew _ s 64 Hsl.out Hsb.out
        have Hbz : wr.heap.size + 1 ≤ (Lib.bytesWorld wr.drew 5 (bstr s)).heap.size := by rw [Lib.bytesWorld_size]; exact Nat.le_refl _
        (go_at_call 103; (with_reducible refine (get_n HG.out Hbw Hbz Hsb.out (grownCap_ge _ _ _ _)).mono ?_))
        rintro e w5 ⟨A5, c5, rfl, hc5, hcm5, hrd5, hb5⟩
        have hB5 : Below wr.heap.size wr w5 := hHeld.trans (hb5.mono hHeld.size)
        have HB5 : Hid (Below w.heap.size w w5) := Hbel.out.trans (hB5.mono Hbel.out.size)
        have HO5 := Lib.hid (own_below Hown.out hB5)
        have HR5 := Lib.hid hrd5
        clear hrd5 hb5 Hbw Hbz
        refine hK.out _ _ ?_ (fun hHeld' => ?_)
        · (first | exact (Below.refl _ _).drew | assumption)
        clear hK K hHeld
        have hHeld := hHeld'
        clear hHeld'
        simp only [List.set_cons_zero, List.set_cons_succ]
        refine tk 16 28 hHeld ?_
        refine tk 17 45 hHeld ?_
        refine tk 18 46 hHeld ?_
        refine tk 19 47 hHeld ?_
        refine tk 20 48 hHeld ?_
        refine tk 21 13 hHeld ?_
        refine tk 22 14 hHeld ?_
        refine tk 23 15 hHeld ?_
        refine tk 24 16 hHeld ?_
        refine wpAnyH_done (by kernel_rfl) ?_ _
        refine NoPanic.normal ?_
        have hpl : G.part.length ≤ 56 := by rw [HG.out]; exact get_part s
        have hol : out.length ≤ 448 := hj8.2
        clear k0 ks kbs kb c0 Wm hHeld
        have three : (((j : Int) == 0) = true ∧ ((t : Int) == 0) = true ∧ j = 0 ∧ t = 0) ∨ (((j : Int) == 0) = true ∧ ((t : Int) == 0) = false ∧ j = 0 ∧ ¬ t = 0) ∨ (((j : Int) == 0) = false ∧ ¬ j = 0) := by
          simp only [beq_iff_eq, beq_eq_false_iff_ne]
          omega
        rcases three with ⟨v1, v2, v3, v4⟩ | ⟨v1, v2, v3, v4⟩ | ⟨v1, v3⟩
        · have HV : Hid ((if j = 0 ∧ t = 0 then (getF s).t else t) = G.t ∧ (if j = 0 then (getF s).many else of_) = G.many) := by
            show _ ∧ _
            rw [if_pos ⟨v3, v4⟩, if_pos v3, HG.out]
            exact ⟨rfl, rfl⟩
          have hsp := bad_split G G.t G.many j
          clear v3 v4
          rcases hsp with ⟨hbad, hsp⟩ | ⟨hgood, _, hsp⟩ | hbig
          · have HR : Hid (o = none) := by
              show _ = _
              rw [Ho.out]
              refine Hinv.out.bad Hsl.out Hlt.out HSj.out ?_
              rw [HV.out.1, HV.out.2, ← HG.out]
              exact hbad
            clear hbad HV
            rcases hsp with a1 | ⟨a1, a0, a2⟩ | ⟨a1, a2, a3⟩ | ⟨a1, a2, a3, a0, a4⟩ | ⟨a1, a2, a3, a4, a5⟩ | ⟨a1, a2, a3, a4, a5, a6⟩ | ⟨a1, a2, a3, a4, a5, a6, a7, a8⟩ | ⟨a1, a2, a3, a4, a5, a6, a7, a8⟩
            all_goals first
              | exact absurd rfl a0
              | (go_wp2_with fail
                 go_ret2
                 unfold RecP
                 rw [HR.out]
                 exact ⟨HB5.out, rfl⟩)
          · have HN : Hid (RInv t0 S (j + 1) G.t G.many (out ++ G.part)) := by
              show RInv _ _ _ _ _ _
              have h := Hinv.out.next Hsl.out Hlt.out HSj.out (by rw [HV.out.1, HV.out.2, ← HG.out]; exact hgood)
              rw [HV.out.1, HV.out.2, ← HG.out] at h
              exact h
            have hj1 : j + 1 ≤ 8 := by
              rcases HN.out with ⟨h1, _⟩ | ⟨_, h1, h2, _⟩
              · omega
              · omega
            clear hgood HV
            obtain ⟨a1, a2, a3, a4, a5, a6, hsp⟩ := hsp
            rcases hsp with ⟨a7, a8, a9⟩ | ⟨a7, a8⟩
            all_goals
              go_wp2_with (first
                | (at_builtin
                   refine wpList_app _ rfl (.tmp 100) (.tmp 101) 27 rfl w.heap.size 5 i0 (.int .u8 0) 1 1 Try.underlying27 hi8 hz0 hz1 hz2 rfl (by omega) (.slice Ao out.length co) out.length _ rfl HO5.out w5.heap.size A5 G.part.length c5 (G.part.map bv) rfl HR5.out (bv_one _) ?g1 ?g2 ?g3 ?_
                   case g1 => unfold maxLen; omega
                   case g2 => omega
                   case g3 => exact HB5.out.size
                   intro v6 w6 hown6 hg6 hat6
                   obtain ⟨A6, c6, rfl⟩ := own_shape hown6
                   have HB6 : Hid (Below w.heap.size w w6) := HB5.out.grown hg6 HB5.out.size (fun q hq => (own_blk' HO5.out q hq).1)
                   have HO6 : Hid (w6.ownsRow w.heap.size 5 1 (.slice A6 (out ++ G.part).length c6) (out ++ G.part).length ((out ++ G.part).map bv)) := by
                     show World.ownsRow _ _ _ _ _ _ _
                     rw [List.length_append, List.map_append]
                     exact hown6
                   have HL6 : Hid ((out ++ G.part).length = out.length + G.part.length) := List.length_append
                   clear hown6 hg6 hat6))
              go_roundg (gk - 1)
              case measure => omega
              case rel => exact ⟨j + 1, G.t, G.many, c6, A6, out ++ G.part, by omega, rfl, by rw [HL6.out], rfl, by go_num, HN.out, HO6.out, HB6.out⟩
          · exact absurd hbig (by omega)
        · have HV : Hid ((if j = 0 ∧ t = 0 then (getF s).t else t) = t ∧ (if j = 0 then (getF s).many else of_) = G.many) := by
            show _ ∧ _
            rw [if_neg (fun h => v4 h.2), if_pos v3, HG.out]
            exact ⟨rfl, rfl⟩
          have hsp := bad_split G t G.many j
          clear v3 v4
          rcases hsp with ⟨hbad, hsp⟩ | ⟨hgood, _, hsp⟩ | hbig
          · have HR : Hid (o = none) := by
              show _ = _
              rw [Ho.out]
              refine Hinv.out.bad Hsl.out Hlt.out HSj.out ?_
              rw [HV.out.1, HV.out.2, ← HG.out]
              exact hbad
            clear hbad HV
            rcases hsp with a1 | ⟨a1, a0, a2⟩ | ⟨a1, a2, a3⟩ | ⟨a1, a2, a3, a0, a4⟩ | ⟨a1, a2, a3, a4, a5⟩ | ⟨a1, a2, a3, a4, a5, a6⟩ | ⟨a1, a2, a3, a4, a5, a6, a7, a8⟩ | ⟨a1, a2, a3, a4, a5, a6, a7, a8⟩
            all_goals first
              | exact absurd rfl a0
              | (go_wp2_with fail
                 go_ret2
                 unfold RecP
                 rw [HR.out]
                 exact ⟨HB5.out, rfl⟩)
          · have HN : Hid (RInv t0 S (j + 1) t G.many (out ++ G.part)) := by
              show RInv _ _ _ _ _ _
              have h := Hinv.out.next Hsl.out Hlt.out HSj.out (by rw [HV.out.1, HV.out.2, ← HG.out]; exact hgood)
              rw [HV.out.1, HV.out.2, ← HG.out] at h
              exact h
            have hj1 : j + 1 ≤ 8 := by
              rcases HN.out with ⟨h1, _⟩ | ⟨_, h1, h2, _⟩
              · omega
              · omega
            clear hgood HV
            obtain ⟨a1, a2, a3, a4, a5, a6, hsp⟩ := hsp
            rcases hsp with ⟨a7, a8, a9⟩ | ⟨a7, a8⟩
            all_goals
              go_wp2_with (first
                | (at_builtin
                   refine wpList_app _ rfl (.tmp 100) (.tmp 101) 27 rfl w.heap.size 5 i0 (.int .u8 0) 1 1 Try.underlying27 hi8 hz0 hz1 hz2 rfl (by omega) (.slice Ao out.length co) out.length _ rfl HO5.out w5.heap.size A5 G.part.length c5 (G.part.map bv) rfl HR5.out (bv_one _) ?g1 ?g2 ?g3 ?_
                   case g1 => unfold maxLen; omega
                   case g2 => omega
                   case g3 => exact HB5.out.size
                   intro v6 w6 hown6 hg6 hat6
                   obtain ⟨A6, c6, rfl⟩ := own_shape hown6
                   have HB6 : Hid (Below w.heap.size w w6) := HB5.out.grown hg6 HB5.out.size (fun q hq => (own_blk' HO5.out q hq).1)
                   have HO6 : Hid (w6.ownsRow w.heap.size 5 1 (.slice A6 (out ++ G.part).length c6) (out ++ G.part).length ((out ++ G.part).map bv)) := by
                     show World.ownsRow _ _ _ _ _ _ _
                     rw [List.length_append, List.map_append]
                     exact hown6
                   have HL6 : Hid ((out ++ G.part).length = out.length + G.part.length) := List.length_append
                   clear hown6 hg6 hat6))
              go_roundg (gk - 1)
              case measure => omega
              case rel => exact ⟨j + 1, t, G.many, c6, A6, out ++ G.part, by omega, rfl, by rw [HL6.out], rfl, by go_num, HN.out, HO6.out, HB6.out⟩
          · exact absurd hbig (by omega)
        · have HV : Hid ((if j = 0 ∧ t = 0 then (getF s).t else t) = t ∧ (if j = 0 then (getF s).many else of_) = of_) := by
            show _ ∧ _
            rw [if_neg (fun h => v3 h.1), if_neg v3]
            exact ⟨rfl, rfl⟩
          have hsp := bad_split G t of_ j
          clear v3
          rcases hsp with ⟨hbad, hsp⟩ | ⟨hgood, _, hsp⟩ | hbig
          · have HR : Hid (o = none) := by
              show _ = _
              rw [Ho.out]
              refine Hinv.out.bad Hsl.out Hlt.out HSj.out ?_
              rw [HV.out.1, HV.out.2, ← HG.out]
              exact hbad
            clear hbad HV
            rcases hsp with a1 | ⟨a1, a0, a2⟩ | ⟨a1, a2, a3⟩ | ⟨a1, a2, a3, a0, a4⟩ | ⟨a1, a2, a3, a4, a5⟩ | ⟨a1, a2, a3, a4, a5, a6⟩ | ⟨a1, a2, a3, a4, a5, a6, a7, a8⟩ | ⟨a1, a2, a3, a4, a5, a6, a7, a8⟩
            all_goals first
              | exact absurd rfl a0
              | (go_wp2_with fail
                 go_ret2
                 unfold RecP
                 rw [HR.out]
                 exact ⟨HB5.out, rfl⟩)
          · have HN : Hid (RInv t0 S (j + 1) t of_ (out ++ G.part)) := by
              show RInv _ _ _ _ _ _
              have h := Hinv.out.next Hsl.out Hlt.out HSj.out (by rw [HV.out.1, HV.out.2, ← HG.out]; exact hgood)
              rw [HV.out.1, HV.out.2, ← HG.out] at h
              exact h
            have hj1 : j + 1 ≤ 8 := by
              rcases HN.out with ⟨h1, _⟩ | ⟨_, h1, h2, _⟩
              · omega
              · omega
            clear hgood HV
            obtain ⟨a1, a2, a3, a4, a5, a6, hsp⟩ := hsp
            rcases hsp with ⟨a7, a8, a9⟩ | ⟨a7, a8⟩
            all_goals
              go_wp2_with (first
                | (at_builtin
                   refine wpList_app _ rfl (.tmp 100) (.tmp 101) 27 rfl w.heap.size 5 i0 (.int .u8 0) 1 1 Try.underlying27 hi8 hz0 hz1 hz2 rfl (by omega) (.slice Ao out.length co) out.length _ rfl HO5.out w5.heap.size A5 G.part.length c5 (G.part.map bv) rfl HR5.out (bv_one _) ?g1 ?g2 ?g3 ?_
                   case g1 => unfold maxLen; omega
                   case g2 => omega
                   case g3 => exact HB5.out.size
                   intro v6 w6 hown6 hg6 hat6
                   obtain ⟨A6, c6, rfl⟩ := own_shape hown6
                   have HB6 : Hid (Below w.heap.size w w6) := HB5.out.grown hg6 HB5.out.size (fun q hq => (own_blk' HO5.out q hq).1)
                   have HO6 : Hid (w6.ownsRow w.heap.size 5 1 (.slice A6 (out ++ G.part).length c6) (out ++ G.part).length ((out ++ G.part).map bv)) := by
                     show World.ownsRow _ _ _ _ _ _ _
                     rw [List.length_append, List.map_append]
                     exact hown6
                   have HL6 : Hid ((out ++ G.part).length = out.length + G.part.length) := List.length_append
                   clear hown6 hg6 hat6))
              go_roundg (gk - 1)
              case measure => omega
              case rel => exact ⟨j + 1, t, of_, c6, A6, out ++ G.part, by omega, rfl, by rw [HL6.out], rfl, by go_num, HN.out, HO6.out, HB6.out⟩
          · exact absurd hbig (by omega)
end Go.Proofs.Ytcdgaeenfhpnkaa.Cr
