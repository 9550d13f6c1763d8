/- The live question ahead of each statement on logs is answered as it says. -/
import Derived.Test.YtefmeifamapdcaaLogS
set_option linter.unusedVariables false
set_option linter.unusedSimpArgs false
set_option maxRecDepth 100000
namespace Go.Proofs.Ytefmeifamapdcaa
open Go Go.RowKit CrcMath
attribute [local go_sem] Oper.semAt_some

theorem lg_room_is {p q lb m k half turn taken : Nat} {l : List (List Nat)} {w : World} (r : Int) (hd : DK w p q m k half turn taken l) (hl : LogAt w lb p half turn taken) (hr : ((m / 2 - taken : Nat) : Int) = r) :
    Calls Try.prog 14 #[.pointer (some ⟨lb, 0, none⟩)] w fun e w' => e = .returned (.int .i64 r) ∧ Below w.heap.size w w' := by
  rw [← hr]
  exact lg_room hd hl
theorem lg_turn_is {p lb half turn taken : Nat} {w : World} (r : Int) (hl : LogAt w lb p half turn taken) (hr : (turn : Int) = r) :
    Calls Try.prog 15 #[.pointer (some ⟨lb, 0, none⟩)] w fun e w' => e = .returned (.int .i64 r) ∧ w' = w := by
  rw [← hr]
  exact turn_any p lb half turn taken w hl
theorem wpList_mkw {P : Program} (w : World) {ops : Array Oper} {rest : List Oper} {o : Oper} {a : Act} {Q : Exit → Act → World → Prop}
    (hg : Region.wanted o (yielded ops a.tmps) = true) (l c : Operand) (t : TypeId) (hop : o.op = Op.makeSlice t l c)
    (base : Nat) (e : TypeId) (i : TypeInfo) (z : Value) (h1 : P.underlying t = some (.slice e)) (h2 : P.info? e = some i) (h3 : i.zero = some z) (h4 : i.size = 1) (hz1 : z.cells = #[z])
    (kl kc : IntKind) (L C : Int) (n m : Nat) (hl : a.eval l = .int kl L) (hc : a.eval c = .int kc C) (hL : L = (n : Int)) (hC : C = (m : Int)) (hnm : n ≤ m)
    (b2 : i.bytes * m ≤ 281474976710656) (b3 : m ≤ maxLen) (b4 : base ≤ w.heap.size)
    (hK : ∀ w', w'.ownsRow base e 1 (.slice (some ⟨w.heap.size, 0, none⟩) n m) n (List.replicate n z) → w.grownBy w' none → w'.heap.size = w.heap.size + 1 → wpList P ops Q rest (a.put o.dst (.slice (some ⟨w.heap.size, 0, none⟩) n m)) w') :
    wpList P ops Q (o :: rest) a w :=
  wpList_step fun K hK' => by
    rw [if_pos hg]
    exact wp_mk w l c t hop base e i z h1 h2 h3 h4 hz1 kl kc L C n m hl hc hL hC hnm b2 b3 b4 fun w' q1 q2 q3 => hK' _ _ (hK w' q1 q2 q3)
def z57 : List Nat := List.replicate 57 0
theorem z57_lt : ∀ x ∈ z57, x < 256 := fun x hx => by have := (List.mem_replicate.1 hx).2; omega
theorem z57_rd {w : World} {base g n c : Nat} (h : w.ownsRow base 5 1 (.slice (some ⟨g, 0, none⟩) n c) n (List.replicate n (.int .u8 0))) (hn : n = 57) : Rd w w.heap.size 1 (some ⟨g, 0, none⟩) n (z57.map bv) := by
  subst hn
  have := Rd.of_own h
  unfold z57
  rw [List.map_replicate]
  exact this
theorem rd_a (w : World) : Rd (w.alloc (.cells #[.int .u8 97] 5 (1, 2))) (w.heap.size + 1) 1 (some ⟨w.heap.size, 0, none⟩) 1 (([97] : List Nat).map bv) := rd_new w (([97] : List Nat).map bv) 5 1 1 rfl (1, 2)
theorem rd_z (w : World) : Rd (w.alloc (.cells #[.int .u8 122] 5 (1, 2))) (w.heap.size + 1) 1 (some ⟨w.heap.size, 0, none⟩) 1 (([122] : List Nat).map bv) := rd_new w (([122] : List Nat).map bv) 5 1 1 rfl (1, 2)
theorem ss_one {w : World} {B n c : Nat} {A : Option Addr} {x : List Nat} (h : Rd w B 1 A n (x.map bv)) (hB : B ≤ w.heap.size) (fr : Nat × Nat := (0, 0)) : SS (w.alloc (.cells #[.slice A n c] 23 fr)) (some ⟨w.heap.size, 0, none⟩) 1 [x] := by
  refine ⟨rfl, fun _ => ⟨w.heap.size, 0, rfl, fun j r hj => ?_⟩⟩
  have hr : Rd (w.alloc (.cells #[.slice A n c] 23 fr)) (w.alloc (.cells #[.slice A n c] 23 fr)).heap.size 1 A n (x.map bv) := (h.alloc hB _).more (by rw [World.size_alloc]; omega)
  have cl := fun k => cell_of_row _ w.heap.size k _ _ _ (heap_alloc_new w (.cells #[.slice A n c] 23 fr))
  match j, hj with
  | 0, hj =>
    simp only [List.getElem?_cons_zero, Option.some.injEq] at hj
    subst hj
    exact ⟨A, n, c, by rw [cl]; rfl, hr⟩
  | j + 1, hj => simp at hj
theorem ss_two {w : World} {B n c n' c' : Nat} {A A' : Option Addr} {x x' : List Nat} (h : Rd w B 1 A n (x.map bv)) (h' : Rd w B 1 A' n' (x'.map bv)) (hB : B ≤ w.heap.size) (fr : Nat × Nat := (0, 0)) : SS (w.alloc (.cells #[.slice A n c, .slice A' n' c'] 23 fr)) (some ⟨w.heap.size, 0, none⟩) 2 [x, x'] := by
  refine ⟨rfl, fun _ => ⟨w.heap.size, 0, rfl, fun j r hj => ?_⟩⟩
  have cl := fun k => cell_of_row _ w.heap.size k _ _ _ (heap_alloc_new w (.cells #[.slice A n c, .slice A' n' c'] 23 fr))
  match j, hj with
  | 0, hj =>
    simp only [List.getElem?_cons_zero, Option.some.injEq] at hj
    subst hj
    exact ⟨A, n, c, by rw [cl]; rfl, (h.alloc hB _).more (by rw [World.size_alloc]; omega)⟩
  | 1, hj =>
    simp only [List.getElem?_cons_succ, List.getElem?_cons_zero, Option.some.injEq] at hj
    subst hj
    exact ⟨A', n', c', by rw [cl]; rfl, (h'.alloc hB _).more (by rw [World.size_alloc]; omega)⟩
  | j + 2, hj => simp at hj
theorem lit_ns {B p q h : Nat} (g o : Nat) (h1 : p < B) (h2 : q < B) (h3 : B ≤ h) (e : (some (⟨h, 0, none⟩ : Addr)) = some ⟨g, o, none⟩) : g ≠ p ∧ g ≠ q := by
  injection e with e
  injection e with e1 e2
  omega
set_option maxHeartbeats 4000000 in
theorem head_any (w : World) :
    Calls Try.prog 7 #[] w fun e w' => e = .returned (.bool true) ∧ Below w.heap.size w w' := by
  have kc := fun (w : World) (C : Array Value) (n c : Nat) => Lib.run_convert_bytes_const (P := Try.prog) w 23 5 C n c Try.underlying23 Try.underlying5
  obtain ⟨i0, hi, hz0, hz1, hz2⟩ := info_parts info_u8s
  have al : ∀ (w : World) (o : Obj), Below w.heap.size w (w.alloc o) := fun w o => (Below.refl _ _).alloc (Nat.le_refl _) _
  have Al := Lib.hid al
  have m57 : i0.bytes * 57 ≤ 281474976710656 := by rw [hz2]; omega
  have x57 : (57 : Nat) ≤ maxLen := by unfold maxLen; omega
  clear al
  go_enter Try.func7, Try.ntmps7
  go_wp2_with (first
    | (go_at_call 8; (with_reducible refine (lg_new w 8).mono ?_)
       rintro e w1 ⟨rfl, hd1, hb1⟩
       have HD1 : Hid (DK w1 (w.heap.size + 1) w.heap.size 8 0 0 1 0 []) := hd1
       have HB1 := Lib.hid hb1
       clear hd1 hb1)
    | (go_at_call 10; (with_reducible refine (lg_open HD1.out).mono ?_)
       rintro e w2 ⟨v2, rfl, ho2, hl2, hd2, hb2⟩
       obtain ⟨A2, c2, rfl⟩ := out_shape ho2
       have HD2 := Lib.hid hd2
       have HL2 := Lib.hid hl2
       have HB2 : Hid (Below w.heap.size w w2) := HB1.out.trans (hb2.mono HB1.out.size)
       have hs1 : w.heap.size + 1 < w1.heap.size := HD1.out.pl
       obtain ⟨lb, hlb⟩ : ∃ lb, lb = w1.heap.size := ⟨_, rfl⟩
       have h3 : ∀ k, three (w.heap.size + 1) w.heap.size lb k → w.heap.size ≤ k := fun k hk => by rcases hk with rfl | rfl | rfl <;> omega
       have H3 := Lib.hid h3
       rw [← hlb] at HL2
       rw [← hlb]
       clear ho2 hl2 hd2 hb2 HD1 HB1 hs1 h3 hlb)
    | (go_at_call 12; (with_reducible refine (lg_add_ok (HD2.out.below (Al.out w2 _)) (HL2.out.below (Al.out w2 _)) (n := 1) (c := 1) (by omega) (rd_a w2) (by rw [World.size_alloc]; exact Nat.le_refl _) (fun g o e => lit_ns g o HD2.out.pl HD2.out.ql (Nat.le_refl _) e) (by decide) (Nat.le_refl _) (by unfold maxLen; omega) (by omega) (by decide)).mono ?_)
       rintro e w3 ⟨rfl, hd3, hl3, hc3⟩
       have HD3 : Hid (DK w3 (w.heap.size + 1) w.heap.size 8 8 0 1 1 [[97]]) := hd3
       have HL3 : Hid (LogAt w3 lb (w.heap.size + 1) 0 1 1) := hl3
       have HB3 : Hid (Below w.heap.size w w3) := (HB2.out.trans ((Al.out w2 _).mono HB2.out.size)).trans (hc3.below (by rw [World.size_alloc]; have := HB2.out.size; omega) H3.out)
       clear hd3 hl3 hc3 HD2 HL2 HB2)
    | (with_reducible refine wpList_mk w3 rfl (.const (.int .i64 57)) (.const (.int .i64 57)) 23 rfl w3.heap.size 5 i0 (.int .u8 0) Try.underlying23 hi hz0 hz1 rfl .i64 .i64 _ _ 57 57 rfl rfl rfl rfl (Nat.le_refl _) m57 x57 (Nat.le_refl _) ?_
       intro w4 hown4 hg4
       have hr4 := z57_rd hown4 rfl
       have hb4 : Below w3.heap.size w3 w4 := (Below.refl _ _).grown hg4 (Nat.le_refl _) (by simp)
       have HR4 := Lib.hid hr4
       have HD4 := Lib.hid (HD3.out.below hb4)
       have HL4 := Lib.hid (HL3.out.below hb4)
       have HB4 : Hid (Below w.heap.size w w4) := HB3.out.trans (hb4.mono HB3.out.size)
       have HN4 : Hid (w.heap.size + 1 < w3.heap.size ∧ w.heap.size < w3.heap.size) := ⟨HD3.out.pl, HD3.out.ql⟩
       clear HD3 HL3 HB3 hown4 hg4 hr4 hb4)
    | (go_at_call 12; (with_reducible refine (lg_add_ok HD4.out HL4.out (n := 57) (c := 57) (by omega) HR4.out (Nat.le_refl _) (fun g o e => lit_ns g o HN4.out.1 HN4.out.2 (Nat.le_refl _) e) z57_lt (Nat.le_refl _) (by unfold maxLen; omega) (by omega) (by decide)).mono ?_)
       rintro e w5 ⟨rfl, hd5, hl5, hc5⟩
       have HD5 : Hid (DK w5 (w.heap.size + 1) w.heap.size 8 16 0 1 3 [[97], z57]) := hd5
       have HL5 : Hid (LogAt w5 lb (w.heap.size + 1) 0 1 3) := hl5
       have HB5 : Hid (Below w.heap.size w w5) := HB4.out.trans (hc5.below HB4.out.size H3.out)
       clear hd5 hl5 hc5 HD4 HL4 HB4 HR4 HN4)
    | (with_reducible refine wpList_mk w5 rfl (.const (.int .i64 57)) (.const (.int .i64 57)) 23 rfl w5.heap.size 5 i0 (.int .u8 0) Try.underlying23 hi hz0 hz1 rfl .i64 .i64 _ _ 57 57 rfl rfl rfl rfl (Nat.le_refl _) m57 x57 (Nat.le_refl _) ?_
       intro w6 hown6 hg6
       have hb6 : Below w5.heap.size w5 w6 := (Below.refl _ _).grown hg6 (Nat.le_refl _) (by simp)
       have HD6 := Lib.hid (HD5.out.below hb6)
       have HL6 := Lib.hid (HL5.out.below hb6)
       have HB6 : Hid (Below w.heap.size w w6) := HB5.out.trans (hb6.mono HB5.out.size)
       clear HD5 HL5 HB5 hown6 hg6 hb6)
    | (go_at_call 12; (with_reducible refine (lg_add_full HD6.out HL6.out (n := 57) (c := 57) (by omega) (by decide)).mono ?_)
       rintro e w7 ⟨rfl, hd7, hl7, hc7⟩
       have HD7 := Lib.hid hd7
       have HL7 := Lib.hid hl7
       have HB7 : Hid (Below w.heap.size w w7) := HB6.out.trans (hc7.below HB6.out.size H3.out)
       clear hd7 hl7 hc7 HD6 HL6 HB6)
    | (go_at_call 14; (with_reducible refine (lg_room_is 1 HD7.out HL7.out (by decide)).mono ?_)
       rintro e w8 ⟨rfl, hb8⟩
       have HD8 := Lib.hid (HD7.out.below hb8)
       have HL8 := Lib.hid (HL7.out.below hb8)
       have HB8 : Hid (Below w.heap.size w w8) := HB7.out.trans (hb8.mono HB7.out.size)
       clear hb8 HD7 HL7 HB7)
    | (go_at_call 10; (with_reducible refine (lg_open HD8.out).mono ?_)
       rintro e w9 ⟨v9, rfl, ho9, hl9, hd9, hb9⟩
       obtain ⟨A9, c9, rfl⟩ := out_shape ho9
       have HO9 := Lib.hid ho9
       have HD9 := Lib.hid hd9
       have HL9 := Lib.hid (HL8.out.below hb9)
       have HB9 : Hid (Below w.heap.size w w9) := HB8.out.trans (hb9.mono HB8.out.size)
       clear ho9 hl9 hd9 hb9 HD8 HL8 HB8)
    | (go_at_call 11; (with_reducible refine (lg_comp_ok (HD9.out.below (Al.out w9 _)) (HL9.out.below (Al.out w9 _)) (n := 1) (c := 1) (by omega) (rd_z w9) (by rw [World.size_alloc]; exact Nat.le_refl _) (fun g o e => lit_ns g o HD9.out.pl HD9.out.ql (Nat.le_refl _) e) (by decide) (Nat.le_refl _) (by unfold maxLen; omega) (by omega) (by decide) (by omega)).mono ?_)
       rintro e w10 ⟨rfl, hd10, hl10, hc10⟩
       have HD10 : Hid (DK w10 (w.heap.size + 1) w.heap.size 8 24 1 2 1 [[122]]) := hd10
       have HL10 : Hid (LogAt w10 lb (w.heap.size + 1) 1 2 1) := hl10
       have HB10 : Hid (Below w.heap.size w w10) := (HB9.out.trans ((Al.out w9 _).mono HB9.out.size)).trans (hc10.below (by rw [World.size_alloc]; have := HB9.out.size; omega) H3.out)
       have HO10 := Lib.hid ((HO9.out.below (Al.out w9 _) (Nat.le_refl _)).chg3 (HD9.out.below (Al.out w9 _)) (HL9.out.below (Al.out w9 _)) hc10)
       have HS10 : Hid (w9.heap.size ≤ w10.heap.size) := Nat.le_trans (by rw [World.size_alloc]; omega) hc10.size
       clear hd10 hl10 hc10 HD9 HL9 HB9 HO9)
    | (go_at_call 10; (with_reducible refine (lg_open HD10.out).mono ?_)
       rintro e w11 ⟨v11, rfl, ho11, hl11, hd11, hb11⟩
       obtain ⟨A11, c11, rfl⟩ := out_shape ho11
       have HZ11 : Hid (OutOk w11 (w10.heap.size + 1) w11.heap.size (.slice A11 1 c11) [[122]]) := ho11
       have HO11 : Hid (OutOk w11 (w8.heap.size + 1) w10.heap.size (.slice A9 2 c9) [[97], z57]) := (HO10.out.more HS10.out).below hb11 (Nat.le_refl _)
       have HD11 := Lib.hid hd11
       have HL11 := Lib.hid (HL10.out.below hb11)
       have HM11 := Lib.hid hl11
       have HB11 : Hid (Below w.heap.size w w11) := HB10.out.trans (hb11.mono HB10.out.size)
       have HS11 : Hid (w10.heap.size ≤ w11.heap.size) := hb11.size
       clear ho11 hl11 hd11 hb11 HD10 HL10 HB10 HO10 HS10)
    | (with_reducible refine wpList_mkw _ ?hw (.const (.int .i64 57)) (.const (.int .i64 57)) 23 rfl (w11.heap.size + 1) 5 i0 (.int .u8 0) Try.underlying23 hi hz0 hz1 rfl .i64 .i64 _ _ 57 57 rfl rfl rfl rfl (Nat.le_refl _) m57 x57 ?hs ?_
       case hw => rfl
       case hs => rw [World.size_alloc]; exact Nat.le_refl _
       intro w12 hown12 hg12 hsz12
       have hr12 := z57_rd hown12 rfl
       rw [World.size_alloc] at hr12
       have hb12 : Below w11.heap.size w11 w12 := ((Below.refl _ w11).alloc (Nat.le_refl _) _).grown hg12 (by rw [World.size_alloc]; omega) (by simp)
       have ha12 := ((rd_a w11).grown hg12 (by rw [World.size_alloc]; exact Nat.le_refl _) (by simp)).more (B' := w12.heap.size) (by have := hg12.size; rw [World.size_alloc] at this; exact this)
       have hbx := (hb12.trans ((Al.out w12 (.cells #[.slice (some ⟨w11.heap.size, 0, none⟩) 1 1, .slice (some ⟨w11.heap.size + 1, 0, none⟩) 57 57] 23)).mono hb12.size))
       have HR12 := Lib.hid (ss_two (c := 1) (c' := 57) ha12 hr12 (Nat.le_refl _))
       have HBX := Lib.hid hbx
       have HO12 := Lib.hid ((HO11.out.below hbx HS11.out).ss (Nat.le_trans HS11.out hbx.size) rfl)
       clear hown12 hg12 hsz12 hr12 hb12 ha12 hbx HO11)
    | (go_at_call 13; (with_reducible refine (same_yes A9 (some ⟨w12.heap.size, 0, none⟩) 2 c9 2 [[97], z57] _ HO12.out HR12.out (by omega)).mono ?_)
       rintro e w13 ⟨rfl, hb13⟩
       have hb := HBX.out.trans (hb13.mono HBX.out.size)
       have hs := hb.size
       have hby := (hb.trans ((Al.out w13 (.cells #[.int .u8 122] 5 (1, 2))).mono hs)).trans ((Al.out (w13.alloc (.cells #[.int .u8 122] 5 (1, 2))) (.cells #[.slice (some ⟨w13.heap.size, 0, none⟩) 1 1] 23)).mono (by rw [World.size_alloc]; omega))
       have HBY := Lib.hid hby
       have hr13 := ss_one (c := 1) (rd_z w13) (by rw [World.size_alloc]; exact Nat.le_refl _)
       rw [World.size_alloc w13] at hr13
       have HR13 := Lib.hid hr13
       have HZ13 := Lib.hid ((HZ11.out.below hby (Nat.le_refl _)).ss hby.size rfl)
       clear hb13 hb hs hby hr13 HO12 HR12 HBX HZ11)
    | (go_at_call 13; (with_reducible refine (same_yes A11 (some ⟨w13.heap.size + 1, 0, none⟩) 1 c11 1 [[122]] _ HZ13.out HR13.out (by omega)).mono ?_)
       rintro e w14 ⟨rfl, hb14⟩
       have hb := HBY.out.trans (hb14.mono HBY.out.size)
       have HD14 := Lib.hid (HD11.out.below hb)
       have HL14 := Lib.hid (HL11.out.below hb)
       have HM14 := Lib.hid (HM11.out.below hb)
       have HB14 : Hid (Below w.heap.size w w14) := HB11.out.trans (hb.mono HB11.out.size)
       clear hb14 hb HD11 HL11 HM11 HB11 HBY HR13 HZ13)
    | (go_at_call 15; (with_reducible refine (lg_turn_is 2 HM14.out rfl).mono ?_)
       rintro e w15 ⟨rfl, rfl⟩)
    | (go_at_call 14; (with_reducible refine (lg_room_is 3 HD14.out HM14.out (by decide)).mono ?_)
       rintro e w16 ⟨rfl, hb16⟩
       have HD16 := Lib.hid (HD14.out.below hb16)
       have HL16 := Lib.hid (HL14.out.below hb16)
       have HB16 : Hid (Below w.heap.size w w16) := HB14.out.trans (hb16.mono HB14.out.size)
       clear hb16 HD14 HL14 HM14 HB14)
    | (go_at_call 12; (with_reducible refine (lg_add_arg HD16.out HL16.out (n := 0) (by omega) (by omega)).mono ?_)
       rintro e w17 ⟨rfl, _, _, hc17⟩
       have HB17 : Hid (Below w.heap.size w w17) := HB16.out.trans (hc17.below HB16.out.size H3.out)
       clear hc17 HB16))
  go_ret
  exact ⟨rfl, HB17.out⟩
end Go.Proofs.Ytefmeifamapdcaa
