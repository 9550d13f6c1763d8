/- The live question ahead of each statement on disks is answered as it says. -/
import Derived.Test.YtonbfolgdfkgnaaSecD
set_option linter.unusedVariables false
set_option linter.unusedSimpArgs false
set_option maxRecDepth 100000
namespace Go.Proofs.Ytonbfolgdfkgnaa
open Go Go.RowKit

theorem rd_abc (w : World) (e : TypeId) (fr : Nat × Nat) : Rd (w.alloc (.cells #[.int .u8 97, .int .u8 98, .int .u8 99] e fr)) (w.alloc (.cells #[.int .u8 97, .int .u8 98, .int .u8 99] e fr)).heap.size 1 (some ⟨w.heap.size, 0, none⟩) 3 (([97, 98, 99] : List Nat).map bv) := by
  rw [World.size_alloc]
  exact rd_new w (([97, 98, 99] : List Nat).map bv) e 3 3 rfl fr
theorem rd_xyz (w : World) (e : TypeId) (fr : Nat × Nat) : Rd (w.alloc (.cells #[.int .u8 120, .int .u8 121, .int .u8 122] e fr)) (w.alloc (.cells #[.int .u8 120, .int .u8 121, .int .u8 122] e fr)).heap.size 1 (some ⟨w.heap.size, 0, none⟩) 3 (([120, 121, 122] : List Nat).map bv) := by
  rw [World.size_alloc]
  exact rd_new w (([120, 121, 122] : List Nat).map bv) e 3 3 rfl fr
def sA : List Nat := pad [97, 98, 99]
def sB : List Nat := pad [120, 121, 99]
def dA : DD := ⟨[sA, List.replicate 64 0], false, none, 1⟩
def dB : DD := ⟨[sA, List.replicate 64 0], false, some (0, 2), 1⟩
def dC : DD := ⟨[sB, List.replicate 64 0], true, none, 1⟩
def dD : DD := ⟨[sB, List.replicate 64 0], false, none, 1⟩
theorem kA : (DD.fresh 2).write 0 [97, 98, 99] = (0, dA) := rfl
theorem kB : dA.setCut 0 2 = dB := rfl
theorem kC : dB.write 0 [120, 121, 122] = (101, dC) := rfl
theorem kR : dC.read 0 = (101, []) := rfl
theorem kD : dC.boot = dD := rfl
theorem kS : dD.read 0 = (0, sB) := rfl
theorem kT : dD.read 2 = (1, []) := rfl
theorem kU : dD.write 0 (List.replicate 65 0) = (1, dD) := rfl
theorem lenB : sB.length = 64 := rfl
theorem takeB : sB.take 4 = [120, 121, 99, 0] := rfl

theorem wpList_mkw {P : Program} (w : World) {ops : Array Oper} {rest : List Oper} {o : Oper} {a : Act} {Q : Exit → Act → World → Prop}
    (hg : Region.wanted o (yielded ops a.tmps) = true) (l c : Operand) (t : TypeId) (hop : o.op = Op.makeSlice t l c)
    (base : Nat) (e : TypeId) (i : TypeInfo) (z : Value) (h1 : P.underlying t = some (.slice e)) (h2 : P.info? e = some i) (h3 : i.zero = some z) (h4 : i.size = 1) (hz1 : z.cells = #[z])
    (kl kc : IntKind) (L C : Int) (n m : Nat) (hl : a.eval l = .int kl L) (hc : a.eval c = .int kc C) (hL : L = (n : Int)) (hC : C = (m : Int)) (hnm : n ≤ m)
    (b2 : i.bytes * m ≤ 281474976710656) (b3 : m ≤ maxLen) (b4 : base ≤ w.heap.size)
    (hK : ∀ w', w'.ownsRow base e 1 (.slice (some ⟨w.heap.size, 0, none⟩) n m) n (List.replicate n z) → w.grownBy w' none → wpList P ops Q rest (a.put o.dst (.slice (some ⟨w.heap.size, 0, none⟩) n m)) w') :
    wpList P ops Q (o :: rest) a w :=
  wpList_step fun K hK' => by
    rw [if_pos hg]
    exact wp_mk w l c t hop base e i z h1 h2 h3 h4 hz1 kl kc L C n m hl hc hL hC hnm b2 b3 b4 fun w' q1 q2 _ => hK' _ _ (hK w' q1 q2)

set_option maxHeartbeats 2000000 in
theorem head_any (w : World) :
    Calls Try.prog 8 #[] w fun e w' => e = .returned (.bool true) ∧ Below w.heap.size w w' := by
  obtain ⟨U, hUd⟩ : ∃ U : Nat → Prop, U = fun k => k < w.heap.size := ⟨_, rfl⟩
  have hU : ∀ k, U k → k < w.heap.size := fun k hk => by rw [hUd] at hk; exact hk
  have hU' : ∀ k, k < w.heap.size → U k := fun k hk => by rw [hUd]; exact hk
  have HU := Lib.hid hU
  have HU' := Lib.hid hU'
  clear hUd hU hU'
  have kc := fun (w : World) (C : Array Value) (n c : Nat) => Lib.run_convert_bytes_const (P := Try.prog) w 29 5 C n c Try.underlying29 Try.underlying5
  obtain ⟨i0, hi, hz0, hz1, hz2⟩ := info_parts info_u8
  have hbs : (bstr [120, 121, 99, 0]).toList = [120, 121, 99, 0] := by rw [bstr_toList]; decide
  have kdn : dC.down = true := rfl
  have kln : (dD.L.length : Int) = 2 := rfl
  have kwr : (dD.writes : Int) = 1 := rfl
  go_enter Try.func8, Try.ntmps8
  go_wp2_with (first
    | (go_at_call 9; (with_reducible refine (new_any U w 2 HU.out).mono ?_)
       rintro e w1 ⟨rfl, hH1, hb1⟩
       have hK1 : Kept U w w1 := Kept.of hb1 HU.out)
    | (go_at_call 18; (with_reducible refine (write_any U _ _ _ _ 0 _ 3 3 [97, 98, 99] (hH1.below ((Below.refl _ _).alloc (Nat.le_refl _) _)) (rd_abc w1 _ _) (by decide) (by decide)).mono ?_)
       rintro e w2 ⟨he, hH2, hK2⟩
       rw [kA] at he hH2
       subst he
       have hK12 := (hK1.trans ((Kept.refl U w1).trans (Kept.of (B := w1.heap.size) ((Below.refl _ _).alloc (Nat.le_refl _) _) (HD.old hH1)))).trans hK2
       clear hK1 hK2 hH1)
    | (go_at_call 14; (with_reducible refine (cut_any U _ _ _ _ 0 2 (by decide) hH2).mono ?_)
       rintro e w3 ⟨rfl, hH3, hK3⟩
       rw [kB] at hH3
       have hK13 := hK12.trans hK3
       clear hH2 hK12 hK3)
    | (go_at_call 18; (with_reducible refine (write_any U _ _ _ _ 0 _ 3 3 [120, 121, 122] (hH3.below ((Below.refl _ _).alloc (Nat.le_refl _) _)) (rd_xyz w3 _ _) (by decide) (by decide)).mono ?_)
       rintro e w4 ⟨he, hH4, hK4⟩
       rw [kC] at he hH4
       subst he
       have hK14 := (hK13.trans ((Kept.refl U w3).trans (Kept.of (B := w3.heap.size) ((Below.refl _ _).alloc (Nat.le_refl _) _) (HD.old hH3)))).trans hK4
       clear hK13 hK4 hH3)
    | (go_at_call 12; (with_reducible refine (read_any U _ _ _ _ 0 hH4).mono ?_)
       rintro e w5 ⟨A5, n5, c5, he, hown5, hb5⟩
       rw [kR] at he hown5
       subst he
       have hH5 := hH4.below hb5
       have hK15 := hK14.trans (Kept.of hb5 (HD.old hH4))
       clear hH4 hK14 hown5 hb5)
    | (go_at_call 20; (with_reducible refine (down_any U _ _ _ _ hH5).mono ?_)
       rintro e w6 ⟨rfl, rfl⟩)
    | (go_at_call 16; (with_reducible refine (boot_any U _ _ _ _ hH5).mono ?_)
       rintro e w7 ⟨rfl, hH7, hK7⟩
       rw [kD] at hH7
       have hK17 := hK15.trans hK7
       clear hH5 hK15 hK7)
    | (go_at_call 12; (with_reducible refine (read_any U _ _ _ _ 0 hH7).mono ?_)
       rintro e w8 ⟨A8, n8, c8, he, hown8, hb8⟩
       rw [kS] at he hown8
       have hn8 := own_len hown8
       rw [List.length_map, lenB] at hn8
       subst hn8
       subst he
       have hH8 := hH7.below hb8
       have hK18 := hK17.trans (Kept.of hb8 (HD.old hH7))
       have hcap8 := own_cap hown8
       have hr8 := (Rd.of_own hown8).take_ (k := 4) (by omega)
       rw [Nat.mul_one, ← List.map_take, takeB] at hr8
       clear hH7 hK17 hown8 hb8)
    | (go_at_call 12; (with_reducible refine (read_any U _ _ _ _ 2 hH8).mono ?_)
       rintro e w9 ⟨A9, n9, c9, he, hown9, hb9⟩
       rw [kT] at he
       subst he
       have hH9 := hH8.below hb9
       have hK19 := hK18.trans (Kept.of hb9 (HD.old hH8))
       have hr9 := hr8.below hb9
       have hst := run_str (P := Try.prog) hr9 (c := c8) 29 9 5 Try.underlying29 Try.underlying5 Try.underlying9
       clear hH8 hK18 hown9 hb9 hr8)
    | (go_at_call 24; (with_reducible refine (many_any U _ _ _ _ hH9).mono ?_)
       rintro e w6 ⟨rfl, rfl⟩)
    | (go_at_call 22; (with_reducible refine (writes_any U _ _ _ _ hH9).mono ?_)
       rintro e w6 ⟨rfl, rfl⟩)
    | (with_reducible refine wpList_mkw _ ?hw (.const (.int .i64 65)) (.const (.int .i64 65)) 29 rfl w6.heap.size 5 i0 (.int .u8 0) Try.underlying29 hi hz0 hz1 rfl .i64 .i64 _ _ 65 65 rfl rfl rfl rfl (Nat.le_refl _) ?e3 ?e4 (Nat.le_refl _) ?_))
  case e3 => rw [hz2]; omega
  case e4 => unfold maxLen; omega
  intro wa hown hg
  obtain ⟨Z, hZe, hown⟩ : ∃ Z : List Nat, Z = List.replicate 65 0 ∧ wa.ownsRow w6.heap.size 5 1 (.slice (some ⟨w6.heap.size, 0, none⟩) 65 65) 65 (Z.map bv) := ⟨_, rfl, hown⟩
  have hb' : Below w6.heap.size w6 wa := (Below.refl _ _).grown hg (Nat.le_refl _) (by simp)
  have hHa := hH9.below hb'
  have hKa := hK19.trans (Kept.of hb' (HD.old hH9))
  have hra := Rd.of_own hown
  have hZb : ∀ x ∈ Z, x < 256 := by rw [hZe]; intro x hx; have := (List.mem_replicate.1 hx).2; omega
  have kUZ : dD.write 0 Z = (1, dD) := by rw [hZe]; exact kU
  clear hZe hown hg hb' hH9 hK19
  go_wp2_with (first
    | (go_at_call 18; (with_reducible refine (write_any U _ _ _ _ 0 _ 65 65 Z hHa hra hZb (by decide)).mono ?_)
       rintro e wb ⟨he, hHb, hKb⟩
       rw [kUZ] at he hHb
       subst he
       have hKz := hKa.trans hKb))
  go_ret
  exact ⟨rfl, hKz.below HU'.out⟩
end Go.Proofs.Ytonbfolgdfkgnaa
