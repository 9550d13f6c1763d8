/- Arguments of the statements on panels, as they are read: numbers, and calls (watchkeeperlaw19.Op). -/
import Derived.Test.YtphghclkfbhagaaOpen
import Derived.Test.YtphghclkfbhagaaPanelC
set_option linter.unusedVariables false
set_option linter.unusedSimpArgs false
set_option maxRecDepth 100000
namespace Go.Proofs.Ytphghclkfbhagaa
open Go Go.RowKit Go.ChangeShapes Go.WideShapes Go.ChangeAt

theorem ints_of_trod {H : Type} {enc : TypeId × Value → H} {W : World} {A : Option Addr} {len cap fuel : Nat} {x : DataW H × List MemPlace}
    (h : DataW.trod enc Try.prog W 0 (fun _ => true) true fuel 22 (Value.cells (.slice A len cap)).toList = some x) : ∃ l : List Int, Rd W W.heap.size 1 A len (l.map iv) ∧ len ≤ cap ∧ cap ≤ maxLen := by
  obtain ⟨l, h1, _, h2, h3⟩ := rows_of_trod (fun z => [iv z]) (fun _ => True) Try.underlying22 (k := 1) (by kernel_rfl) (by omega) (fun _ => rfl) (fun fuel cs x hx => by
    obtain ⟨z, e, _⟩ := int_of_trod Try.underlying3 hx
    exact ⟨z, e, trivial⟩) h
  exact ⟨l, h1.rd, h2, h3⟩
theorem ints_rows {H : Type} {enc : TypeId × Value → H} {W : World} {A : Option Addr} {len cap : Nat} {d : DataW H} {ps : List MemPlace}
    (h : DataW.Trod enc Try.prog W 0 (fun _ => true) true 22 (.slice A len cap) d ps) : ∃ l : List Int, Rd W W.heap.size 1 A len (l.map iv) ∧ len ≤ cap ∧ cap ≤ maxLen := by
  obtain ⟨fuel, hf⟩ := h
  exact ints_of_trod hf
theorem bools_of_trod {H : Type} {enc : TypeId × Value → H} {W : World} {A : Option Addr} {len cap fuel : Nat} {x : DataW H × List MemPlace}
    (h : DataW.trod enc Try.prog W 0 (fun _ => true) true fuel 28 (Value.cells (.slice A len cap)).toList = some x) : ∃ l : List Bool, Rd W W.heap.size 1 A len (l.map bo) ∧ len ≤ cap ∧ cap ≤ maxLen := by
  obtain ⟨l, h1, _, h2, h3⟩ := rows_of_trod (fun z => [bo z]) (fun _ => True) Try.underlying28 (k := 1) (by kernel_rfl) (by omega) (fun _ => rfl) (fun fuel cs x hx => by
    obtain ⟨z, e, _⟩ := DataW.trod_bool Try.underlying4 hx
    exact ⟨z, e, trivial⟩) h
  exact ⟨l, h1.rd, h2, h3⟩
theorem bools_rows {H : Type} {enc : TypeId × Value → H} {W : World} {A : Option Addr} {len cap : Nat} {d : DataW H} {ps : List MemPlace}
    (h : DataW.Trod enc Try.prog W 0 (fun _ => true) true 28 (.slice A len cap) d ps) : ∃ l : List Bool, Rd W W.heap.size 1 A len (l.map bo) ∧ len ≤ cap ∧ cap ≤ maxLen := by
  obtain ⟨fuel, hf⟩ := h
  exact bools_of_trod hf

structure Opr where
  what : Int
  A1 : Option Addr
  n1 : Nat
  c1 : Nat
  bad : List Bool
  A2 : Option Addr
  n2 : Nat
  c2 : Nat
  first : List Bool
  on : Bool
  A3 : Option Addr
  n3 : Nat
  c3 : Nat
  l : List Int
def Opr.cells (r : Opr) : List Value := [.int .i64 r.what, .slice r.A1 r.n1 r.c1, .slice r.A2 r.n2 r.c2, .bool r.on, .slice r.A3 r.n3 r.c3]
structure Opr.ok (w : World) (B : Nat) (r : Opr) : Prop where
  w1 : -9223372036854775808 ≤ r.what
  w2 : r.what ≤ 9223372036854775807
  r1 : Rd w B 1 r.A1 r.n1 (r.bad.map bo)
  k1 : r.n1 ≤ r.c1 ∧ r.c1 ≤ maxLen
  r2 : Rd w B 1 r.A2 r.n2 (r.first.map bo)
  k2 : r.n2 ≤ r.c2 ∧ r.c2 ≤ maxLen
  r3 : Rd w B 1 r.A3 r.n3 (r.l.map iv)
  k3 : r.n3 ≤ r.c3 ∧ r.c3 ≤ maxLen
theorem Opr.ok.below {w w' : World} {B : Nat} {r : Opr} (h : r.ok w B) (hb : Below B w w') : r.ok w' B :=
  ⟨h.w1, h.w2, h.r1.below hb, h.k1, h.r2.below hb, h.k2, h.r3.below hb, h.k3⟩
def Ops (w : World) (B : Nat) (A : Option Addr) (n : Nat) (l : List Opr) : Prop := RdS Opr.cells w B 5 A n l ∧ ∀ r ∈ l, r.ok w B
theorem Ops.below {w w' : World} {B n : Nat} {A : Option Addr} {l : List Opr} (h : Ops w B A n l) (hb : Below B w w') : Ops w' B A n l :=
  ⟨h.1.below hb, fun r hr => (h.2 r hr).below hb⟩
theorem cells_op : Try.prog.cellsOf 30 = 5 := by kernel_rfl
theorem cells_int : Try.prog.cellsOf 3 = 1 := by kernel_rfl
theorem cells_bool : Try.prog.cellsOf 4 = 1 := by kernel_rfl
theorem cells_bs : Try.prog.cellsOf 28 = 1 := by kernel_rfl
theorem cells_is : Try.prog.cellsOf 22 = 1 := by kernel_rfl
theorem fields_op : ∃ fs : Array Field, Try.prog.underlying 30 = some (.struct fs) ∧ ∃ f0 f1 f2 f3 f4 : Field, fs = #[f0, f1, f2, f3, f4] ∧ (f0.type = 3 ∧ f0.offset = 0) ∧ (f1.type = 28 ∧ f1.offset = 1) ∧
    (f2.type = 28 ∧ f2.offset = 2) ∧ (f3.type = 4 ∧ f3.offset = 3) ∧ (f4.type = 22 ∧ f4.offset = 4) :=
  ⟨_, Try.underlying30, _, _, _, _, _, rfl, ⟨rfl, rfl⟩, ⟨rfl, rfl⟩, ⟨rfl, rfl⟩, ⟨rfl, rfl⟩, ⟨rfl, rfl⟩⟩
theorem opr_of_trod {H : Type} {enc : TypeId × Value → H} {W : World} {fuel : Nat} {cs : List Value} {x : DataW H × List MemPlace}
    (hf : DataW.trod enc Try.prog W 0 (fun _ => true) true fuel 30 cs = some x) : ∃ r : Opr, cs = r.cells ∧ r.ok W W.heap.size := by
  obtain ⟨fs, hu, f0, f1, f2, f3, f4, rfl, ⟨t0, o0⟩, ⟨t1, o1⟩, ⟨t2, o2⟩, ⟨t3, o3⟩, ⟨t4, o4⟩⟩ := fields_op
  obtain ⟨xs, n, rfl, rfl, hcl, hxl, hfl⟩ := DataW.trod_struct hu hf
  rw [cells_op] at hcl
  simp at hxl
  have g0 := hfl 0 f0 rfl
  have g1 := hfl 1 f1 rfl
  have g2 := hfl 2 f2 rfl
  have g3 := hfl 3 f3 rfl
  have g4 := hfl 4 f4 rfl
  rw [t0, o0, cells_int, List.getElem?_eq_getElem (by omega)] at g0
  rw [t1, o1, cells_bs, List.getElem?_eq_getElem (by omega)] at g1
  rw [t2, o2, cells_bs, List.getElem?_eq_getElem (by omega)] at g2
  rw [t3, o3, cells_bool, List.getElem?_eq_getElem (by omega)] at g3
  rw [t4, o4, cells_is, List.getElem?_eq_getElem (by omega)] at g4
  obtain ⟨a, b, c, d, e, rfl⟩ : ∃ a b c d e : Value, cs = [a, b, c, d, e] := by
    match cs, hcl with
    | [a, b, c, d, e], _ => exact ⟨a, b, c, d, e, rfl⟩
  simp at g0 g1 g2 g3 g4
  obtain ⟨z, e0, z1, z2⟩ := int_of_trod Try.underlying3 g0
  obtain ⟨A1, n1, c1, rfl⟩ := slice_of_trod Try.underlying28 g1
  obtain ⟨A2, n2, c2, rfl⟩ := slice_of_trod Try.underlying28 g2
  obtain ⟨o, e3, _⟩ := DataW.trod_bool Try.underlying4 g3
  obtain ⟨A3, n3, c3, rfl⟩ := slice_of_trod Try.underlying22 g4
  simp [ivw] at e0 e3
  subst e0 e3
  obtain ⟨l1, r1, k1⟩ := bools_of_trod g1
  obtain ⟨l2, r2, k2⟩ := bools_of_trod g2
  obtain ⟨l3, r3, k3⟩ := ints_of_trod g4
  exact ⟨⟨z, A1, n1, c1, l1, A2, n2, c2, l2, o, A3, n3, c3, l3⟩, rfl, z1, z2, r1, k1, r2, k2, r3, k3⟩
theorem ops_rows {H : Type} {enc : TypeId × Value → H} {W : World} {A : Option Addr} {len cap : Nat} {d : DataW H} {ps : List MemPlace}
    (h : DataW.Trod enc Try.prog W 0 (fun _ => true) true 23 (.slice A len cap) d ps) : ∃ l : List Opr, Ops W W.heap.size A len l ∧ len ≤ cap ∧ cap ≤ maxLen := by
  obtain ⟨fuel, hf⟩ := h
  obtain ⟨l, h1, h2, h3⟩ := rows_of_trod Opr.cells (fun r => r.ok W W.heap.size) Try.underlying23 cells_op (by omega) (fun _ => rfl) (fun fuel cs x hx => opr_of_trod hx) hf
  exact ⟨l, ⟨h1, h2⟩, h3⟩
end Go.Proofs.Ytphghclkfbhagaa
