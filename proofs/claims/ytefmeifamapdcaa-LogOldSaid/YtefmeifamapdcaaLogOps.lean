/- A slice of calls (watchkeeperlaw11.Op), as it is read, told in my words. -/
import Derived.Test.YtefmeifamapdcaaReads
set_option linter.unusedVariables false
set_option linter.unusedSimpArgs false
set_option maxRecDepth 100000
namespace Go.Proofs.Ytefmeifamapdcaa
open Go Go.RowKit Go.ChangeShapes Go.WideShapes Go.ChangeAt

structure Opr where
  what : Int
  at_ : Int
  n : Int
  A : Option Addr
  len : Nat
  cap : Nat
  b : List Nat

def Opr.ok (w : World) (B : Nat) (r : Opr) : Prop :=
  Rd w B 1 r.A r.len (r.b.map bv) ∧ (∀ c ∈ r.b, c < 256) ∧ r.len ≤ r.cap ∧ r.cap ≤ maxLen ∧ (-9223372036854775808 ≤ r.what ∧ r.what ≤ 9223372036854775807) ∧ (-9223372036854775808 ≤ r.at_ ∧ r.at_ ≤ 9223372036854775807) ∧ (-9223372036854775808 ≤ r.n ∧ r.n ≤ 9223372036854775807)
def Opr.at_cells (w : World) (b o : Nat) (r : Opr) : Prop :=
  w.cell? ⟨b, o, none⟩ = some (.int .i64 r.what) ∧ w.cell? ⟨b, o + 1, none⟩ = some (.int .i64 r.at_) ∧ w.cell? ⟨b, o + 2, none⟩ = some (.int .i64 r.n) ∧ w.cell? ⟨b, o + 3, none⟩ = some (.slice r.A r.len r.cap)
/-- a slice of n calls, below block B -/
def Ops (w : World) (B : Nat) (A : Option Addr) (n : Nat) (l : List Opr) : Prop :=
  l.length = n ∧ (∀ r ∈ l, r.ok w B) ∧ (0 < n → ∃ b o, A = some ⟨b, o, none⟩ ∧ b < B ∧ ∀ (j : Nat) (r : Opr), l[j]? = some r → r.at_cells w b (o + j * 4))

theorem Ops.below {w w' : World} {B n : Nat} {A : Option Addr} {l : List Opr} (h : Ops w B A n l) (hb : Below B w w') : Ops w' B A n l := by
  refine ⟨h.1, fun r hr => ?_, fun hn => ?_⟩
  · obtain ⟨h1, h2⟩ := h.2.1 r hr
    exact ⟨h1.below hb, h2⟩
  · obtain ⟨b, o, hA, hlt, hc⟩ := h.2.2 hn
    refine ⟨b, o, hA, hlt, fun j r hj => ?_⟩
    obtain ⟨c0, c1, c2, c3⟩ := hc j r hj
    have k : ∀ q, w'.cell? ⟨b, q, none⟩ = w.cell? ⟨b, q, none⟩ := fun q => hb.cell (p := ⟨b, q, none⟩) hlt
    exact ⟨(k _).trans c0, (k _).trans c1, (k _).trans c2, (k _).trans c3⟩

theorem cells_31 : Try.prog.cellsOf 34 = 4 := by kernel_rfl
theorem cells_3 : Try.prog.cellsOf 3 = 1 := by kernel_rfl
theorem cells_29 : Try.prog.cellsOf 23 = 1 := by kernel_rfl
theorem fields_31 : ∃ fs : Array Field, Try.prog.underlying 34 = some (.struct fs) ∧ ∃ f0 f1 f2 f3 : Field, fs = #[f0, f1, f2, f3] ∧ (f0.type = 3 ∧ f0.offset = 0) ∧ (f1.type = 3 ∧ f1.offset = 1) ∧ (f2.type = 3 ∧ f2.offset = 2) ∧ (f3.type = 23 ∧ f3.offset = 3) :=
  ⟨_, Try.underlying34, _, _, _, _, rfl, ⟨rfl, rfl⟩, ⟨rfl, rfl⟩, ⟨rfl, rfl⟩, ⟨rfl, rfl⟩⟩

theorem opr_of_trod {H : Type} {enc : TypeId × Value → H} {W : World} {fuel : Nat} {cs : List Value} {x : DataW H × List MemPlace}
    (hf : DataW.trod enc Try.prog W 0 (fun _ => true) true fuel 34 cs = some x) :
    ∃ r : Opr, cs = [.int .i64 r.what, .int .i64 r.at_, .int .i64 r.n, .slice r.A r.len r.cap] ∧ r.ok W W.heap.size := by
  obtain ⟨fs, hu, f0, f1, f2, f3, rfl, ⟨t0, o0⟩, ⟨t1, o1⟩, ⟨t2, o2⟩, ⟨t3, o3⟩⟩ := fields_31
  obtain ⟨xs, n, rfl, rfl, hcl, hxl, hfl⟩ := DataW.trod_struct hu hf
  rw [cells_31] at hcl
  simp at hxl
  have g0 := hfl 0 f0 rfl
  have g1 := hfl 1 f1 rfl
  have g2 := hfl 2 f2 rfl
  have g3 := hfl 3 f3 rfl
  rw [t0, o0, cells_3, List.getElem?_eq_getElem (by omega)] at g0
  rw [t1, o1, cells_3, List.getElem?_eq_getElem (by omega)] at g1
  rw [t2, o2, cells_3, List.getElem?_eq_getElem (by omega)] at g2
  rw [t3, o3, cells_29, List.getElem?_eq_getElem (by omega)] at g3
  obtain ⟨a, b, c, d, rfl⟩ : ∃ a b c d : Value, cs = [a, b, c, d] := by
    match cs, hcl with
    | [a, b, c, d], _ => exact ⟨a, b, c, d, rfl⟩
  simp at g0 g1 g2 g3
  obtain ⟨z0, e0, _, w0⟩ := DataW.trod_int Try.underlying3 g0
  obtain ⟨z1, e1, _, w1⟩ := DataW.trod_int Try.underlying3 g1
  obtain ⟨z2, e2, _, w2⟩ := DataW.trod_int Try.underlying3 g2
  simp at e0 e1 e2
  subst e0 e1 e2
  obtain ⟨A, len, cap, rfl⟩ : ∃ A len cap, d = .slice A len cap := by
    rcases DataW.trod_slice Try.underlying23 g3 with ⟨h, _⟩ | ⟨a, len, cap, _, _, _, _, h, _⟩
    · simp at h; exact ⟨_, _, _, h⟩
    · simp at h; exact ⟨_, _, _, h⟩
  obtain ⟨l, r1, r2, r3, r4⟩ := bytes_of_trod Try.underlying23 Try.underlying5 (by kernel_rfl) g3
  exact ⟨⟨z0, z1, z2, A, len, cap, l⟩, rfl, r1, r2, r3, r4, bounds_i64 w0, bounds_i64 w1, bounds_i64 w2⟩

theorem list_choose {α : Type} (n : Nat) (P : Nat → α → Prop) (h : ∀ i, i < n → ∃ r, P i r) : ∃ l : List α, l.length = n ∧ ∀ i r, l[i]? = some r → P i r := by
  induction n with
  | zero => exact ⟨[], rfl, fun i r hi => by simp at hi⟩
  | succ n ih =>
    obtain ⟨l, hl, hP⟩ := ih (fun i hi => h i (by omega))
    obtain ⟨r, hr⟩ := h n (by omega)
    refine ⟨l ++ [r], by simp [hl], fun i x hi => ?_⟩
    rcases Nat.lt_or_ge i n with hin | hin
    · rw [List.getElem?_append_left (by omega)] at hi
      exact hP i x hi
    · rw [List.getElem?_append_right (by omega)] at hi
      have hlt := (List.getElem?_eq_some_iff.1 hi).1
      simp at hlt
      have e : i = n := by omega
      subst e
      rw [hl, Nat.sub_self] at hi
      simp at hi
      rw [← hi]; exact hr
theorem ops_of_trod {H : Type} {enc : TypeId × Value → H} {W : World} {A : Option Addr} {len cap : Nat} {d : DataW H} {ps : List MemPlace}
    (h : DataW.Trod enc Try.prog W 0 (fun _ => true) true 22 (.slice A len cap) d ps) : ∃ l : List Opr, Ops W W.heap.size A len l ∧ len ≤ maxLen := by
  obtain ⟨fuel, hf⟩ := h
  rcases DataW.trod_slice Try.underlying22 hf with ⟨h, _⟩ | ⟨a, len', cap', elems, rest, n, _, h, _, _, hlc, hcm, hel, hat, _⟩
  · simp [Value.cells] at h
    obtain ⟨rfl, rfl, rfl⟩ := h
    exact ⟨[], ⟨rfl, by simp, fun h => absurd h (by omega)⟩, by simp [maxLen]⟩
  · simp [Value.cells] at h
    obtain ⟨rfl, rfl, rfl⟩ := h
    have each : ∀ i, i < len → ∃ r : Opr, (∀ j u, [Value.int .i64 r.what, .int .i64 r.at_, .int .i64 r.n, .slice r.A r.len r.cap][j]? = some u → W.cell? ((a.add (i * 4)).add j) = some u) ∧ r.ok W W.heap.size := by
      intro i hi
      have h1 := hat i hi
      rw [List.getElem?_eq_getElem (by omega), cells_31, Option.bind_eq_some_iff] at h1
      obtain ⟨cs, hcs, hf1⟩ := h1
      obtain ⟨r, rfl, hr⟩ := opr_of_trod hf1
      refine ⟨r, fun j u hj => ?_, hr⟩
      have hs := (World.cells?_some hcs).2.2 j (by have := (List.getElem?_eq_some_iff.1 hj).1; simpa using this)
      rw [hs]; exact hj
    obtain ⟨l, hl, hP⟩ := list_choose len _ each
    refine ⟨l, ⟨hl, fun r hr => ?_, fun hn => ?_⟩, by omega⟩
    · obtain ⟨i, hi⟩ := List.mem_iff_getElem?.1 hr
      exact (hP i r hi).2
    · obtain ⟨r0, h0⟩ : ∃ r0, l[0]? = some r0 := ⟨_, List.getElem?_eq_getElem (by omega)⟩
      have hc0 := (hP 0 r0 h0).1 0 _ rfl
      have hsp : a.spot = none := by
        have := World.cell?_spot hc0
        simpa [Addr.add] using this
      obtain ⟨b, off, spot⟩ := a
      subst hsp
      refine ⟨b, off, rfl, ?_, fun j r hj => ?_⟩
      · have := World.block_lt_of_cell? W _ hc0
        rwa [addr_add, addr_add] at this
      · have hh := (hP j r hj).1
        simp only [addr_add] at hh
        exact ⟨hh 0 _ rfl, hh 1 _ rfl, hh 2 _ rfl, hh 3 _ rfl⟩
end Go.Proofs.Ytefmeifamapdcaa
