/- Package sector: a disk as words on memory; its methods, walked once each. -/
import Derived.Test.YtcdgaeenfhpnkaaPk01
set_option linter.unusedVariables false
set_option linter.unusedSimpArgs false
set_option maxRecDepth 100000
namespace Go.Proofs.Ytcdgaeenfhpnkaa
open Go Go.RowKit

/-- of the blocks that U names none has turned -/
structure Kept (U : Nat → Prop) (w w' : World) : Prop where
  os : w'.os = w.os
  tape : w'.tape = w.tape
  output : w'.output = w.output
  size : w.heap.size ≤ w'.heap.size
  block : ∀ k, U k → w'.heap[k]? = w.heap[k]?
section
variable {U U' : Nat → Prop} {a b c w w' : World} {B : Nat}
theorem Kept.refl (U : Nat → Prop) (w : World) : Kept U w w := ⟨rfl, rfl, rfl, Nat.le_refl _, fun _ _ => rfl⟩
theorem Kept.trans (h : Kept U a b) (k : Kept U b c) : Kept U a c :=
  ⟨k.os.trans h.os, k.tape.trans h.tape, k.output.trans h.output, Nat.le_trans h.size k.size, fun i hi => (k.block i hi).trans (h.block i hi)⟩
theorem Kept.mono (h : Kept U w w') (hu : ∀ k, U' k → U k) : Kept U' w w' := ⟨h.os, h.tape, h.output, h.size, fun k hk => h.block k (hu k hk)⟩
theorem Kept.below (h : Kept U w w') (hu : ∀ k, k < B → U k) : Below B w w' := ⟨h.os, h.tape, h.output, h.size, fun k hk => h.block k (hu k hk)⟩
theorem Kept.of (h : Below B w w') (hu : ∀ k, U k → k < B) : Kept U w w' := ⟨h.os, h.tape, h.output, h.size, fun k hk => h.block k (hu k hk)⟩
theorem Kept.setCell (h : Kept U a w) {p : Addr} (hp : ¬ U p.block) (u : Value) : Kept U a (w.setCell p u) :=
  h.trans ⟨rfl, rfl, rfl, by simp [World.setCell], fun k hk => Below.heap_setCell _ _ _ _ (fun e => hp (e ▸ hk))⟩
end

theorem heap_set_same {w : World} {b j : Nat} {cs : Array Value} {t : TypeId} {fr : Nat × Nat} (v : Value) (h : w.heap[b]? = some (.cells cs t fr)) : (w.setCell ⟨b, j, none⟩ v).heap[b]? = some (.cells (cs.setIfInBounds j v) t fr) := by
  simp [World.setCell, Array.getElem?_modify, h]
theorem heap_set_other {w : World} {b b' j : Nat} {o : Option Obj} (v : Value) (h : w.heap[b]? = o) (hne : b ≠ b') : (w.setCell ⟨b', j, none⟩ v).heap[b]? = o := by
  rw [Below.heap_setCell _ _ _ _ hne]; exact h
theorem heap_alloc_keep {w : World} {b : Nat} {x : Obj} (o : Obj) (h : w.heap[b]? = some x) : (w.alloc o).heap[b]? = some x := by
  rw [Below.heap_alloc _ _ _ (Array.getElem?_eq_some_iff.1 h).1]; exact h

/-- a disk, in words -/
structure DD where
  L : List (List Nat)
  down : Bool
  cut : Option (Nat × Nat)
  writes : Nat

def flat (L : List (List Nat)) : List Value := L.flatten.map bv
def cutP (c : Nat) : Option (Nat × Nat) → Value
  | none => .pointer none
  | some _ => .pointer (some ⟨c, 0, none⟩)
def DD.ok (d : DD) : Prop := (∀ s ∈ d.L, s.length = 64 ∧ ∀ x ∈ s, x < 256) ∧ d.L.length ≤ 256 ∧ 1 ≤ d.L.length ∧ d.writes ≤ 1000000 ∧ ∀ a b, d.cut = some (a, b) → b ≤ 64 ∧ a ≤ 9223372036854775807
/-- it lies in memory, in blocks that U does not name -/
structure HDc (w : World) (U : Nat → Prop) (p q c : Nat) (d : DD) : Prop where
  ok : d.ok
  old : ∀ k, U k → k < w.heap.size
  pq : p ≠ q
  up : ¬ U p
  uq : ¬ U q
  hp : w.heap[p]? = some (.cells #[.slice (some ⟨q, 0, none⟩) d.L.length d.L.length, .bool d.down, cutP c d.cut, .int .i64 d.writes] 82)
  hq : w.heap[q]? = some (.cells (flat d.L).toArray 150)
  hc : ∀ a b, d.cut = some (a, b) → c ≠ p ∧ c ≠ q ∧ ¬ U c ∧ w.heap[c]? = some (.cells #[.int .i64 a, .int .i64 b] 101)
def HD (w : World) (U : Nat → Prop) (p q : Nat) (d : DD) : Prop := ∃ c, HDc w U p q c d

theorem HDc.below {w w' : World} {U : Nat → Prop} {p q c : Nat} {d : DD} (h : HDc w U p q c d) (hb : Below w.heap.size w w') : HDc w' U p q c d := by
  have keep : ∀ {k : Nat} {o : Obj}, w.heap[k]? = some o → w'.heap[k]? = some o := fun {k o} hk => by
    rw [hb.block k (Array.getElem?_eq_some_iff.1 hk).1]; exact hk
  exact ⟨h.ok, fun k hk => Nat.lt_of_lt_of_le (h.old k hk) hb.size, h.pq, h.up, h.uq, keep h.hp, keep h.hq, fun a b e => ⟨(h.hc a b e).1, (h.hc a b e).2.1, (h.hc a b e).2.2.1, keep (h.hc a b e).2.2.2⟩⟩
theorem HD.below {w w' : World} {U : Nat → Prop} {p q : Nat} {d : DD} (h : HD w U p q d) (hb : Below w.heap.size w w') : HD w' U p q d := by
  obtain ⟨c, h⟩ := h
  exact ⟨c, h.below hb⟩

theorem HD.old {w : World} {U : Nat → Prop} {p q : Nat} {d : DD} (h : HD w U p q d) : ∀ k, U k → k < w.heap.size := by
  obtain ⟨c, h⟩ := h
  exact h.old
/-- Down -/
theorem down_any (U : Nat → Prop) (p q : Nat) (d : DD) (w : World) (h : HD w U p q d) :
    Calls Try.prog 24 #[.pointer (some ⟨p, 0, none⟩)] w fun e w' => e = .returned (.bool d.down) ∧ w' = w := by
  obtain ⟨c, h⟩ := h
  have c1 := cell_of_row w p 1 _ _ _ h.hp
  simp at c1
  go_enter Try.func24, Try.ntmps24
  go_wp2_with fail
  go_ret
  exact ⟨rfl, rfl⟩
/-- Many -/
theorem many_any (U : Nat → Prop) (p q : Nat) (d : DD) (w : World) (h : HD w U p q d) :
    Calls Try.prog 82 #[.pointer (some ⟨p, 0, none⟩)] w fun e w' => e = .returned (.int .i64 d.L.length) ∧ w' = w := by
  obtain ⟨c, h⟩ := h
  have c1 := cell_of_row w p 0 _ _ _ h.hp
  simp at c1
  go_enter Try.func82, Try.ntmps82
  go_wp2_with fail
  go_ret
  exact ⟨rfl, rfl⟩
/-- has -/
theorem has_any (U : Nat → Prop) (p q : Nat) (d : DD) (w : World) (i : Int) (h : HD w U p q d) :
    Calls Try.prog 96 #[.pointer (some ⟨p, 0, none⟩), .int .i64 i] w fun e w' => e = .returned (.bool (decide (0 ≤ i ∧ i < d.L.length))) ∧ w' = w := by
  obtain ⟨c, h⟩ := h
  have c1 := cell_of_row w p 0 _ _ _ h.hp
  simp at c1
  by_cases h0 : 0 ≤ i
  · by_cases h1 : i < (d.L.length : Int)
    · go_enter Try.func96, Try.ntmps96
      go_wp2_with fail
      go_ret
      exact ⟨by simp [h0, h1], rfl⟩
    · go_enter Try.func96, Try.ntmps96
      go_wp2_with fail
      go_ret
      exact ⟨by simp [h0, h1], rfl⟩
  · go_enter Try.func96, Try.ntmps96
    go_wp2_with fail
    go_ret
    exact ⟨by have e : decide (0 ≤ i) = false := decide_eq_false (by omega)
              simp [e], rfl⟩

def DD.boot (d : DD) : DD := { d with down := false, cut := none }
/-- Boot -/
theorem boot_any (U : Nat → Prop) (p q : Nat) (d : DD) (w : World) (h : HD w U p q d) :
    Calls Try.prog 23 #[.pointer (some ⟨p, 0, none⟩)] w fun e w' => e = .returned (.tuple #[]) ∧ HD w' U p q d.boot ∧ Kept U w w' := by
  obtain ⟨c, h⟩ := h
  have c1 := cell_of_row w p 1 _ _ _ h.hp
  have c2 := cell_of_row w p 2 _ _ _ h.hp
  simp at c1 c2
  have f1 := frozen_of_row w p 1 _ _ h.hp
  have f2 := frozen_of_row w p 2 _ _ h.hp
  go_enter Try.func23, Try.ntmps23
  go_wp2_with fail
  go_end0
  refine ⟨rfl, ⟨c, ⟨?_, fun k hk => by simpa [World.setCell] using h.old k hk, h.pq, h.up, h.uq, ?_, ?_, fun a b e => by cases e⟩⟩, ((Kept.refl U w).setCell (p := ⟨p, 1, none⟩) h.up _).setCell (p := ⟨p, 2, none⟩) h.up _⟩
  · exact ⟨h.ok.1, h.ok.2.1, h.ok.2.2.1, h.ok.2.2.2.1, fun a b e => by cases e⟩
  · have := heap_set_same (j := 2) (.pointer none) (heap_set_same (j := 1) (.bool false) h.hp)
    simpa [DD.boot, cutP] using this
  · exact heap_set_other _ (heap_set_other _ h.hq h.pq.symm) h.pq.symm

def DD.setCut (d : DD) (a b : Int) : DD := if 0 ≤ a then { d with cut := some (a.toNat, (min (max b 0) 64).toNat) } else d
theorem cut_close {w : World} {U : Nat → Prop} {p q c : Nat} {d : DD} (h : HDc w U p q c d) (a v : Int) (n m : Nat) (hn : a = (n : Int)) (hm : v = (m : Int)) (hm64 : m ≤ 64) (hna : n ≤ 9223372036854775807) :
    HD ((w.setCell ⟨p, 2, none⟩ (.pointer (some ⟨w.heap.size, 0, none⟩))).alloc (.cells #[.int .i64 a, .int .i64 v] 101)) U p q { d with cut := some (n, m) } ∧
    Kept U w ((w.setCell ⟨p, 2, none⟩ (.pointer (some ⟨w.heap.size, 0, none⟩))).alloc (.cells #[.int .i64 a, .int .i64 v] 101)) := by
  subst hn hm
  have hlp : p < w.heap.size := (Array.getElem?_eq_some_iff.1 h.hp).1
  have hlq : q < w.heap.size := (Array.getElem?_eq_some_iff.1 h.hq).1
  have hsz : (w.setCell ⟨p, 2, none⟩ (.pointer (some ⟨w.heap.size, 0, none⟩))).heap.size = w.heap.size := by simp [World.setCell]
  refine ⟨⟨w.heap.size, ⟨?_, fun k hk => ?_, h.pq, h.up, h.uq, ?_, ?_, fun a b e => ?_⟩⟩, ?_⟩
  · exact ⟨h.ok.1, h.ok.2.1, h.ok.2.2.1, h.ok.2.2.2.1, fun a b e => by injection e with e; injection e with e1 e2; omega⟩
  · have := h.old k hk; rw [World.size_alloc, hsz]; omega
  · have := heap_alloc_keep (.cells #[.int .i64 n, .int .i64 m] 101) (heap_set_same (j := 2) (.pointer (some ⟨w.heap.size, 0, none⟩)) h.hp)
    simpa [cutP] using this
  · exact heap_alloc_keep _ (heap_set_other _ h.hq h.pq.symm)
  · injection e with e
    injection e with e1 e2
    subst e1 e2
    refine ⟨by omega, by omega, fun hu => by have := h.old _ hu; omega, ?_⟩
    have := heap_alloc_new (w.setCell ⟨p, 2, none⟩ (.pointer (some ⟨w.heap.size, 0, none⟩))) (.cells #[.int .i64 n, .int .i64 m] 101)
    rw [hsz] at this
    exact this
  · refine ((Kept.refl U w).setCell (p := ⟨p, 2, none⟩) h.up _).trans (Kept.of (B := w.heap.size) ((Below.refl _ _).alloc (by rw [hsz]; exact Nat.le_refl _) _) h.old)
/-- Cut -/
theorem cut_any (U : Nat → Prop) (p q : Nat) (d : DD) (w : World) (a b : Int) (ha : a ≤ 9223372036854775807) (h : HD w U p q d) :
    Calls Try.prog 22 #[.pointer (some ⟨p, 0, none⟩), .int .i64 a, .int .i64 b] w fun e w' => e = .returned (.tuple #[]) ∧ HD w' U p q (d.setCut a b) ∧ Kept U w w' := by
  by_cases h0 : 0 ≤ a
  · obtain ⟨c, hd⟩ := h
    have c2 := cell_of_row w p 2 _ _ _ hd.hp
    simp at c2
    have f2 := frozen_of_row w p 2 _ _ hd.hp
    have hlt : p < w.heap.size := (Array.getElem?_eq_some_iff.1 hd.hp).1
    have e0 : d.setCut a b = { d with cut := some (a.toNat, (min (max b 0) 64).toNat) } := by rw [DD.setCut, if_pos h0]
    rw [e0]
    go_enter Try.func22, Try.ntmps22
    go_wp2_with fail
    all_goals (go_end0; exact ⟨rfl, cut_close hd a _ _ _ (by omega) (by omega) (by omega) (by omega)⟩)
  · have e0 : d.setCut a b = d := by rw [DD.setCut, if_neg h0]
    rw [e0]
    go_enter Try.func22, Try.ntmps22
    go_wp2_with fail
    go_end0
    exact ⟨rfl, h, Kept.refl _ _⟩

theorem info_arr : (Try.prog.info? 150).map (fun i => (i.zero, i.size, i.bytes)) = some (some (.agg (Array.replicate 64 (.int .u8 0))), 64, 64) := by kernel_rfl
theorem flat_rep (n : Nat) : flat (List.replicate n (List.replicate 64 0)) = (madeCells (Array.replicate 64 (.int .u8 0)) (n * 64)).toList := by
  have e1 : flat (List.replicate n (List.replicate 64 0)) = List.replicate (n * 64) (.int .u8 0) := by
    unfold flat
    rw [List.flatten_replicate_replicate, List.map_replicate]
    rfl
  rw [e1]
  apply List.ext_getElem?
  intro j
  rw [List.getElem?_replicate]
  unfold madeCells
  split
  · rename_i hj
    have h64 : j % 64 < 64 := Nat.mod_lt _ (by omega)
    simp [hj, h64]
  · rename_i hj
    simp [hj]
section
variable {P : Program}
theorem wpList_mkS {w : World} {ops : Array Oper} {rest : List Oper} {o : Oper} {a : Act} {Q : Exit → Act → World → Prop}
    (hg : o.guard = none) (l c : Operand) (t : TypeId) (hop : o.op = Op.makeSlice t l c)
    (e : TypeId) (i : TypeInfo) (z : Value) (h1 : P.underlying t = some (.slice e)) (h2 : P.info? e = some i) (h3 : i.zero = some z)
    (L C : Int) (n : Nat) (hl : a.eval l = .int .i64 L) (hc : a.eval c = .int .i64 C) (hL : L = (n : Int)) (hC : C = (n : Int)) (b2 : i.bytes * n ≤ 281474976710656) (b3 : n ≤ 9223372036854775807)
    (hK : wpList P ops Q rest (a.put o.dst (.slice (some ⟨w.heap.size, 0, none⟩) n n)) (w.alloc (.cells (madeCells z.cells (n * i.size)) e))) :
    wpList P ops Q (o :: rest) a w := by
  subst hL
  subst hC
  have hb : (i.bytes : Int) * (n : Int) ≤ 281474976710656 := by
    have h : ((i.bytes * n : Nat) : Int) ≤ 281474976710656 := by omega
    rwa [Int.natCast_mul] at h
  have hrun := run_make (P := P) w t e i z h1 h2 h3 .i64 .i64 (n : Int) (n : Int) (by omega) (by omega) hb (by omega)
  simp only [Int.toNat_natCast] at hrun
  refine wpList_plain hg fun K hK' => ?_
  unfold Oper.wp
  simp [execOp, hop, hl, hc, hrun, Result.andThen]
  exact hK' _ _ hK
end
def DD.fresh (m : Int) : DD := ⟨List.replicate (min (max m 1) 256).toNat (List.replicate 64 0), false, none, 0⟩
theorem ok_fresh (m : Int) : (DD.fresh m).ok := by
  refine ⟨fun s hs => ?_, ?_, ?_, by simp [DD.fresh], fun a b e => by cases e⟩
  · obtain rfl := (List.mem_replicate.1 hs).2
    exact ⟨by simp, fun x hx => by have := (List.mem_replicate.1 hx).2; omega⟩
  · simp [DD.fresh]; omega
  · simp [DD.fresh]; omega
theorem new_close {w : World} {U : Nat → Prop} {m : Int} {n : Nat} (hU : ∀ k, U k → k < w.heap.size) (hn : min (max m 1) 256 = (n : Int)) (v : Int) (hv : v = (n : Int)) (hvn : v.toNat = n) :
    HD ((w.alloc (.cells (madeCells (Array.replicate 64 (.int .u8 0)) (n * 64)) 150)).alloc (.cells #[.slice (some ⟨w.heap.size, 0, none⟩) n n, .bool false, .pointer none, .int .i64 0] 82)) U (w.heap.size + 1) w.heap.size (DD.fresh m) := by
  have hl : (DD.fresh m).L.length = n := by simp [DD.fresh]; omega
  refine ⟨0, ⟨ok_fresh m, fun k hk => ?_, by omega, fun hu => by have := hU _ hu; omega, fun hu => by have := hU _ hu; omega, ?_, ?_, fun a b e => by cases e⟩⟩
  · have := hU k hk; simp; omega
  · have := heap_alloc_new (w.alloc (.cells (madeCells (Array.replicate 64 (.int .u8 0)) (n * 64)) 150)) (.cells #[.slice (some ⟨w.heap.size, 0, none⟩) n n, .bool false, .pointer none, .int .i64 0] 82)
    rw [World.size_alloc] at this
    rw [hl]
    exact this
  · have := heap_alloc_keep (.cells #[.slice (some ⟨w.heap.size, 0, none⟩) n n, .bool false, .pointer none, .int .i64 0] 82) (heap_alloc_new w (.cells (madeCells (Array.replicate 64 (.int .u8 0)) (n * 64)) 150))
    rw [this]
    have e : (DD.fresh m).L = List.replicate n (List.replicate 64 0) := by unfold DD.fresh; rw [hn]; rfl
    rw [e, flat_rep]
/-- New -/
theorem new_any (U : Nat → Prop) (w : World) (m : Int) (hU : ∀ k, U k → k < w.heap.size) :
    Calls Try.prog 15 #[.int .i64 m] w fun e w' => e = .returned (.pointer (some ⟨w.heap.size + 1, 0, none⟩)) ∧ HD w' U (w.heap.size + 1) w.heap.size (DD.fresh m) ∧ Below w.heap.size w w' := by
  obtain ⟨n, hn⟩ : ∃ n : Nat, min (max m 1) 256 = (n : Int) := ⟨(min (max m 1) 256).toNat, by omega⟩
  obtain ⟨i0, hi, hz0, hz1, hz2⟩ := info_parts info_arr
  have hn' := Lib.hid hn
  clear hn
  go_enter Try.func15, Try.ntmps15
  go_wp2_with (first
    | (with_reducible refine wpList_mkS rfl (.tmp 5) (.tmp 5) 79 rfl 150 i0 (.agg (Array.replicate 64 (.int .u8 0))) Try.underlying79 hi hz0 _ _ n rfl rfl (by have := hn'.out; omega) (by have := hn'.out; omega) (by rw [hz2]; have := hn'.out; omega) (by have := hn'.out; omega) ?_
       rw [hz1]
       simp only [Value.cells])
    | fail)
  all_goals (go_ret; exact ⟨by simp, by have := hn'.out; exact new_close hU this n rfl rfl, ((Below.refl _ _).alloc (Nat.le_refl _) _).alloc (by simp) _⟩)
end Go.Proofs.Ytcdgaeenfhpnkaa
/- Read, of package sector: contract. -/
set_option linter.unusedVariables false
set_option linter.unusedSimpArgs false
set_option maxRecDepth 100000
namespace Go.Proofs.Ytcdgaeenfhpnkaa
open Go Go.RowKit

theorem flat_get (L : List (List Nat)) (h : ∀ s ∈ L, s.length = 64) : ∀ (i : Nat) (s : List Nat) (j : Nat), L[i]? = some s → j < 64 → (flat L)[i * 64 + j]? = (s.map bv)[j]? := by
  induction L with
  | nil => intro i s j hi; simp at hi
  | cons a L ih =>
    intro i s j hi hj
    have ha : a.length = 64 := h a (by simp)
    have e : flat (a :: L) = a.map bv ++ flat L := by simp [flat]
    rw [e]
    cases i with
    | zero =>
      simp only [List.getElem?_cons_zero, Option.some.injEq] at hi
      subst hi
      rw [List.getElem?_append_left (by simp; omega)]
      simp
    | succ i =>
      simp only [List.getElem?_cons_succ] at hi
      rw [List.getElem?_append_right (by simp; omega)]
      have := ih (fun s hs => h s (by simp [hs])) i s j hi hj
      simp only [List.length_map, ha]
      rw [show (i + 1) * 64 + j - 64 = i * 64 + j by omega]
      exact this
theorem flat_len (L : List (List Nat)) (h : ∀ s ∈ L, s.length = 64) : (flat L).length = 64 * L.length := by
  induction L with
  | nil => rfl
  | cons a L ih =>
    have ha : a.length = 64 := h a (by simp)
    have e : flat (a :: L) = a.map bv ++ flat L := by simp [flat]
    rw [e, List.length_append, ih (fun s hs => h s (by simp [hs]))]
    simp; omega
theorem HDc.rd {w : World} {U : Nat → Prop} {p q c : Nat} {d : DD} (h : HDc w U p q c d) (i : Nat) (s : List Nat) (hs : d.L[i]? = some s) : Rd w w.heap.size 1 (some ⟨q, i * 64, none⟩) 64 (s.map bv) := by
  have hl := (h.ok.1 s (List.mem_of_getElem? hs)).1
  refine ⟨by simp [hl], fun _ => ⟨q, i * 64, rfl, (Array.getElem?_eq_some_iff.1 h.hq).1, fun j u hu => ?_⟩⟩
  rw [cell_of_row _ _ _ _ _ _ h.hq]
  have hj : j < 64 := by
    have := (List.getElem?_eq_some_iff.1 hu).1
    simp [hl] at this; exact this
  have := flat_get d.L (fun s hs => (h.ok.1 s hs).1) i s j hs hj
  simpa [this] using hu

theorem has_yes (U : Nat → Prop) (p q : Nat) (d : DD) (w : World) (i : Int) (h : HD w U p q d) (h1 : 0 ≤ i ∧ i < d.L.length) :
    Calls Try.prog 96 #[.pointer (some ⟨p, 0, none⟩), .int .i64 i] w fun e w' => e = .returned (.bool true) ∧ w' = w := by
  have := has_any U p q d w i h
  rwa [decide_eq_true h1] at this
theorem has_no (U : Nat → Prop) (p q : Nat) (d : DD) (w : World) (i : Int) (h : HD w U p q d) (h1 : ¬ (0 ≤ i ∧ i < d.L.length)) :
    Calls Try.prog 96 #[.pointer (some ⟨p, 0, none⟩), .int .i64 i] w fun e w' => e = .returned (.bool false) ∧ w' = w := by
  have := has_any U p q d w i h
  rwa [decide_eq_false h1] at this

def DD.read (d : DD) (i : Int) : Nat × List Nat := if d.down then (101, []) else if 0 ≤ i ∧ i < d.L.length then (0, d.L.getD i.toNat []) else (1, [])
def ReadPost (w : World) (r : Nat × List Nat) (e : Ending) (w' : World) : Prop :=
  ∃ A n c, e = .returned (.tuple #[.slice A n c, .int .i64 r.1]) ∧ w'.ownsRow w.heap.size 5 1 (.slice A n c) n (r.2.map bv) ∧ Below w.heap.size w w'
theorem info_u8s : (Try.prog.info? 5).map (fun i => (i.zero, i.size, i.bytes)) = some (some (.int .u8 0), 1, 1) := by kernel_rfl
theorem size_arr : (Try.prog.info? 150).map (·.size) = some 64 := by kernel_rfl
set_option maxHeartbeats 1000000 in
theorem read_fine (U : Nat → Prop) (p q c : Nat) (d : DD) (w : World) (k : Nat) (s : List Nat) (h : HDc w U p q c d) (hd : d.down = false) (hk : d.L[k]? = some s) :
    Calls Try.prog 93 #[.pointer (some ⟨p, 0, none⟩), .int .i64 k] w (ReadPost w (0, s)) := by
  have hkl : k < d.L.length := (List.getElem?_eq_some_iff.1 hk).1
  have hsl : s.length = 64 := (h.ok.1 s (List.mem_of_getElem? hk)).1
  obtain ⟨i0, hi, hz0, hz1, hz2⟩ := info_parts info_u8s
  have c1 := cell_of_row w p 1 _ _ _ h.hp
  have c0 := cell_of_row w p 0 _ _ _ h.hp
  simp [hd] at c1 c0
  have hl256 := h.ok.2.1
  have t1 : (0 : Int) ≤ (k : Int) ∧ (k : Int) < (d.L.length : Int) := by omega
  have hrd := h.rd k s hk
  have hlp : p < w.heap.size := (Array.getElem?_eq_some_iff.1 h.hp).1
  have H : Hid (HD w U p q d) := ⟨c, h⟩
  have T := Lib.hid t1
  clear h t1 hd hk
  go_enter Try.func93, Try.ntmps93
  go_wp2_with (first
    | (go_at_call 96; (with_reducible refine (has_yes U p q d _ _ H.out T.out).mono ?_); rintro e w ⟨rfl, rfl⟩)
    | (with_reducible refine wpList_mk _ rfl (.const (.int .i64 64)) (.const (.int .i64 64)) 27 rfl w.heap.size 5 i0 (.int .u8 0) Try.underlying27 hi hz0 hz1 rfl .i64 .i64 _ _ 64 64 rfl rfl rfl rfl (Nat.le_refl _) ?e3 ?e4 (Nat.le_refl _) ?_))
  case e3 => rw [hz2]; omega
  case e4 => unfold maxLen; omega
  intro w2 hown2 hg2
  obtain ⟨Z, hZl, hown2⟩ : ∃ Z : List Value, Z.length = 64 ∧ w2.ownsRow w.heap.size 5 1 (.slice (some ⟨w.heap.size, 0, none⟩) 64 64) 64 Z := ⟨_, hown2.1, hown2⟩
  have hb2 : Below w.heap.size w w2 := (Below.refl _ _).grown hg2 (Nat.le_refl _) (by simp)
  have hr2 := hrd.below hb2
  have c0' := (hb2.cell (p := ⟨p, 0, none⟩) hlp).trans c0
  clear c0 c1
  go_wp2_with (first
    | (with_reducible refine wpList_cpy _ rfl (.tmp 16) (.tmp 23) 27 27 rfl 5 Try.underlying27 ?f1 w.heap.size w.heap.size 64 64 _ rfl hown2 w.heap.size (some ⟨q, k * 64, none⟩) 64 64 (s.map bv) rfl hr2 (bv_one s) ?_)
    | fail)
  case f1 => rw [hi]; simp [hz1]
  intro w3 hown3 hg3
  have hb3 : Below w.heap.size w w3 := hb2.grown hg3 hb2.size (fun k hk => by injection hk; omega)
  rw [List.take_of_length_le (by simp; omega), List.drop_eq_nil_of_le (by omega), List.append_nil] at hown3
  go_wp2_with fail
  go_ret2
  exact ⟨_, _, _, rfl, hown3, hb3⟩
theorem read_any (U : Nat → Prop) (p q : Nat) (d : DD) (w : World) (i : Int) (h : HD w U p q d) :
    Calls Try.prog 93 #[.pointer (some ⟨p, 0, none⟩), .int .i64 i] w (ReadPost w (d.read i)) := by
  obtain ⟨c, h⟩ := h
  by_cases hd : d.down = true
  · have e0 : d.read i = (101, []) := by rw [DD.read, if_pos hd]
    rw [e0]
    have c1 := cell_of_row w p 1 _ _ _ h.hp
    simp [hd] at c1
    go_enter Try.func93, Try.ntmps93
    go_wp2_with fail
    go_ret2
    exact ⟨_, _, _, rfl, World.ownsRow_nil _ _ _ _, Below.refl _ _⟩
  · have hd' : d.down = false := by simpa using hd
    by_cases hi : 0 ≤ i ∧ i < d.L.length
    · obtain ⟨k, rfl⟩ : ∃ k : Nat, i = (k : Int) := ⟨i.toNat, by omega⟩
      obtain ⟨s, hs⟩ : ∃ s, d.L[k]? = some s := ⟨_, List.getElem?_eq_getElem (by omega)⟩
      have e0 : d.read k = (0, s) := by rw [DD.read, if_neg hd, if_pos hi, Int.toNat_natCast, List.getD_eq_getElem?_getD, hs]; rfl
      rw [e0]
      exact read_fine U p q c d w k s h hd' hs
    · have e0 : d.read i = (1, []) := by rw [DD.read, if_neg hd, if_neg hi]
      rw [e0]
      have c1 := cell_of_row w p 1 _ _ _ h.hp
      simp [hd'] at c1
      have H : Hid (HD w U p q d) := ⟨c, h⟩
      have T := Lib.hid hi
      clear hi h
      go_enter Try.func93, Try.ntmps93
      go_wp2_with (first
        | (go_at_call 96; (with_reducible refine (has_no U p q d _ _ H.out T.out).mono ?_); rintro e w ⟨rfl, rfl⟩)
        | fail)
      go_ret2
      exact ⟨_, _, _, rfl, World.ownsRow_nil _ _ _ _, Below.refl _ _⟩
end Go.Proofs.Ytcdgaeenfhpnkaa
