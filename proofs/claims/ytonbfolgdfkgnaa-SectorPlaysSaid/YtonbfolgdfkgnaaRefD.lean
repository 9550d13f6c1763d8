/- The reference's disk (watchkeeperref10) as words on memory; its methods, walked once each. -/
import Derived.Test.YtonbfolgdfkgnaaSecC
set_option linter.unusedVariables false
set_option linter.unusedSimpArgs false
set_option maxRecDepth 100000
namespace Go.Proofs.Ytonbfolgdfkgnaa
open Go Go.RowKit

def sv (s : List Nat) : Value := .string (bstr s)
theorem sv_one (L : List (List Nat)) : ∀ u ∈ L.map sv, u.oneCell' = true := by
  intro u hu
  obtain ⟨c, _, rfl⟩ := List.mem_map.1 hu
  rfl
theorem kcvR (w' : World) (A : Option Addr) (n c B : Nat) (l : List Nat) (h : Rd w' B 1 A n (l.map bv)) : (convert 29 9 (.slice A n c)).run Try.prog w' = .ok (.string (bstr l)) w' :=
  run_str h 29 9 5 Try.underlying29 Try.underlying5 Try.underlying9

/-- zeros -/
theorem zeros_any (w : World) (n : Int) (k : Nat) (hn : n = (k : Int)) (hk : k ≤ 1000) :
    Calls Try.prog 26 #[.int .i64 n] w fun e w' => e = .returned (sv (List.replicate k 0)) ∧ Below w.heap.size w w' := by
  obtain ⟨i0, hi, hz0, hz1, hz2⟩ := info_parts info_u8
  go_enter Try.func26, Try.ntmps26
  have Hn := Lib.hid hn
  clear hn
  go_wp2_with (first
    | (with_reducible refine wpList_mk _ rfl (.tmp 3) (.tmp 3) 29 rfl w.heap.size 5 i0 (.int .u8 0) Try.underlying29 hi hz0 hz1 rfl .i64 .i64 _ _ k k rfl rfl Hn.out Hn.out (Nat.le_refl _) ?e3 ?e4 (Nat.le_refl _) ?_))
  case e3 => rw [hz2]; omega
  case e4 => unfold maxLen; omega
  intro w2 hown2 hg2
  obtain ⟨Z, hZ, hown2⟩ : ∃ Z : List Nat, Z = List.replicate k 0 ∧ w2.ownsRow w.heap.size 5 1 (.slice (some ⟨w.heap.size, 0, none⟩) k k) k (Z.map bv) := ⟨_, rfl, by rw [List.map_replicate]; exact hown2⟩
  have hb2 : Below w.heap.size w w2 := (Below.refl _ _).grown hg2 (Nat.le_refl _) (by simp)
  have kv := kcvR _ _ _ k _ _ (Rd.of_own hown2)
  have HZ := Lib.hid hZ
  clear hZ hown2
  go_wp2_with fail
  go_ret
  exact ⟨by rw [← HZ.out]; rfl, hb2⟩

/-- what stands in the reference's fields beside a disk's words -/
structure RX where
  c : Nat
  after : Int
  bytes : Nat
  torn : Int
  was : ByteArray
  meant : ByteArray
  rest : List Value
/-- it lies in memory, in blocks that U does not name -/
structure HRc (w : World) (U : Nat → Prop) (p g : Nat) (d : DD) (x : RX) : Prop where
  ok : d.ok
  old : ∀ k, U k → k < w.heap.size
  pg : p ≠ g
  up : ¬ U p
  ug : ¬ U g
  hp : w.heap[p]? = some (.cells #[.slice (some ⟨g, 0, none⟩) d.L.length x.c, .bool d.down, .int .i64 x.after, .int .i64 x.bytes, .int .i64 d.writes, .int .i64 x.torn, .string x.was, .string x.meant] 49)
  hg : w.heap[g]? = some (.cells (d.L.map sv ++ x.rest).toArray 9)
  hc : d.L.length ≤ x.c
  h64 : x.bytes ≤ 64
  cn : d.cut = none → x.after = -1
  cs : ∀ a b, d.cut = some (a, b) → x.after = (a : Int) ∧ x.bytes = b
def HR (w : World) (U : Nat → Prop) (p g : Nat) (d : DD) : Prop := ∃ x, HRc w U p g d x

section
variable {w w' : World} {U U' : Nat → Prop} {p g : Nat} {d : DD} {x : RX}
theorem HRc.pold (h : HRc w U p g d x) : p < w.heap.size := (Array.getElem?_eq_some_iff.1 h.hp).1
theorem HRc.gold (h : HRc w U p g d x) : g < w.heap.size := (Array.getElem?_eq_some_iff.1 h.hg).1
theorem HRc.below (h : HRc w U p g d x) (hb : Below w.heap.size w w') : HRc w' U p g d x := by
  have keep : ∀ {k : Nat} {o : Obj}, w.heap[k]? = some o → w'.heap[k]? = some o := fun {k o} hk => by
    rw [hb.block k (Array.getElem?_eq_some_iff.1 hk).1]; exact hk
  exact ⟨h.ok, fun k hk => Nat.lt_of_lt_of_le (h.old k hk) hb.size, h.pg, h.up, h.ug, keep h.hp, keep h.hg, h.hc, h.h64, h.cn, h.cs⟩
theorem HR.below (h : HR w U p g d) (hb : Below w.heap.size w w') : HR w' U p g d := by
  obtain ⟨x, h⟩ := h
  exact ⟨x, h.below hb⟩
theorem HR.old (h : HR w U p g d) : ∀ k, U k → k < w.heap.size := by
  obtain ⟨x, h⟩ := h
  exact h.old
/-- the same blocks in another world, others to be left alone -/
theorem HRc.turn (h : HRc w U p g d x) (hp : w'.heap[p]? = w.heap[p]?) (hg : w'.heap[g]? = w.heap[g]?) (up : ¬ U' p) (ug : ¬ U' g) (ho : ∀ k, U' k → k < w'.heap.size) : HRc w' U' p g d x :=
  ⟨h.ok, ho, h.pg, up, ug, hp.trans h.hp, hg.trans h.hg, h.hc, h.h64, h.cn, h.cs⟩
end

theorem rdown_any (U : Nat → Prop) (p g : Nat) (d : DD) (w : World) (h : HR w U p g d) :
    Calls Try.prog 21 #[.pointer (some ⟨p, 0, none⟩)] w fun e w' => e = .returned (.bool d.down) ∧ w' = w := by
  obtain ⟨x, h⟩ := h
  have c1 := cell_of_row w p 1 _ _ _ h.hp
  simp at c1
  go_enter Try.func21, Try.ntmps21
  go_wp2_with fail
  go_ret
  exact ⟨rfl, rfl⟩
theorem rwrites_any (U : Nat → Prop) (p g : Nat) (d : DD) (w : World) (h : HR w U p g d) :
    Calls Try.prog 23 #[.pointer (some ⟨p, 0, none⟩)] w fun e w' => e = .returned (.int .i64 d.writes) ∧ w' = w := by
  obtain ⟨x, h⟩ := h
  have c1 := cell_of_row w p 4 _ _ _ h.hp
  simp at c1
  go_enter Try.func23, Try.ntmps23
  go_wp2_with fail
  go_ret
  exact ⟨rfl, rfl⟩
theorem rmany_any (U : Nat → Prop) (p g : Nat) (d : DD) (w : World) (h : HR w U p g d) :
    Calls Try.prog 25 #[.pointer (some ⟨p, 0, none⟩)] w fun e w' => e = .returned (.int .i64 d.L.length) ∧ w' = w := by
  obtain ⟨x, h⟩ := h
  have c1 := cell_of_row w p 0 _ _ _ h.hp
  simp at c1
  go_enter Try.func25, Try.ntmps25
  go_wp2_with fail
  go_ret
  exact ⟨rfl, rfl⟩
theorem rboot_any (U : Nat → Prop) (p g : Nat) (d : DD) (w : World) (h : HR w U p g d) :
    Calls Try.prog 17 #[.pointer (some ⟨p, 0, none⟩)] w fun e w' => e = .returned (.tuple #[]) ∧ HR w' U p g d.boot ∧ Kept U w w' := by
  obtain ⟨x, h⟩ := h
  have c1 := cell_of_row w p 1 _ _ _ h.hp
  have c2 := cell_of_row w p 2 _ _ _ h.hp
  simp at c1 c2
  have f1 := frozen_of_row w p 1 _ _ h.hp
  have f2 := frozen_of_row w p 2 _ _ h.hp
  go_enter Try.func17, Try.ntmps17
  go_wp2_with fail
  go_end0
  refine ⟨rfl, ⟨{ x with after := -1 }, ⟨?_, fun k hk => by simpa [World.setCell] using h.old k hk, h.pg, h.up, h.ug, ?_, ?_, h.hc, h.h64, fun _ => rfl, fun a b e => by cases e⟩⟩, ((Kept.refl U w).setCell (p := ⟨p, 1, none⟩) h.up _).setCell (p := ⟨p, 2, none⟩) h.up _⟩
  · exact ⟨h.ok.1, h.ok.2.1, h.ok.2.2.1, h.ok.2.2.2.1, fun a b e => by cases e⟩
  · have := heap_set_same (j := 2) (.int .i64 (-1)) (heap_set_same (j := 1) (.bool false) h.hp)
    simpa [DD.boot] using this
  · exact heap_set_other _ (heap_set_other _ h.hg h.pg.symm) h.pg.symm
theorem rcut_any (U : Nat → Prop) (p g : Nat) (d : DD) (w : World) (a b : Int) (ha : a ≤ 9223372036854775807) (h : HR w U p g d) :
    Calls Try.prog 15 #[.pointer (some ⟨p, 0, none⟩), .int .i64 a, .int .i64 b] w fun e w' => e = .returned (.tuple #[]) ∧ HR w' U p g (d.setCut a b) ∧ Kept U w w' := by
  by_cases h0 : 0 ≤ a
  · obtain ⟨x, h⟩ := h
    have c2 := cell_of_row w p 2 _ _ _ h.hp
    have c3 := cell_of_row w p 3 _ _ _ h.hp
    simp at c2 c3
    have f2 := frozen_of_row w p 2 _ _ h.hp
    have f3 := frozen_of_row w p 3 _ _ h.hp
    have e0 : d.setCut a b = { d with cut := some (a.toNat, (min (max b 0) 64).toNat) } := by rw [DD.setCut, if_pos h0]
    rw [e0]
    have fin : ∀ (v : Int) (m : Nat), v = (m : Int) → m ≤ 64 → (min (max b 0) 64).toNat = m → HR ((w.setCell ⟨p, 2, none⟩ (.int .i64 a)).setCell ⟨p, 3, none⟩ (.int .i64 v)) U p g { d with cut := some (a.toNat, (min (max b 0) 64).toNat) } ∧
        Kept U w ((w.setCell ⟨p, 2, none⟩ (.int .i64 a)).setCell ⟨p, 3, none⟩ (.int .i64 v)) := by
      rintro v m rfl hm he
      refine ⟨⟨{ x with after := a, bytes := m }, ⟨?_, fun k hk => by simpa [World.setCell] using h.old k hk, h.pg, h.up, h.ug, ?_, ?_, h.hc, hm, (fun e => by cases e), fun a' b' e => ?_⟩⟩, ((Kept.refl U w).setCell (p := ⟨p, 2, none⟩) h.up _).setCell (p := ⟨p, 3, none⟩) h.up _⟩
      · exact ⟨h.ok.1, h.ok.2.1, h.ok.2.2.1, h.ok.2.2.2.1, fun a' b' e => by injection e with e; injection e with e1 e2; omega⟩
      · have := heap_set_same (j := 3) (.int .i64 m) (heap_set_same (j := 2) (.int .i64 a) h.hp)
        simpa using this
      · exact heap_set_other _ (heap_set_other _ h.hg h.pg.symm) h.pg.symm
      · injection e with e; injection e with e1 e2
        exact ⟨by show a = (a' : Int); omega, by show m = b'; omega⟩
    have Fin := Lib.hid fin
    clear fin h
    go_enter Try.func15, Try.ntmps15
    go_wp2_with fail
    all_goals (go_end0; exact ⟨rfl, Fin.out _ (min (max b 0) 64).toNat (by omega) (by omega) rfl⟩)
  · have e0 : d.setCut a b = d := by rw [DD.setCut, if_neg h0]
    rw [e0]
    go_enter Try.func15, Try.ntmps15
    go_wp2_with fail
    go_end0
    exact ⟨rfl, h, Kept.refl _ _⟩
end Go.Proofs.Ytonbfolgdfkgnaa
