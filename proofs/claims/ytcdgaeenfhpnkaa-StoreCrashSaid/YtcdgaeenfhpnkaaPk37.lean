/- The document's disk, with the sector that was torn last. (Printed by a program out of the texts on the reference's disk.) -/
import Derived.Test.YtcdgaeenfhpnkaaPk35
import Derived.Lib.ConvBytes
import Derived.StillTailTactics
import Derived.IntWalk
set_option linter.unusedVariables false
set_option linter.unusedSimpArgs false
set_option maxRecDepth 100000
namespace Go.Proofs.Ytcdgaeenfhpnkaa.Cr
open Go Go.RowKit
attribute [local go_sem] Oper.semAt_some


def sv (s : List Nat) : Value := .string (bstr s)
theorem sv_one (L : List (List Nat)) : ∀ u ∈ L.map sv, u.oneCell' = true := by
  intro u hu
  obtain ⟨c, _, rfl⟩ := List.mem_map.1 hu
  rfl
theorem kcvR (w' : World) (A : Option Addr) (n c B : Nat) (l : List Nat) (h : Rd w' B 1 A n (l.map bv)) : (convert 27 9 (.slice A n c)).run Try.prog w' = .ok (.string (bstr l)) w' :=
  run_str h 27 9 5 Try.underlying27 Try.underlying5 Try.underlying9

/-- zeros -/
theorem zeros_any (w : World) (n : Int) (k : Nat) (hn : n = (k : Int)) (hk : k ≤ 1000) :
    Calls Try.prog 75 #[.int .i64 n] w fun e w' => e = .returned (sv (List.replicate k 0)) ∧ Below w.heap.size w w' := by
  obtain ⟨i0, hi, hz0, hz1, hz2⟩ := info_parts info_u8s
  go_enter Try.func75, Try.ntmps75
  have Hn := Lib.hid hn
  clear hn
  go_wp2_with (first
    | (with_reducible refine wpList_mk _ rfl (.tmp 3) (.tmp 3) 27 rfl w.heap.size 5 i0 (.int .u8 0) Try.underlying27 hi hz0 hz1 rfl .i64 .i64 _ _ k k rfl rfl Hn.out Hn.out (Nat.le_refl _) ?e3 ?e4 (Nat.le_refl _) ?_))
  case e3 => rw [hz2]; omega
  case e4 => unfold maxLen; omega
  intro w2 hown2 hg2
  obtain ⟨Z, hZ, hown2⟩ : ∃ Z : List Nat, Z = List.replicate k 0 ∧ w2.ownsRow w.heap.size 5 1 (.slice (some ⟨w.heap.size, 0, none⟩) k k) k (Z.map bv) := ⟨_, rfl, by rw [List.map_replicate]; exact hown2⟩
  have hb2 : Below w.heap.size w w2 := (Below.refl _ _).grown hg2 (Nat.le_refl _) (by simp)
  have kv := kcvR _ _ _ k _ _ (Rd.of_own hown2)
  have HZ := Lib.hid hZ
  clear hZ hown2
  go_wp2_with fail
  go_ret
  exact ⟨by rw [← HZ.out]; rfl, hb2⟩

/-- what stands in the reference's fields beside a disk's words -/
structure RX where
  c : Nat
  after : Int
  bytes : Nat
  torn : Int
  was : ByteArray
  meant : ByteArray
  rest : List Value
/-- it lies in memory, in blocks that U does not name -/
structure HRc (w : World) (U : Nat → Prop) (p g : Nat) (d : DD) (x : RX) : Prop where
  ok : d.ok
  old : ∀ k, U k → k < w.heap.size
  pg : p ≠ g
  up : ¬ U p
  ug : ¬ U g
  hp : w.heap[p]? = some (.cells #[.slice (some ⟨g, 0, none⟩) d.L.length x.c, .bool d.down, .int .i64 x.after, .int .i64 x.bytes, .int .i64 d.writes, .int .i64 x.torn, .string x.was, .string x.meant] 119)
  hg : w.heap[g]? = some (.cells (d.L.map sv ++ x.rest).toArray 9)
  hc : d.L.length ≤ x.c
  h64 : x.bytes ≤ 64
  cn : d.cut = none → x.after = -1
  cs : ∀ a b, d.cut = some (a, b) → x.after = (a : Int) ∧ x.bytes = b
def HR (w : World) (U : Nat → Prop) (p g : Nat) (d : DD) (K : Int × ByteArray × ByteArray) : Prop := ∃ x, HRc w U p g d x ∧ (x.torn, x.was, x.meant) = K

section
variable {w w' : World} {U U' : Nat → Prop} {p g : Nat} {d : DD} {x : RX} {K : Int × ByteArray × ByteArray}
theorem HRc.pold (h : HRc w U p g d x) : p < w.heap.size := (Array.getElem?_eq_some_iff.1 h.hp).1
theorem HRc.gold (h : HRc w U p g d x) : g < w.heap.size := (Array.getElem?_eq_some_iff.1 h.hg).1
theorem HRc.below (h : HRc w U p g d x) (hb : Below w.heap.size w w') : HRc w' U p g d x := by
  have keep : ∀ {k : Nat} {o : Obj}, w.heap[k]? = some o → w'.heap[k]? = some o := fun {k o} hk => by
    rw [hb.block k (Array.getElem?_eq_some_iff.1 hk).1]; exact hk
  exact ⟨h.ok, fun k hk => Nat.lt_of_lt_of_le (h.old k hk) hb.size, h.pg, h.up, h.ug, keep h.hp, keep h.hg, h.hc, h.h64, h.cn, h.cs⟩
theorem HR.below (h : HR w U p g d K) (hb : Below w.heap.size w w') : HR w' U p g d K := by
  obtain ⟨x, h, hK⟩ := h
  exact ⟨x, h.below hb, hK⟩
theorem HR.old (h : HR w U p g d K) : ∀ k, U k → k < w.heap.size := by
  obtain ⟨x, h, hK⟩ := h
  exact h.old
/-- the same blocks in another world, others to be left alone -/
theorem HRc.turn (h : HRc w U p g d x) (hp : w'.heap[p]? = w.heap[p]?) (hg : w'.heap[g]? = w.heap[g]?) (up : ¬ U' p) (ug : ¬ U' g) (ho : ∀ k, U' k → k < w'.heap.size) : HRc w' U' p g d x :=
  ⟨h.ok, ho, h.pg, up, ug, hp.trans h.hp, hg.trans h.hg, h.hc, h.h64, h.cn, h.cs⟩
end

theorem rdown_any (K : Int × ByteArray × ByteArray) (U : Nat → Prop) (p g : Nat) (d : DD) (w : World) (h : HR w U p g d K) :
    Calls Try.prog 58 #[.pointer (some ⟨p, 0, none⟩)] w fun e w' => e = .returned (.bool d.down) ∧ w' = w := by
  obtain ⟨x, h, hK⟩ := h
  have c1 := cell_of_row w p 1 _ _ _ h.hp
  simp at c1
  go_enter Try.func58, Try.ntmps58
  go_wp2_with fail
  go_ret
  exact ⟨rfl, rfl⟩
theorem rboot_any (K : Int × ByteArray × ByteArray) (U : Nat → Prop) (p g : Nat) (d : DD) (w : World) (h : HR w U p g d K) :
    Calls Try.prog 57 #[.pointer (some ⟨p, 0, none⟩)] w fun e w' => e = .returned (.tuple #[]) ∧ HR w' U p g d.boot K ∧ Kept U w w' := by
  obtain ⟨x, h, hK⟩ := h
  have c1 := cell_of_row w p 1 _ _ _ h.hp
  have c2 := cell_of_row w p 2 _ _ _ h.hp
  simp at c1 c2
  have f1 := frozen_of_row w p 1 _ _ h.hp
  have f2 := frozen_of_row w p 2 _ _ h.hp
  go_enter Try.func57, Try.ntmps57
  go_wp2_with fail
  go_end0
  refine ⟨rfl, ⟨{ x with after := -1 }, ⟨?_, fun k hk => by simpa [World.setCell] using h.old k hk, h.pg, h.up, h.ug, ?_, ?_, h.hc, h.h64, fun _ => rfl, fun a b e => by cases e⟩, hK⟩, ((Kept.refl U w).setCell (p := ⟨p, 1, none⟩) h.up _).setCell (p := ⟨p, 2, none⟩) h.up _⟩
  · exact ⟨h.ok.1, h.ok.2.1, h.ok.2.2.1, h.ok.2.2.2.1, fun a b e => by cases e⟩
  · have := heap_set_same (j := 2) (.int .i64 (-1)) (heap_set_same (j := 1) (.bool false) h.hp)
    simpa [DD.boot] using this
  · exact heap_set_other _ (heap_set_other _ h.hg h.pg.symm) h.pg.symm
theorem rcut_any (K : Int × ByteArray × ByteArray) (U : Nat → Prop) (p g : Nat) (d : DD) (w : World) (a b : Int) (ha : a ≤ 9223372036854775807) (h : HR w U p g d K) :
    Calls Try.prog 56 #[.pointer (some ⟨p, 0, none⟩), .int .i64 a, .int .i64 b] w fun e w' => e = .returned (.tuple #[]) ∧ HR w' U p g (d.setCut a b) K ∧ Kept U w w' := by
  by_cases h0 : 0 ≤ a
  · obtain ⟨x, h, hK⟩ := h
    have c2 := cell_of_row w p 2 _ _ _ h.hp
    have c3 := cell_of_row w p 3 _ _ _ h.hp
    simp at c2 c3
    have f2 := frozen_of_row w p 2 _ _ h.hp
    have f3 := frozen_of_row w p 3 _ _ h.hp
    have e0 : d.setCut a b = { d with cut := some (a.toNat, (min (max b 0) 64).toNat) } := by rw [DD.setCut, if_pos h0]
    rw [e0]
    have fin : ∀ (v : Int) (m : Nat), v = (m : Int) → m ≤ 64 → (min (max b 0) 64).toNat = m → HR ((w.setCell ⟨p, 2, none⟩ (.int .i64 a)).setCell ⟨p, 3, none⟩ (.int .i64 v)) U p g { d with cut := some (a.toNat, (min (max b 0) 64).toNat) } K ∧
        Kept U w ((w.setCell ⟨p, 2, none⟩ (.int .i64 a)).setCell ⟨p, 3, none⟩ (.int .i64 v)) := by
      rintro v m rfl hm he
      refine ⟨⟨{ x with after := a, bytes := m }, ⟨?_, fun k hk => by simpa [World.setCell] using h.old k hk, h.pg, h.up, h.ug, ?_, ?_, h.hc, hm, (fun e => by cases e), fun a' b' e => ?_⟩, hK⟩, ((Kept.refl U w).setCell (p := ⟨p, 2, none⟩) h.up _).setCell (p := ⟨p, 3, none⟩) h.up _⟩
      · exact ⟨h.ok.1, h.ok.2.1, h.ok.2.2.1, h.ok.2.2.2.1, fun a' b' e => by injection e with e; injection e with e1 e2; omega⟩
      · have := heap_set_same (j := 3) (.int .i64 m) (heap_set_same (j := 2) (.int .i64 a) h.hp)
        simpa using this
      · exact heap_set_other _ (heap_set_other _ h.hg h.pg.symm) h.pg.symm
      · injection e with e; injection e with e1 e2
        exact ⟨by show a = (a' : Int); omega, by show m = b'; omega⟩
    have Fin := Lib.hid fin
    clear fin h
    go_enter Try.func56, Try.ntmps56
    go_wp2_with fail
    all_goals (go_end0; exact ⟨rfl, Fin.out _ (min (max b 0) 64).toNat (by omega) (by omega) rfl⟩)
  · have e0 : d.setCut a b = d := by rw [DD.setCut, if_neg h0]
    rw [e0]
    go_enter Try.func56, Try.ntmps56
    go_wp2_with fail
    go_end0
    exact ⟨rfl, h, Kept.refl _ _⟩


theorem row_str {L : List (List Nat)} {rest : List Value} {w : World} {g : Nat} {t : TypeId} (h : w.heap[g]? = some (.cells (L.map sv ++ rest).toArray t)) (k : Nat) (s : List Nat) (hs : L[k]? = some s) : w.cell? ⟨g, k, none⟩ = some (.string (bstr s)) := by
  rw [cell_of_row w g k _ _ _ h]
  have hk := (List.getElem?_eq_some_iff.1 hs).1
  simp [List.getElem?_append_left, hk]
  rw [List.getElem?_eq_some_iff] at hs
  obtain ⟨_, rfl⟩ := hs
  rfl
theorem bw_below (w : World) (e : TypeId) (s : ByteArray) : Below w.heap.size w (Lib.bytesWorld w e s) :=
  ⟨rfl, rfl, rfl, by rw [Lib.bytesWorld_size]; omega, fun k hk => Lib.bytesWorld_at_old w e s k hk⟩
theorem bw_rd (w : World) (e : TypeId) (s : List Nat) (n : Nat) (hn : s.length = n) (hs : ∀ c ∈ s, c < 256) : Rd (Lib.bytesWorld w e (bstr s)) (w.heap.size + 1) 1 (some ⟨w.heap.size, 0, none⟩) n (s.map bv) := by
  refine ⟨by simp; omega, fun _ => ⟨w.heap.size, 0, rfl, by omega, fun j u hu => ?_⟩⟩
  rw [List.getElem?_map] at hu
  have hj : j < s.length := by
    rcases Nat.lt_or_ge j s.length with h | h
    · exact h
    · rw [List.getElem?_eq_none h] at hu; simp at hu
  rw [List.getElem?_eq_getElem hj] at hu
  simp at hu
  rw [Nat.zero_add, Lib.bytesWorld_cell w e (bstr s) j (by rw [bstr_size]; exact hj), ← hu]
  have hl : (bstr s).data.toList = s.map UInt8.ofNat := by simp [bstr]
  rw [hl, List.getD_eq_getElem?_getD, List.getElem?_map, List.getElem?_eq_getElem hj]
  have hlt := hs _ (List.getElem_mem hj)
  simp [bv]
  omega


theorem heap_drew (w : World) : w.drew.heap = w.heap := rfl
theorem Kept.drew {U : Nat → Prop} {a w : World} (h : Kept U a w) : Kept U a w.drew := ⟨h.os, h.tape, h.output, h.size, h.block⟩
theorem bstr_app (a b : List Nat) : bstr a ++ bstr b = bstr (a ++ b) := by
  apply ByteArray.ext
  simp [bstr, ByteArray.data_append]
theorem bstr_take (a : List Nat) (k n : Nat) (h : a.length = n) (hk : k ≤ n) : (bstr a).extract 0 k = bstr (a.take k) := by
  apply ByteArray.ext
  simp [bstr, ByteArray.data_extract, List.map_take]
theorem bstr_drop (a : List Nat) (k n : Nat) (h : a.length = n) : (bstr a).extract k n = bstr (a.drop k) := by
  apply ByteArray.ext
  simp [bstr, ByteArray.data_extract, List.map_drop]
  rw [List.take_of_length_le (by simp; omega)]
def RWritePost (K : Int × ByteArray × ByteArray) (U : Nat → Prop) (p g : Nat) (w : World) (r : Nat × DD) (e : Ending) (w' : World) : Prop :=
  e = .returned (.int .i64 r.1) ∧ HR w' U p g r.2 K ∧ Kept U w w'
/-- what stands of a torn sector behind a write into sector k -/
def Kf (d : DD) (k : Nat) (b : List Nat) (K : Int × ByteArray × ByteArray) : Int × ByteArray × ByteArray := match d.cut with
  | some (0, _) => ((k : Int), bstr (d.L.getD k []), bstr (pad b))
  | _ => K
theorem Kf_succ {d : DD} {a m : Nat} (k : Nat) (b : List Nat) (K : Int × ByteArray × ByteArray) (h : d.cut = some (a + 1, m)) : Kf d k b K = K := by
  unfold Kf
  rw [h]
  rfl
theorem rwrite_down (K : Int × ByteArray × ByteArray) (U : Nat → Prop) (p g : Nat) (d : DD) (x : RX) (w : World) (i : Int) (v : Value) (h : HRc w U p g d x) (hK : (x.torn, x.was, x.meant) = K) (hd : d.down = true) :
    Calls Try.prog 99 #[.pointer (some ⟨p, 0, none⟩), .int .i64 i, v] w (RWritePost K U p g w (101, d)) := by
  have c1 := cell_of_row w p 1 _ _ _ h.hp
  simp [hd] at c1
  go_enter Try.func99, Try.ntmps99
  go_wp2_with fail
  go_ret
  exact ⟨rfl, ⟨x, h, hK⟩, Kept.refl _ _⟩
theorem rwrite_far (K : Int × ByteArray × ByteArray) (U : Nat → Prop) (p g : Nat) (d : DD) (x : RX) (w : World) (i : Int) (A : Option Addr) (n m : Nat) (h : HRc w U p g d x) (hK : (x.torn, x.was, x.meant) = K) (hd : d.down = false) (hi : ¬ (0 ≤ i ∧ i < d.L.length ∧ n ≤ 64)) :
    Calls Try.prog 99 #[.pointer (some ⟨p, 0, none⟩), .int .i64 i, .slice A n m] w (RWritePost K U p g w (1, d)) := by
  have c1 := cell_of_row w p 1 _ _ _ h.hp
  have c0 := cell_of_row w p 0 _ _ _ h.hp
  simp [hd] at c1 c0
  have H : Hid (HR w U p g d K) := ⟨x, h, hK⟩
  have go : decide (i < 0) = true ∨ decide (i < 0) = false ∧ decide ((d.L.length : Int) ≤ i) = true ∨ decide (i < 0) = false ∧ decide ((d.L.length : Int) ≤ i) = false ∧ decide ((64 : Int) < (n : Int)) = true := by simp; omega
  clear hi h
  rcases go with g1 | ⟨g1, g2⟩ | ⟨g1, g2, g3⟩
  all_goals
    go_enter Try.func99, Try.ntmps99
    go_wp2_with fail
    go_ret
    exact ⟨rfl, H.out, Kept.refl _ _⟩
set_option maxHeartbeats 1000000 in
theorem rwrite_fine (K : Int × ByteArray × ByteArray) (U : Nat → Prop) (p g : Nat) (d : DD) (x : RX) (w : World) (k : Nat) (A : Option Addr) (n m : Nat) (b old : List Nat) (h : HRc w U p g d x) (hK : (x.torn, x.was, x.meant) = K) (hd : d.down = false) (hk : d.L[k]? = some old) (hr : Rd w w.heap.size 1 A n (b.map bv)) (hn : n ≤ 64) (hb : ∀ c ∈ b, c < 256) (hw : d.writes < 1000000) :
    Calls Try.prog 99 #[.pointer (some ⟨p, 0, none⟩), .int .i64 k, .slice A n m] w (RWritePost (Kf d k b K) U p g w (d.write k b)) := by
  have hbl : b.length = n := by have := hr.1; simpa using this
  have hkl : k < d.L.length := (List.getElem?_eq_some_iff.1 hk).1
  have hl256 := h.ok.2.1
  have t1 : (0 : Int) ≤ (k : Int) := by omega
  have t2 : (k : Int) < (d.L.length : Int) := by omega
  have b1 : decide ((k : Int) < 0) = false := decide_eq_false (by omega)
  have b2 : decide (d.L.length ≤ k) = false := decide_eq_false (by omega)
  have b3 : decide ((64 : Int) < (n : Int)) = false := decide_eq_false (by omega)
  have hn' : (n : Int) ≤ 64 := by omega
  have c1 := cell_of_row w p 1 _ _ _ h.hp
  have c0 := cell_of_row w p 0 _ _ _ h.hp
  simp [hd] at c1 c0
  have kv : ∀ w', Below w.heap.size w w' → (convert 27 9 (.slice A n m)).run Try.prog w' = .ok (.string (bstr b)) w' := fun w' hw' => kcvR _ _ _ _ _ _ (hr.below hw')
  have H := Lib.hid h
  have Hd := Lib.hid hd
  have Hk := Lib.hid hk
  have Hbl := Lib.hid hbl
  clear h hd hk hbl hr
  go_enter Try.func99, Try.ntmps99
  go_wp2_with fail
  have hwr : IntKind.i64.wrap (64 - (n : Int)) = 64 - (n : Int) := IntWalk.i64_in _ (by omega)
  obtain ⟨Z, hZ⟩ : ∃ Z, Z = bstr (List.replicate (64 - n) 0) := ⟨_, rfl⟩
  have hap : bstr b ++ Z = bstr (pad b) := by rw [hZ, bstr_app, pad, Hbl.out]
  have hcs : (9223372036854775807 < (bstr b).size + Z.size) = False := by
    apply eq_false
    rw [hZ, bstr_size, bstr_size, Hbl.out, List.length_replicate]; omega
  have HZ := Lib.hid hZ
  clear hZ
  refine sk (fun w' => Below w.heap.size w w') 8 ?_ (fun hHeld => ?_)
  · (first | exact (Below.refl _ _).drew | assumption)
  refine tk 0 28 hHeld ?_
  refine tk 1 29 hHeld ?_
  refine tk 2 30 hHeld ?_
  refine tk 3 31 hHeld ?_
  refine tk 4 32 hHeld ?_
  refine bk 5 33 (fun K hK => ?_)
  go_simp
  (go_at_call 75; (with_reducible refine (zeros_any _ _ (64 - n) (by omega) (by omega)).mono ?_))
  rintro e w2 ⟨rfl, hbn⟩
  unfold sv
  rw [← HZ.out]
  have hHn := hHeld.trans (hbn.mono hHeld.size)
  refine hK.out _ _ ?_ (fun hHeld' => ?_)
  · (first | exact (Below.refl _ _).drew | assumption)
  clear hK K hHeld
  have hHeld := hHeld'
  clear hHeld'
  simp only [List.set_cons_zero, List.set_cons_succ]
  refine tk 6 34 hHeld ?_
  refine tk 7 7 hHeld ?_
  refine wpAnyH_done (by kernel_rfl) ?_ _
  refine NoPanic.normal ?_
  clear hap hcs hwr kv c0 c1
  have h2 := H.out.below hHeld
  have hK2 : Kept U w w2 := Kept.of hHeld H.out.old
  have c0 := cell_of_row w2 p 0 _ _ _ h2.hp
  have c2 := cell_of_row w2 p 2 _ _ _ h2.hp
  have c3 := cell_of_row w2 p 3 _ _ _ h2.hp
  have c4 := cell_of_row w2 p 4 _ _ _ h2.hp
  have cs := row_str h2.hg k old Hk.out
  have fp := fun j => frozen_of_row w2 p j _ _ h2.hp
  have fg := fun j => frozen_of_row w2 g j _ _ h2.hg
  simp at c0 c2 c3 c4
  have hpg : p ≠ g := h2.pg
  have hgp : g ≠ p := h2.pg.symm
  have hc3 : 0 ≤ (k : Int) ∧ (k : Int) < d.L.length ∧ b.length ≤ 64 := ⟨t1, t2, by have := Hbl.out; omega⟩
  have hpl := pad_len b (by have := Hbl.out; omega)
  have hg : d.L.getD k [] = old := by rw [List.getD_eq_getElem?_getD, Hk.out]; rfl
  have hdn : ¬ d.down = true := by rw [Hd.out]; simp
  have H2 := Lib.hid h2
  have hset : ∀ s : List Nat, (d.L.map sv ++ x.rest).toArray.setIfInBounds k (.string (bstr s)) = ((d.L.set k s).map sv ++ x.rest).toArray := fun s => by
    apply Array.ext'
    simp only [Array.toList_setIfInBounds]
    rw [List.set_append_left _ _ (by simpa using hkl), List.map_set]; rfl
  have Hset := Lib.hid hset
  have hs2 : Hid (∀ k, U k → k < w2.heap.size) := fun q hq => h2.old q hq
  clear hset
  rcases hcut : d.cut with _ | ⟨_ | a0, m0⟩
  · have e : d.write k b = (0, { d with L := d.L.set k (pad b), writes := d.writes + 1 }) := by
      rw [DD.write, if_neg hdn, if_pos hc3, hcut]; rfl
    have E := Lib.hid e
    rw [h2.cn hcut] at c2
    have HKf : Hid (Kf d k b K = (x.torn, x.was, x.meant)) := by show _ = _; unfold Kf; rw [hcut, hK]
    have Hcut := Lib.hid hcut
    clear h2 hcut e hg hc3 hpl
    go_wp2_with fail
    go_ret
    rw [E.out, HKf.out]
    have h2 := H2.out
    refine ⟨rfl, ⟨x, ⟨ok_put h2.ok k (pad b) (pad_len b (by have := Hbl.out; omega)) (pad_lt b hb) _ _ _ (by omega) h2.ok.2.2.2.2, fun q hq => by simpa [World.setCell] using hs2.out q hq, h2.pg, h2.up, h2.ug, ?_, ?_, by simpa using h2.hc, h2.h64, h2.cn, h2.cs⟩, rfl⟩, (hK2.setCell (p := ⟨g, k, none⟩) h2.ug _).setCell (p := ⟨p, 4, none⟩) h2.up _⟩
    · have := heap_set_same (j := 4) (.int .i64 ((d.writes : Int) + 1)) (heap_set_other (b' := g) (j := k) (.string (bstr (pad b))) h2.hp h2.pg)
      simpa using this
    · have := heap_set_other (b' := p) (j := 4) (.int .i64 ((d.writes : Int) + 1)) (heap_set_same (j := k) (.string (bstr (pad b))) h2.hg) h2.pg.symm
      rw [Hset.out] at this
      exact this
  · have e : d.write k b = (101, { d with L := d.L.set k ((pad b).take m0 ++ old.drop m0), down := true, cut := none }) := by
      rw [DD.write, if_neg hdn, if_pos hc3, hcut]
      simp only [Int.toNat_natCast, hg]
    have E := Lib.hid e
    have HKf : Hid (Kf d k b K = ((k : Int), bstr old, bstr (pad b))) := by show _ = _; unfold Kf; rw [hcut, hg]; rfl
    obtain ⟨e1, e2⟩ := h2.cs 0 m0 hcut
    rw [e1] at c2
    rw [e2] at c3
    have hm64 : m0 ≤ 64 := by have := h2.h64; omega
    have hm0 : (0 : Int) ≤ (m0 : Int) := by omega
    have hm1 : (m0 : Int) ≤ 64 := by omega
    have hol : old.length = 64 := (h2.ok.1 old (List.mem_of_getElem? Hk.out)).1
    have hob : ∀ c ∈ old, c < 256 := (h2.ok.1 old (List.mem_of_getElem? Hk.out)).2
    have x1 : (bstr (pad b)).extract 0 m0 = bstr ((pad b).take m0) := bstr_take _ m0 64 hpl hm64
    have x2 : (bstr old).extract m0 64 = bstr (old.drop m0) := bstr_drop _ m0 64 hol
    have s1 : (bstr (pad b)).size = 64 := by rw [bstr_size]; exact hpl
    have s2 : (bstr old).size = 64 := by rw [bstr_size]; exact hol
    have Hcut := Lib.hid hcut
    have Hpl := Lib.hid hpl
    have Hol := Lib.hid hol
    have Hob := Lib.hid hob
    have c1 := cell_of_row w2 p 1 _ _ _ h2.hp
    have c5 := cell_of_row w2 p 5 _ _ _ h2.hp
    have c6 := cell_of_row w2 p 6 _ _ _ h2.hp
    have c7 := cell_of_row w2 p 7 _ _ _ h2.hp
    simp at c1 c5 c6 c7 c2
    clear h2 hcut e hg hc3 hpl e1 e2 hol hob
    go_wp2_with fail
    obtain ⟨w5, hw5⟩ : ∃ W, W = ((w2.setCell ⟨p, 5, none⟩ (.int .i64 k)).setCell ⟨p, 6, none⟩ (.string (bstr old))).setCell ⟨p, 7, none⟩ (.string (bstr (pad b))) := ⟨_, rfl⟩
    rw [← hw5]
    have hp5 : w5.heap[p]? = some (.cells #[.slice (some ⟨g, 0, none⟩) d.L.length x.c, .bool d.down, .int .i64 x.after, .int .i64 x.bytes, .int .i64 d.writes, .int .i64 (k : Int), .string (bstr old), .string (bstr (pad b))] 119) := by
      rw [hw5]
      have := heap_set_same (j := 7) (.string (bstr (pad b))) (heap_set_same (j := 6) (.string (bstr old)) (heap_set_same (j := 5) (.int .i64 (k : Int)) H2.out.hp))
      simpa using this
    have hg5 : w5.heap[g]? = some (.cells (d.L.map sv ++ x.rest).toArray 9) := by
      rw [hw5]
      exact heap_set_other _ (heap_set_other _ (heap_set_other _ H2.out.hg hgp) hgp) hgp
    have hK5 : Kept U w w5 := by
      rw [hw5]
      exact ((hK2.setCell (p := ⟨p, 5, none⟩) H2.out.up _).setCell (p := ⟨p, 6, none⟩) H2.out.up _).setCell (p := ⟨p, 7, none⟩) H2.out.up _
    have hs5 : Hid (∀ k, U k → k < w5.heap.size) := fun q hq => by rw [hw5]; simpa [World.setCell] using hs2.out q hq
    have hb5 := (H2.out.cs 0 m0 Hcut.out).2
    clear hw5 c0 c1 c2 c3 c4 c5 c6 c7 cs fp fg
    have c0 := cell_of_row w5 p 0 _ _ _ hp5
    have c1 := cell_of_row w5 p 1 _ _ _ hp5
    have c2 := cell_of_row w5 p 2 _ _ _ hp5
    have c3 := cell_of_row w5 p 3 _ _ _ hp5
    have cs := row_str hg5 k old Hk.out
    have fp := fun j => frozen_of_row w5 p j _ _ hp5
    have fg := fun j => frozen_of_row w5 g j _ _ hg5
    rw [hb5] at c3
    simp at c0 c1 c2 c3
    have Hp5 := Lib.hid hp5
    have Hg5 := Lib.hid hg5
    have s3 : (bstr (List.take m0 (pad b))).size + (bstr (List.drop m0 old)).size = 64 := by
      rw [bstr_size, bstr_size, List.length_take, List.length_drop, Hpl.out, Hol.out]; omega
    have hap : bstr (List.take m0 (pad b)) ++ bstr (List.drop m0 old) = bstr (List.take m0 (pad b) ++ List.drop m0 old) := bstr_app _ _
    clear hp5 hg5 hb5
    go_still_tail 25, (by kernel_rfl)
    change wpList _ _ _ _ _ w5.drew
    go_wp2_with fail
    go_ret
    rw [E.out, HKf.out]
    have h2 := H2.out
    have hsl : (List.take m0 (pad b) ++ List.drop m0 old).length = 64 := by
      rw [List.length_append, List.length_take, List.length_drop, Hpl.out, Hol.out]; omega
    have hsb : ∀ c ∈ List.take m0 (pad b) ++ List.drop m0 old, c < 256 := fun c hc => by
      rcases List.mem_append.1 hc with hc | hc
      · exact pad_lt b hb c (List.mem_of_mem_take hc)
      · exact Hob.out c (List.mem_of_mem_drop hc)
    refine ⟨rfl, ⟨{ x with after := -1, torn := (k : Int), was := bstr old, meant := bstr (pad b) }, ⟨ok_put h2.ok k _ hsl hsb _ _ _ (by omega) (fun a b e => by cases e), fun q hq => by simpa [World.setCell] using hs5.out q hq, h2.pg, h2.up, h2.ug, ?_, ?_, by simpa using h2.hc, h2.h64, (fun _ => rfl), fun a b e => by cases e⟩, rfl⟩, ?_⟩
    · have := heap_set_same (j := 2) (.int .i64 (-1)) (heap_set_same (j := 1) (.bool true) (heap_set_other (b' := g) (j := k) (.string (bstr (List.take m0 (pad b) ++ List.drop m0 old))) Hp5.out h2.pg))
      rw [heap_drew]
      simpa using this
    · have := heap_set_other (b' := p) (j := 2) (.int .i64 (-1)) (heap_set_other (b' := p) (j := 1) (.bool true) (heap_set_same (j := k) (.string (bstr (List.take m0 (pad b) ++ List.drop m0 old))) Hg5.out) h2.pg.symm) h2.pg.symm
      rw [Hset.out] at this
      exact this
    · exact Kept.drew (((hK5.setCell (p := ⟨g, k, none⟩) h2.ug _).setCell (p := ⟨p, 1, none⟩) h2.up _).setCell (p := ⟨p, 2, none⟩) h2.up _)
  · have e : d.write k b = (0, { d with L := d.L.set k (pad b), writes := d.writes + 1, cut := some (a0, m0) }) := by
      rw [DD.write, if_neg hdn, if_pos hc3, hcut]; rfl
    have E := Lib.hid e
    have HKf : Hid (Kf d k b K = (x.torn, x.was, x.meant)) := (Kf_succ k b K hcut).trans hK.symm
    obtain ⟨e1, e2⟩ := h2.cs (a0 + 1) m0 hcut
    rw [e1] at c2
    have Hcut := Lib.hid hcut
    have ha0 : ((a0 : Int) + 1 == 0) = false := by rw [beq_eq_false_iff_ne]; omega
    have ha1 : decide (0 < (a0 : Int) + 1) = true := decide_eq_true (by omega)
    have ha2 : (a0 : Int) + 1 ≤ 9223372036854775807 := by have := (h2.ok.2.2.2.2 _ _ hcut).2; omega
    have hok : Hid (∀ a b, some (a0, m0) = some (a, b) → b ≤ 64 ∧ a ≤ 9223372036854775807) := fun a b e => by
      injection e with e; injection e with e3 e4
      have := h2.ok.2.2.2.2 _ _ hcut
      omega
    have He2 := Lib.hid e2
    clear h2 hcut e hg hc3 hpl e1 e2
    go_wp2_with fail
    go_ret
    rw [E.out, HKf.out]
    have h2 := H2.out
    refine ⟨rfl, ⟨{ x with after := (a0 : Int) }, ⟨ok_put h2.ok k (pad b) (pad_len b (by have := Hbl.out; omega)) (pad_lt b hb) _ _ _ (by omega) hok.out, fun q hq => by simpa [World.setCell] using hs2.out q hq, h2.pg, h2.up, h2.ug, ?_, ?_, by simpa using h2.hc, h2.h64, (fun e => by cases e), fun a b e => ?_⟩, rfl⟩, ((hK2.setCell (p := ⟨g, k, none⟩) h2.ug _).setCell (p := ⟨p, 4, none⟩) h2.up _).setCell (p := ⟨p, 2, none⟩) h2.up _⟩
    · have := heap_set_same (j := 2) (.int .i64 (a0 : Int)) (heap_set_same (j := 4) (.int .i64 ((d.writes : Int) + 1)) (heap_set_other (b' := g) (j := k) (.string (bstr (pad b))) h2.hp h2.pg))
      simpa using this
    · have := heap_set_other (b' := p) (j := 2) (.int .i64 (a0 : Int)) (heap_set_other (b' := p) (j := 4) (.int .i64 ((d.writes : Int) + 1)) (heap_set_same (j := k) (.string (bstr (pad b))) h2.hg) h2.pg.symm) h2.pg.symm
      rw [Hset.out] at this
      exact this
    · injection e with e; injection e with e3 e4
      exact ⟨by show (a0 : Int) = (a : Int); omega, by have := He2.out; show x.bytes = b; omega⟩


theorem info_str : (Try.prog.info? 9).map (fun i => (i.zero, i.size, i.bytes)) = some (some (.string ⟨#[]⟩), 1, 16) := by kernel_rfl
def rz : List Nat := List.replicate 64 0
def rowX (v : Value) : Obj := .cells #[v, .bool false, .int .i64 (-1), .int .i64 0, .int .i64 0, .int .i64 (-1), .string ⟨#[]⟩, .string ⟨#[]⟩] 119
theorem rows_snoc (j : Nat) : (List.replicate j rz).map sv ++ [sv rz] = (List.replicate (j + 1) rz).map sv := by
  rw [List.replicate_succ', List.map_append]; rfl
theorem rnew_close {w w' : World} {U : Nat → Prop} {m : Int} {n : Nat} {v : Value} (hU : ∀ k, U k → k < w.heap.size) (hn : min (max m 1) 256 = (n : Int)) (hrr : w'.heap[w.heap.size]? = some (rowX v)) (hor : w'.ownsRow (w.heap.size + 1) 9 1 v n ((List.replicate n rz).map sv)) (hs : w.heap.size < w'.heap.size) :
    ∃ g, w.heap.size < g ∧ HR w' U w.heap.size g (DD.fresh m) (-1, ⟨#[]⟩, ⟨#[]⟩) := by
  have hl : (DD.fresh m).L = List.replicate n rz := by unfold DD.fresh; rw [hn]; rfl
  rcases hor.2 with ⟨rfl, h0⟩ | ⟨g, cap, cur, rfl, hbg, hg, hnc, hmax, hcs, htake⟩
  · have := hn; omega
  · refine ⟨g, by omega, ⟨cap, -1, 0, -1, ⟨#[]⟩, ⟨#[]⟩, cur.toList.drop n⟩, ⟨ok_fresh m, fun k hk => by have := hU k hk; omega, by omega, fun hk => by have := hU _ hk; omega, fun hk => by have := hU _ hk; omega, ?_, ?_, by rw [hl]; simpa using hnc, Nat.zero_le _, fun _ => rfl, fun a b e => by cases e⟩, rfl⟩
    · rw [hrr, hl]; simp [rowX, DD.fresh]
    · rw [hg, hl, ← htake, Nat.mul_one, List.take_append_drop]
set_option maxHeartbeats 2000000 in
theorem rnew_any (U : Nat → Prop) (w : World) (m : Int) (hU : ∀ k, U k → k < w.heap.size) :
    Calls Try.prog 54 #[.int .i64 m] w fun e w' => e = .returned (.pointer (some ⟨w.heap.size, 0, none⟩)) ∧ (∃ g, w.heap.size < g ∧ HR w' U w.heap.size g (DD.fresh m) (-1, ⟨#[]⟩, ⟨#[]⟩)) ∧ Below w.heap.size w w' := by
  obtain ⟨n, hn⟩ : ∃ n : Nat, min (max m 1) 256 = (n : Int) := ⟨(min (max m 1) 256).toNat, by omega⟩
  have hn1 : 1 ≤ n := by omega
  have hn2 : n ≤ 256 := by omega
  obtain ⟨i0, hi, hz0, hz1, hz2⟩ := info_parts info_str
  obtain ⟨S, hS⟩ : ∃ S : ByteArray, sv (List.replicate 64 0) = .string S := ⟨_, rfl⟩
  have HS := Lib.hid hS
  have Hn := Lib.hid hn
  have Hi := Lib.hid hi
  have HU := Lib.hid hU
  clear hn hi hU hS
  go_enter Try.func54, Try.ntmps54
  go_wp2_with fail
  have hr0 : (w.alloc (rowX (.slice none 0 0))).heap[w.heap.size]? = some (rowX (.slice none 0 0)) := heap_alloc_new w _
  have ho0 : (w.alloc (rowX (.slice none 0 0))).ownsRow (w.heap.size + 1) 9 1 (.slice none 0 0) 0 ((List.replicate 0 rz).map sv) := World.ownsRow_nil _ _ _ _
  have hb0 : Below w.heap.size w (w.alloc (rowX (.slice none 0 0))) := (Below.refl _ _).alloc (Nat.le_refl _) _
  have hz0' : w.heap.size < (w.alloc (rowX (.slice none 0 0))).heap.size := by rw [World.size_alloc]; omega
  go_loopg [4] n (fun q i wr => ∃ (j : Nat) (v : Value), q + j = n ∧ i = .int .i64 j ∧ wr.heap[w.heap.size]? = some (rowX v) ∧ wr.ownsRow (w.heap.size + 1) 9 1 v j ((List.replicate j rz).map sv) ∧ Below w.heap.size w wr ∧ w.heap.size < wr.heap.size)
  case atStart => exact ⟨0, _, by omega, rfl, hr0, ho0, hb0, hz0'⟩
  case round =>
    obtain ⟨j, v, hj, rfl, hrr, hor, hbr, hzr⟩ := hrel
    clear hr0 ho0 hb0 hz0'
    have hi0 : (0 : Int) ≤ (j : Int) := by omega
    have hjn : j ≤ 256 := by omega
    have Hor := Lib.hid hor
    have Hrr := Lib.hid hrr
    have c0 := cell_of_row wr w.heap.size 0 _ _ _ hrr
    have f0 := frozen_of_row wr w.heap.size 0 _ _ hrr
    simp at c0
    have ho9 : Hid (∀ wn w7 : World, Below wr.heap.size wr wn → wn.grownBy w7 v.ownBlock → w7.heap[w.heap.size]? = some (rowX v)) := fun wn w7 h1 h2 => by
      rw [h2.block _ (by have := h1.size; omega) (fun e => ?_), h1.block _ hzr]
      · exact Hrr.out
      · have := (hor.lt _ e.symm).1; omega
    clear hor hrr
    have Hst : Hid (∀ (wn w7 : World) (A : Option Addr) (c : Nat), (∀ k, v.ownBlock = some k → w.heap.size + 1 ≤ k) → Below wr.heap.size wr wn → wn.grownBy w7 v.ownBlock → w7.ownsRow (w.heap.size + 1) 9 1 (.slice A (j + 1) c) (j + 1) ((List.replicate (j + 1) rz).map sv) →
        (w7.setCell ⟨w.heap.size, 0, none⟩ (.slice A (j + 1) c)).heap[w.heap.size]? = some (rowX (.slice A (j + 1) c)) ∧ (w7.setCell ⟨w.heap.size, 0, none⟩ (.slice A (j + 1) c)).ownsRow (w.heap.size + 1) 9 1 (.slice A (j + 1) c) (j + 1) ((List.replicate (j + 1) rz).map sv) ∧
        Below w.heap.size w (w7.setCell ⟨w.heap.size, 0, none⟩ (.slice A (j + 1) c)) ∧ w.heap.size < (w7.setCell ⟨w.heap.size, 0, none⟩ (.slice A (j + 1) c)).heap.size) := fun wn w7 A c h0 h1 h2 h3 => by
      have hr7 := ho9.out _ _ h1 h2
      refine ⟨?_, ?_, ?_, ?_⟩
      · have := heap_set_same (j := 0) (.slice A (j + 1) c) hr7
        simpa [rowX] using this
      · refine h3.kept (row := some w.heap.size) ⟨rfl, rfl, rfl, by simp [World.setCell], fun k hk hne => Below.heap_setCell _ _ _ _ (fun e => hne (by rw [e]))⟩ (.inr fun e => ?_)
        have := (h3.lt _ e).1; omega
      · exact ((hbr.trans (h1.mono hbr.size)).grown h2 (by have := h1.size; have := hbr.size; omega) (fun k hk => by have := h0 k hk; omega)).setCell (Nat.le_refl _) _
      · have := h2.size; have := h1.size; simp [World.setCell]; omega
    by_cases hlt : j < n
    · have go : m < 1 ∧ (j : Int) < 1 ∨ (1 ≤ m ∧ m ≤ 256) ∧ (j : Int) < m ∨ 256 < m ∧ (j : Int) < 256 := by have := Hn.out; omega
      rcases go with ⟨m1, j1⟩ | ⟨⟨m1, m2⟩, j1⟩ | ⟨m1, j1⟩
      all_goals
        go_wp2_with fail
        refine sk (fun _ => True) 11 ?_ (fun hHeld => ?_)
        · (trivial)
        refine tk 0 14 hHeld ?_
        refine tk 1 15 hHeld ?_
        refine tk 2 16 hHeld ?_
        refine tk 3 17 hHeld ?_
        refine wpAnyH_ready (rs := [4, 5]) (by kernel_rfl) (by simp) ?_
        refine (consH 4 18 #[true, true, true, true, true, false, false, false, false, false, false] rfl rfl rfl (by rfl) (fun K hK => ?_) (consH 5 19 #[true, true, true, true, false, true, false, false, false, false, false] rfl rfl rfl (by rfl) (fun K hK => ?_) AllReadyH.nil))
        · go_simp
          refine hK.out _ _ ?_ (fun hHeld' => ?_)
          · (trivial)
          clear hK K hHeld
          have hHeld := hHeld'
          clear hHeld'
          simp only [List.set_cons_zero, List.set_cons_succ]
          refine bk 5 19 (fun K hK => ?_)
          go_simp
          (go_at_call 75; (with_reducible refine (zeros_any _ 64 64 rfl (by decide)).mono ?_))
          rintro e w5 ⟨rfl, hb5⟩
          rw [HS.out]
          have hB5 : Below wr.heap.size wr w5 := ((Below.refl _ wr).drew).trans hb5
          have h5r : w5.heap[w.heap.size]? = some (rowX v) := (hB5.block _ hzr).trans Hrr.out
          have hz5 : w.heap.size < w5.heap.size := Nat.lt_of_lt_of_le hzr hB5.size
          have c5 := cell_of_row w5 w.heap.size 0 _ _ _ h5r
          simp at c5
          refine hK.out _ _ ?_ (fun hHeld' => ?_)
          · (trivial)
          clear hK K hHeld
          have hHeld := hHeld'
          clear hHeld'
          simp only [List.set_cons_zero, List.set_cons_succ]
          refine bk 6 20 (fun K hK => ?_)
          go_simp
          refine hK.out _ _ ?_ (fun hHeld' => ?_)
          · (trivial)
          clear hK K hHeld
          have hHeld := hHeld'
          clear hHeld'
          simp only [List.set_cons_zero, List.set_cons_succ]
          refine bk 7 21 (fun K hK => ?_)
          have hB6 : Below wr.heap.size wr (w5.alloc (.cells #[.string S] 9)) := hB5.alloc hB5.size _
          refine wp_app _ (.tmp 18) (.tmp 20) 117 rfl (w.heap.size + 1) 9 i0 (.string ⟨#[]⟩) 1 16 Try.underlying117 Hi.out hz0 hz1 hz2 rfl (by decide) v j _ rfl (own_below Hor.out hB6) (w5.heap.size + 1) (some ⟨w5.heap.size, 0, none⟩) 1 1 [.string S] rfl (rd_new w5 [.string S] 9 1 1 rfl) (by simp [Value.oneCell']) (by unfold maxLen; omega) (by omega) (by rw [World.size_alloc]; omega) ?_
          intro v7 w7 hown7 hg7 hat7
          have h7r := ho9.out _ _ hB6 hg7
          obtain ⟨A7, cc7, rfl⟩ := own_shape hown7
          have c7 := cell_of_row w7 w.heap.size 0 _ _ _ h7r
          simp at c7
          have f7 := frozen_of_row w7 w.heap.size 0 _ _ h7r
          refine hK.out _ _ ?_ (fun hHeld' => ?_)
          · (trivial)
          clear hK K hHeld
          have hHeld := hHeld'
          clear hHeld'
          simp only [List.set_cons_zero, List.set_cons_succ]
          refine tk 8 22 hHeld ?_
          refine tk 9 23 hHeld ?_
          refine bn 10 (fun K hK => ?_)
          go_simp
          first | refine hK.out undef _ ?_ (fun hHeld' => ?_) | refine hK.out _ _ ?_ (fun hHeld' => ?_)
          · (trivial)
          clear hK K hHeld
          have hHeld := hHeld'
          clear hHeld'
          try simp only [List.set_cons_zero, List.set_cons_succ]
          refine wpAnyH_done (by kernel_rfl) ?_ _
          refine NoPanic.normal ?_
          have hown7' : w7.ownsRow (w.heap.size + 1) 9 1 (.slice A7 (j + 1) cc7) (j + 1) ((List.replicate (j + 1) rz).map sv) := by
            rw [← rows_snoc]
            have hse : sv rz = .string S := HS.out
            rw [hse]; exact hown7
          obtain ⟨hA, hB, hC, hD⟩ := Hst.out _ _ _ _ (fun k hk => (Hor.out.lt k hk).1) hB6 hg7 hown7'
          go_wp2_with fail
          go_roundg (gk - 1)
          case measure => omega
          case rel => exact ⟨j + 1, _, by omega, by go_num, hA, hB, hC, hD⟩
        · go_simp
          (go_at_call 75; (with_reducible refine (zeros_any _ 64 64 rfl (by decide)).mono ?_))
          rintro e w5 ⟨rfl, hb5⟩
          rw [HS.out]
          have hB5 : Below wr.heap.size wr w5 := ((Below.refl _ wr).drew).trans hb5
          have h5r : w5.heap[w.heap.size]? = some (rowX v) := (hB5.block _ hzr).trans Hrr.out
          have hz5 : w.heap.size < w5.heap.size := Nat.lt_of_lt_of_le hzr hB5.size
          have c5 := cell_of_row w5 w.heap.size 0 _ _ _ h5r
          simp at c5
          refine hK.out _ _ ?_ (fun hHeld' => ?_)
          · (trivial)
          clear hK K hHeld
          have hHeld := hHeld'
          clear hHeld'
          simp only [List.set_cons_zero, List.set_cons_succ]
          refine wpAnyH_ready (rs := [4, 6]) (by kernel_rfl) (by simp) ?_
          refine (consH 4 18 #[true, true, true, true, true, true, false, false, false, false, false] rfl rfl rfl (by rfl) (fun K hK => ?_) (consH 6 20 #[true, true, true, true, false, true, true, false, false, false, false] rfl rfl rfl (by rfl) (fun K hK => ?_) AllReadyH.nil))
          · go_simp
            refine hK.out _ _ ?_ (fun hHeld' => ?_)
            · (trivial)
            clear hK K hHeld
            have hHeld := hHeld'
            clear hHeld'
            simp only [List.set_cons_zero, List.set_cons_succ]
            refine bk 6 20 (fun K hK => ?_)
            go_simp
            refine hK.out _ _ ?_ (fun hHeld' => ?_)
            · (trivial)
            clear hK K hHeld
            have hHeld := hHeld'
            clear hHeld'
            simp only [List.set_cons_zero, List.set_cons_succ]
            refine bk 7 21 (fun K hK => ?_)
            have hB6 : Below wr.heap.size wr (w5.alloc (.cells #[.string S] 9)) := hB5.alloc hB5.size _
            refine wp_app _ (.tmp 18) (.tmp 20) 117 rfl (w.heap.size + 1) 9 i0 (.string ⟨#[]⟩) 1 16 Try.underlying117 Hi.out hz0 hz1 hz2 rfl (by decide) v j _ rfl (own_below Hor.out hB6) (w5.heap.size + 1) (some ⟨w5.heap.size, 0, none⟩) 1 1 [.string S] rfl (rd_new w5 [.string S] 9 1 1 rfl) (by simp [Value.oneCell']) (by unfold maxLen; omega) (by omega) (by rw [World.size_alloc]; omega) ?_
            intro v7 w7 hown7 hg7 hat7
            have h7r := ho9.out _ _ hB6 hg7
            obtain ⟨A7, cc7, rfl⟩ := own_shape hown7
            have c7 := cell_of_row w7 w.heap.size 0 _ _ _ h7r
            simp at c7
            have f7 := frozen_of_row w7 w.heap.size 0 _ _ h7r
            refine hK.out _ _ ?_ (fun hHeld' => ?_)
            · (trivial)
            clear hK K hHeld
            have hHeld := hHeld'
            clear hHeld'
            simp only [List.set_cons_zero, List.set_cons_succ]
            refine tk 8 22 hHeld ?_
            refine tk 9 23 hHeld ?_
            refine bn 10 (fun K hK => ?_)
            go_simp
            first | refine hK.out undef _ ?_ (fun hHeld' => ?_) | refine hK.out _ _ ?_ (fun hHeld' => ?_)
            · (trivial)
            clear hK K hHeld
            have hHeld := hHeld'
            clear hHeld'
            try simp only [List.set_cons_zero, List.set_cons_succ]
            refine wpAnyH_done (by kernel_rfl) ?_ _
            refine NoPanic.normal ?_
            have hown7' : w7.ownsRow (w.heap.size + 1) 9 1 (.slice A7 (j + 1) cc7) (j + 1) ((List.replicate (j + 1) rz).map sv) := by
              rw [← rows_snoc]
              have hse : sv rz = .string S := HS.out
              rw [hse]; exact hown7
            obtain ⟨hA, hB, hC, hD⟩ := Hst.out _ _ _ _ (fun k hk => (Hor.out.lt k hk).1) hB6 hg7 hown7'
            go_wp2_with fail
            go_roundg (gk - 1)
            case measure => omega
            case rel => exact ⟨j + 1, _, by omega, by go_num, hA, hB, hC, hD⟩
          · go_simp
            refine hK.out _ _ ?_ (fun hHeld' => ?_)
            · (trivial)
            clear hK K hHeld
            have hHeld := hHeld'
            clear hHeld'
            simp only [List.set_cons_zero, List.set_cons_succ]
            refine bk 4 18 (fun K hK => ?_)
            go_simp
            refine hK.out _ _ ?_ (fun hHeld' => ?_)
            · (trivial)
            clear hK K hHeld
            have hHeld := hHeld'
            clear hHeld'
            simp only [List.set_cons_zero, List.set_cons_succ]
            refine bk 7 21 (fun K hK => ?_)
            have hB6 : Below wr.heap.size wr (w5.alloc (.cells #[.string S] 9)) := hB5.alloc hB5.size _
            refine wp_app _ (.tmp 18) (.tmp 20) 117 rfl (w.heap.size + 1) 9 i0 (.string ⟨#[]⟩) 1 16 Try.underlying117 Hi.out hz0 hz1 hz2 rfl (by decide) v j _ rfl (own_below Hor.out hB6) (w5.heap.size + 1) (some ⟨w5.heap.size, 0, none⟩) 1 1 [.string S] rfl (rd_new w5 [.string S] 9 1 1 rfl) (by simp [Value.oneCell']) (by unfold maxLen; omega) (by omega) (by rw [World.size_alloc]; omega) ?_
            intro v7 w7 hown7 hg7 hat7
            have h7r := ho9.out _ _ hB6 hg7
            obtain ⟨A7, cc7, rfl⟩ := own_shape hown7
            have c7 := cell_of_row w7 w.heap.size 0 _ _ _ h7r
            simp at c7
            have f7 := frozen_of_row w7 w.heap.size 0 _ _ h7r
            refine hK.out _ _ ?_ (fun hHeld' => ?_)
            · (trivial)
            clear hK K hHeld
            have hHeld := hHeld'
            clear hHeld'
            simp only [List.set_cons_zero, List.set_cons_succ]
            refine tk 8 22 hHeld ?_
            refine tk 9 23 hHeld ?_
            refine bn 10 (fun K hK => ?_)
            go_simp
            first | refine hK.out undef _ ?_ (fun hHeld' => ?_) | refine hK.out _ _ ?_ (fun hHeld' => ?_)
            · (trivial)
            clear hK K hHeld
            have hHeld := hHeld'
            clear hHeld'
            try simp only [List.set_cons_zero, List.set_cons_succ]
            refine wpAnyH_done (by kernel_rfl) ?_ _
            refine NoPanic.normal ?_
            have hown7' : w7.ownsRow (w.heap.size + 1) 9 1 (.slice A7 (j + 1) cc7) (j + 1) ((List.replicate (j + 1) rz).map sv) := by
              rw [← rows_snoc]
              have hse : sv rz = .string S := HS.out
              rw [hse]; exact hown7
            obtain ⟨hA, hB, hC, hD⟩ := Hst.out _ _ _ _ (fun k hk => (Hor.out.lt k hk).1) hB6 hg7 hown7'
            go_wp2_with fail
            go_roundg (gk - 1)
            case measure => omega
            case rel => exact ⟨j + 1, _, by omega, by go_num, hA, hB, hC, hD⟩
    · have go : m < 1 ∧ ¬ (j : Int) < 1 ∨ (1 ≤ m ∧ m ≤ 256) ∧ ¬ (j : Int) < m ∨ 256 < m ∧ ¬ (j : Int) < 256 := by have := Hn.out; omega
      have hjn : j = n := by omega
      subst hjn
      rcases go with ⟨m1, j1⟩ | ⟨⟨m1, m2⟩, j1⟩ | ⟨m1, j1⟩
      all_goals
        go_wp2_with fail
        go_ret
        exact ⟨rfl, rnew_close HU.out Hn.out Hrr.out Hor.out hzr, hbr⟩
end Go.Proofs.Ytcdgaeenfhpnkaa.Cr
