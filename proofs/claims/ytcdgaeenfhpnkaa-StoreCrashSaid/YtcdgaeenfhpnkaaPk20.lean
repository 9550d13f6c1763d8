/- Package store: the reader. -/
import Derived.Test.YtcdgaeenfhpnkaaPk19
set_option linter.unusedVariables false
set_option linter.unusedSimpArgs false
set_option maxRecDepth 100000
namespace Go.Proofs.Ytcdgaeenfhpnkaa
open Go Go.RowKit
attribute [local go_sem] Oper.semAt_some

structure Rr where
  b : List Nat
  wrong : Bool
def Rr.one (r : Rr) : Nat × Rr := match r.b with
  | [] => (0, ⟨[], true⟩)
  | x :: t => (x, ⟨t, r.wrong⟩)
def Rr.check (r : Rr) (p : Bool) : Rr := ⟨r.b, r.wrong || !p⟩
/-- the reader in memory; what it reads lies below block B -/
def RdrAt (w : World) (rb B : Nat) (r : Rr) : Prop := (∃ A n c, w.heap[rb]? = some (.cells #[.slice A n c, .bool r.wrong] 57) ∧ Rd w B 1 A n (r.b.map bv) ∧ n ≤ c ∧ c ≤ maxLen) ∧ B ≤ rb ∧ ∀ x ∈ r.b, x < 256
theorem RdrAt.lt {w : World} {rb B : Nat} {r : Rr} (h : RdrAt w rb B r) : rb < w.heap.size := by
  obtain ⟨⟨A, n, c, h, _⟩, _⟩ := h
  exact (Array.getElem?_eq_some_iff.1 h).1
theorem RdrAt.below {w w' : World} {rb B : Nat} {r : Rr} (h : RdrAt w rb B r) (hb : Below w.heap.size w w') : RdrAt w' rb B r := by
  have hlt := h.lt
  obtain ⟨⟨A, n, c, h1, h2, h3⟩, hB, h4⟩ := h
  exact ⟨⟨A, n, c, (hb.block rb hlt).trans h1, h2.below (hb.mono (by omega)), h3⟩, hB, h4⟩
def OnePost (rb B : Nat) (w : World) (x : Nat) (r : Rr) (e : Ending) (w' : World) : Prop := e = .returned (.int .u8 x) ∧ RdrAt w' rb B r ∧ Chg (fun k => k = rb) w w'
theorem rdr_set {w : World} {rb B j : Nat} {A A' : Option Addr} {n c n' c' : Nat} {g g' : Bool} {b' : List Nat} (u : Value) (hh : w.heap[rb]? = some (.cells #[.slice A n c, .bool g] 57)) (hB : B ≤ rb)
    (hc : (#[Value.slice A n c, .bool g] : Array Value).setIfInBounds j u = #[.slice A' n' c', .bool g']) (hr : Rd w B 1 A' n' (b'.map bv)) (hn : n' ≤ c') (hm : c' ≤ maxLen) (hx : ∀ x ∈ b', x < 256) :
    RdrAt (w.setCell ⟨rb, j, none⟩ u) rb B ⟨b', g'⟩ ∧ Chg (fun k => k = rb) w (w.setCell ⟨rb, j, none⟩ u) := by
  refine ⟨⟨⟨A', n', c', ?_, ?_, hn, hm⟩, hB, hx⟩, ?_⟩
  · have := heap_set_same (j := j) u hh
    rw [hc] at this
    exact this
  · exact hr.keep fun p hp => World.cell?_of_block (Below.heap_setCell _ _ _ _ (by show p.block ≠ rb; omega))
  · exact Chg.grown (grown_setj w rb j u) (fun g e => by injection e with e; exact e.symm)
set_option maxHeartbeats 2000000 in
theorem one_any (rb B : Nat) (r : Rr) (w : World) (h : RdrAt w rb B r) :
    Calls Try.prog 33 #[.pointer (some ⟨rb, 0, none⟩)] w (OnePost rb B w r.one.1 r.one.2) := by
  obtain ⟨bs, wr⟩ := r
  obtain ⟨⟨A, n, c, hh, hr, hn, hm⟩, hB, hx⟩ := h
  dsimp only at hh hr hx
  have c0 := cell_of_row w rb 0 _ _ _ hh
  have c1 := cell_of_row w rb 1 _ _ _ hh
  have f0 := frozen_of_row w rb 0 _ _ hh
  have f1 := frozen_of_row w rb 1 _ _ hh
  simp at c0 c1
  have hbl : bs.length = n := by have := hr.1; simpa using this
  have hn63 : n ≤ 9223372036854775807 := by unfold maxLen at hm; omega
  cases bs with
  | nil =>
    obtain rfl : n = 0 := by simpa using hbl.symm
    have fin := rdr_set (j := 1) (.bool true) hh hB (A' := A) (n' := 0) (c' := c) (g' := true) rfl hr (b' := []) (by omega) hm (by simp)
    have Fin := Lib.hid fin
    clear fin hh hr
    go_enter Try.func33, Try.ntmps33
    go_wp2_with fail
    go_ret
    exact ⟨rfl, Fin.out.1, Fin.out.2⟩
  | cons x t =>
    obtain ⟨g, o, rfl, hg, hc⟩ := hr.2 (by simp at hbl; omega)
    have k0 := hc 0 (bv x) rfl
    rw [Nat.add_zero] at k0
    obtain ⟨m, rfl⟩ : ∃ m, n = m + 1 := ⟨t.length, by simpa using hbl.symm⟩
    have htl : t.length = m := by simpa using hbl
    have hrt : Rd w B 1 (some ⟨g, o + 1, none⟩) m (t.map bv) := ⟨by simp [htl], fun _ => ⟨g, o + 1, rfl, hg, fun j u hj => by
      have := hc (j + 1) u (by simpa using hj)
      rwa [show o + 1 + j = o + (j + 1) by omega]⟩⟩
    unfold bv at k0
    have Hh := Lib.hid hh
    have Hrt := Lib.hid hrt
    have hx0 : x < 256 := hx x (by simp)
    clear hc hh hr hrt hbl
    go_enter Try.func33, Try.ntmps33
    go_wp2_with fail
    · obtain rfl : m = 0 := by omega
      obtain rfl : t = [] := List.eq_nil_of_length_eq_zero htl
      have fin := rdr_set (j := 0) (.slice (some ⟨g, o, none⟩) 0 0) Hh.out hB (A' := some ⟨g, o, none⟩) (n' := 0) (c' := 0) (g' := wr) rfl (Rd.nil_ _ _ _ _) (b' := []) (Nat.le_refl _) (by simp [maxLen]) (by simp)
      go_ret
      exact ⟨rfl, fin.1, fin.2⟩
    · have fin := rdr_set (j := 0) (.slice (some ⟨g, o + 1, none⟩) m (c - 1)) Hh.out hB (A' := some ⟨g, o + 1, none⟩) (n' := m) (c' := c - 1) (g' := wr) rfl Hrt.out (b' := t) (by omega) (by omega) (fun y hy => hx y (by simp [hy]))
      go_ret
      exact ⟨rfl, fin.1, fin.2⟩
theorem check_any (rb B : Nat) (r : Rr) (p : Bool) (w : World) (h : RdrAt w rb B r) :
    Calls Try.prog 34 #[.pointer (some ⟨rb, 0, none⟩), .bool p] w fun e w' => e = .returned (.tuple #[]) ∧ RdrAt w' rb B (r.check p) ∧ Chg (fun k => k = rb) w w' := by
  have h0 := h
  obtain ⟨bs, wr⟩ := r
  obtain ⟨⟨A, n, c, hh, hr, hn, hm⟩, hB, hx⟩ := h
  dsimp only at hh hr hx
  cases p
  · have f1 := frozen_of_row w rb 1 _ _ hh
    have c1 := cell_of_row w rb 1 _ _ _ hh
    simp at c1
    have fin := rdr_set (j := 1) (.bool true) hh hB (A' := A) (n' := n) (c' := c) (g' := true) rfl hr hn hm hx
    have Fin := Lib.hid fin
    clear fin hh hr h0
    go_enter Try.func34, Try.ntmps34
    go_wp2_with fail
    go_end0
    refine ⟨rfl, ?_, Fin.out.2⟩
    have e : (Rr.check ⟨bs, wr⟩ false) = ⟨bs, true⟩ := by simp [Rr.check]
    rw [e]; exact Fin.out.1
  · have H0 := Lib.hid h0
    clear hh hr h0
    go_enter Try.func34, Try.ntmps34
    go_wp2_with fail
    go_end0
    refine ⟨rfl, ?_, Chg.refl _ _⟩
    have e : (Rr.check ⟨bs, wr⟩ true) = ⟨bs, wr⟩ := by simp [Rr.check]
    rw [e]; exact H0.out
theorem one_lt (r : Rr) (h : ∀ x ∈ r.b, x < 256) : r.one.1 < 256 := by
  obtain ⟨bs, wr⟩ := r
  cases bs with
  | nil => show 0 < 256; omega
  | cons x t => exact h x (by simp)
theorem RdrAt.bytes {w : World} {rb B : Nat} {r : Rr} (h : RdrAt w rb B r) : ∀ x ∈ r.b, x < 256 := h.2.2
def Rr.many (r : Rr) (most : Nat) : Nat × Rr := (min r.one.1 most, r.one.2.check (decide (r.one.1 ≤ most)))
theorem many_rd (rb B most : Nat) (r : Rr) (w : World) (h : RdrAt w rb B r) (hm : most ≤ 255) :
    Calls Try.prog 26 #[.pointer (some ⟨rb, 0, none⟩), .int .i64 most] w fun e w' => e = .returned (.int .i64 (r.many most).1) ∧ RdrAt w' rb B (r.many most).2 ∧ Chg (fun k => k = rb) w w' := by
  obtain ⟨x, r1, hx⟩ : ∃ x r1, r.one = (x, r1) := ⟨_, _, rfl⟩
  have hlt := one_lt r h.bytes
  have e1 : (r.many most).1 = min x most := by unfold Rr.many; rw [hx]
  have e2 : (r.many most).2 = r1.check (decide (x ≤ most)) := by unfold Rr.many; rw [hx]
  rw [e1, e2]
  rw [hx] at hlt
  dsimp only at hlt
  have Hx := Lib.hid hx
  have H := Lib.hid h
  have hmI : (most : Int) ≤ 255 := by omega
  have hxI : (x : Int) < 256 := by omega
  clear h hx e1 e2
  by_cases hle : (x : Int) ≤ (most : Int)
  all_goals
    go_enter Try.func26, Try.ntmps26
    go_wp2_with (first
      | (go_at_call 33; (with_reducible refine (one_any rb B r w H.out).mono ?_)
         rintro e w1 ⟨he, hr1, hc1⟩
         rw [Hx.out] at he hr1
         subst he
         have HR1 := Lib.hid hr1
         have HC1 := Lib.hid hc1
         clear hr1 hc1)
      | (go_at_call 34; (with_reducible refine (check_any rb B r1 _ w1 HR1.out).mono ?_)
         rintro e w2 ⟨rfl, hr2, hc2⟩
         have HR2 := Lib.hid hr2
         have HC2 := Lib.hid (HC1.out.trans hc2)
         clear hr2 hc2))
    go_ret
    refine ⟨ret_int (by omega), ?_, HC2.out⟩
    first
      | exact HR2.out
      | (rw [decide_eq_true (by omega : x ≤ most)]; exact HR2.out)
theorem one_bytes (r : Rr) (h : ∀ x ∈ r.b, x < 256) : ∀ x ∈ r.one.2.b, x < 256 := by
  obtain ⟨bs, wr⟩ := r
  cases bs with
  | nil => simp [Rr.one]
  | cons x t => exact fun y hy => h y (List.mem_cons_of_mem _ hy)
def Rr.timeN : Nat → Rr → Nat × Rr
  | 0, r => (0, r)
  | k + 1, r => ((r.timeN k).1 * 256 + (r.timeN k).2.one.1, (r.timeN k).2.one.2)
def Rr.time (r : Rr) : Nat × Rr := ((r.timeN 6).1, (r.timeN 6).2.check (decide (okT (r.timeN 6).1)))
theorem timeN_lt (r : Rr) (h : ∀ x ∈ r.b, x < 256) : ∀ k, (r.timeN k).1 < 256 ^ k ∧ ∀ x ∈ (r.timeN k).2.b, x < 256
  | 0 => ⟨by simp [Rr.timeN], h⟩
  | k + 1 => by
    obtain ⟨h1, h2⟩ := timeN_lt r h k
    refine ⟨?_, one_bytes _ h2⟩
    show (r.timeN k).1 * 256 + (r.timeN k).2.one.1 < 256 ^ k * 256
    have := one_lt _ h2
    omega
theorem or_byte48 (a b : Nat) (ha : a < 1099511627776) (hb : b < 256) : bits .or .i64 ((a : Int) * 256) (b : Int) = ((a * 256 + b : Nat) : Int) := by
  have h := bits_or_i64_nat (2 ^ 8 * a) b (by omega) (by omega)
  rw [← Nat.two_pow_add_eq_or_of_lt (i := 8) (by omega) a] at h
  rw [show ((a : Int) * 256) = ((2 ^ 8 * a : Nat) : Int) by omega, h]
  omega
set_option maxHeartbeats 2000000 in
theorem time_rd (rb B : Nat) (r : Rr) (w : World) (h : RdrAt w rb B r) :
    Calls Try.prog 30 #[.pointer (some ⟨rb, 0, none⟩)] w fun e w' => e = .returned (.int .i64 r.time.1) ∧ RdrAt w' rb B r.time.2 ∧ Chg (fun k => k = rb) w w' := by
  have hby := h.bytes
  have H := Lib.hid h
  have Hby := Lib.hid hby
  clear h hby
  go_enter Try.func30, Try.ntmps30
  go_wp2_with fail
  go_loopg [3, 4] 6 (fun k a i wr => ∃ j : Nat, k + j = 6 ∧ i = .int .i64 j ∧ a = .int .i64 (r.timeN j).1 ∧ RdrAt wr rb B (r.timeN j).2 ∧ Chg (fun k => k = rb) w wr)
  case atStart => exact ⟨0, rfl, rfl, rfl, H.out, Chg.refl _ _⟩
  case round =>
    obtain ⟨j, hj, rfl, rfl, hrd, hcg⟩ := hrel
    by_cases hlt : j < 6
    · have hi0 : (j : Int) < 6 := by omega
      obtain ⟨a, ha⟩ : ∃ a, a = (r.timeN j).1 := ⟨_, rfl⟩
      obtain ⟨r1, hr1⟩ : ∃ r1, r1 = (r.timeN j).2 := ⟨_, rfl⟩
      obtain ⟨x, r2, hx⟩ : ∃ x r2, r1.one = (x, r2) := ⟨_, _, rfl⟩
      have hal : a < 1099511627776 := by
        have := (timeN_lt r Hby.out j).1
        rw [← ha] at this
        have h5 : 256 ^ j ≤ 256 ^ 5 := Nat.pow_le_pow_right (by omega) (by omega)
        omega
      have hxl : x < 256 := by
        have := one_lt r1 (by rw [hr1]; exact (timeN_lt r Hby.out j).2)
        rw [hx] at this; exact this
      have hnx : r.timeN (j + 1) = (a * 256 + x, r2) := by
        show ((r.timeN j).1 * 256 + (r.timeN j).2.one.1, (r.timeN j).2.one.2) = _
        rw [← ha, ← hr1, hx]
      rw [← hr1] at hrd
      rw [← ha]
      have hor := or_byte48 a x hal hxl
      have Hor := Lib.hid hor
      have Hx := Lib.hid hx
      have Hrd := Lib.hid hrd
      have Hcg := Lib.hid hcg
      have Hnx := Lib.hid hnx
      have haI : (a : Int) < 1099511627776 := by omega
      have hxI : (x : Int) < 256 := by omega
      clear ha hr1 hx hrd hcg hnx hor
      go_wp2_with (first
        | (go_at_call 33; (with_reducible refine (one_any rb B r1 _ Hrd.out).mono ?_)
           rintro e w1 ⟨he, hr1, hc1⟩
           rw [Hx.out] at he hr1
           subst he
           have HR1 := Lib.hid hr1
           have HC1 := Lib.hid (Hcg.out.trans hc1)
           clear hr1 hc1))
      rw [Hor.out]
      go_roundg (gk - 1)
      case measure => omega
      case rel => exact ⟨j + 1, by omega, by go_num, by rw [Hnx.out], by rw [Hnx.out]; exact HR1.out, HC1.out⟩
    · obtain rfl : j = 6 := by omega
      have Hrd := Lib.hid hrd
      have Hcg := Lib.hid hcg
      clear hrd hcg hlt
      go_wp2_with (first
        | (go_at_call 63; (with_reducible refine (rightTime_any _ _).mono ?_)
           rintro e w1 ⟨rfl, rfl⟩)
        | (go_at_call 34; (with_reducible refine (check_any rb B _ _ _ Hrd.out).mono ?_)
           rintro e w2 ⟨rfl, hr2, hc2⟩
           have HR2 := Lib.hid hr2
           have HC2 := Lib.hid (Hcg.out.trans hc2)
           clear hr2 hc2))
      go_ret
      exact ⟨rfl, HR2.out, HC2.out⟩
/-! ### a latch -/
theorem rdr_other {w : World} {rb B b j : Nat} {r : Rr} (u : Value) (h : RdrAt w rb B r) (hb : b ≠ rb) (hB : B ≤ b) : RdrAt (w.setCell ⟨b, j, none⟩ u) rb B r := by
  obtain ⟨⟨A, n, c, h1, h2, h3⟩, hBr, h4⟩ := h
  exact ⟨⟨A, n, c, heap_set_other u h1 (fun e => hb e.symm), h2.keep fun p hp => World.cell?_of_block (Below.heap_setCell _ _ _ _ (by show p.block ≠ b; omega)), h3⟩, hBr, h4⟩
theorem Chg.setNew {X : Nat → Prop} {w w' : World} {b : Nat} (h : Chg X w w') (hb : w.heap.size ≤ b) (j : Nat) (u : Value) : Chg X w (w'.setCell ⟨b, j, none⟩ u) :=
  ⟨h.os, h.tape, h.output, by simpa [World.setCell] using h.size, fun i hi => (Below.heap_setCell _ _ _ _ (by show i ≠ b; have := hi.1; omega)).trans (h.block i hi)⟩
theorem and_1 : ∀ h : Fin 256, bits .and .u8 ((h.val : Nat) : Int) 1 = ((h.val % 2 : Nat) : Int) := by decide +kernel
theorem and_2 : ∀ h : Fin 256, bits .and .u8 ((h.val : Nat) : Int) 2 = ((h.val / 2 % 2 * 2 : Nat) : Int) := by decide +kernel
def latchOf (h t : Nat) : Lt := ⟨decide (h % 2 = 1), t, decide (h / 2 % 2 = 1)⟩
def Rr.latch (r : Rr) : Lt × Rr := (latchOf r.one.1 r.one.2.time.1, r.one.2.time.2.check (decide (r.one.1 ≤ 3) && decide (okL (latchOf r.one.1 r.one.2.time.1))))
theorem time_bytes (r : Rr) (h : ∀ x ∈ r.b, x < 256) : ∀ x ∈ r.time.2.b, x < 256 := (timeN_lt r h 6).2
set_option maxHeartbeats 4000000 in
theorem latch_rd (rb B : Nat) (r : Rr) (w : World) (h : RdrAt w rb B r) :
    Calls Try.prog 28 #[.pointer (some ⟨rb, 0, none⟩)] w fun e w' => e = .returned (.agg #[.bool r.latch.1.set, .int .i64 r.latch.1.at_, .bool r.latch.1.first]) ∧ RdrAt w' rb B r.latch.2 ∧ Chg (fun k => k = rb) w w' := by
  obtain ⟨x, r1, hx⟩ : ∃ x r1, r.one = (x, r1) := ⟨_, _, rfl⟩
  obtain ⟨t, r2, ht⟩ : ∃ t r2, r1.time = (t, r2) := ⟨_, _, rfl⟩
  have hxl : x < 256 := by have := one_lt r h.bytes; rw [hx] at this; exact this
  have hl : r.latch = (latchOf x t, r2.check (decide (x ≤ 3) && decide (okL (latchOf x t)))) := by
    unfold Rr.latch
    rw [hx]
    show (latchOf x r1.time.1, r1.time.2.check _) = _
    rw [ht]
  rw [hl]
  obtain ⟨s, hs⟩ : ∃ s, s = decide (x % 2 = 1) := ⟨_, rfl⟩
  obtain ⟨f, hf⟩ : ∃ f, f = decide (x / 2 % 2 = 1) := ⟨_, rfl⟩
  have hlo : latchOf x t = ⟨s, t, f⟩ := by rw [hs, hf]; rfl
  rw [hlo]
  have a1 : (bits .and .u8 (x : Int) 1 != 0) = s := by
    rw [and_1 ⟨x, hxl⟩, hs, Bool.eq_iff_iff]
    simp only [bne_iff_ne, decide_eq_true_eq]
    omega
  have a2 : (bits .and .u8 (x : Int) 2 != 0) = f := by
    rw [and_2 ⟨x, hxl⟩, hf, Bool.eq_iff_iff]
    simp only [bne_iff_ne, decide_eq_true_eq]
    omega
  have al : ∀ (w : World) (o : Obj), Below w.heap.size w (w.alloc o) := fun w o => (Below.refl _ _).alloc (Nat.le_refl _) _
  have Al := Lib.hid al
  have Hx := Lib.hid hx
  have Ht := Lib.hid ht
  have H := Lib.hid (h.below (al w (.cells #[.bool false, .int .i64 0, .bool false] 61)))
  have A1 := Lib.hid a1
  have A2 := Lib.hid a2
  have hne : rb ≠ w.heap.size := by have := h.lt; omega
  clear h hx ht hl hs hf hlo a1 a2 al
  have hres : (w.alloc (.cells #[.bool false, .int .i64 0, .bool false] 61)).heap[w.heap.size]? = some (.cells #[.bool false, .int .i64 0, .bool false] 61) := heap_alloc_new _ _
  have Hres := Lib.hid hres
  obtain ⟨wa, hwa⟩ : ∃ x, x = w.alloc (.cells #[.bool false, .int .i64 0, .bool false] 61) := ⟨_, rfl⟩
  have hza : wa.heap.size = w.heap.size + 1 := by rw [hwa]; simp
  rw [← hwa] at H Hres
  have Hwa := Lib.hid hwa
  have Hza := Lib.hid hza
  have hca : Chg (fun k => k = rb) w wa := by rw [hwa]; exact Chg.of (Al.out w _)
  have Hca := Lib.hid hca
  have hBr : B ≤ rb := H.out.2.1
  have hrl : rb < wa.heap.size := H.out.lt
  have hBw : B ≤ w.heap.size := by omega
  clear hwa hza hca hres
  have hx3 : x ≤ 3 ∨ ¬ x ≤ 3 := by omega
  rcases hx3 with hx3 | hx3
  all_goals
    go_enter Try.func28, Try.ntmps28
    go_wp2_with (first
      | (rw [← Hwa.out]
         go_at_call 33; (with_reducible refine (one_any rb B r _ H.out).mono ?_)
         rintro e w1 ⟨he, hr1, hc1⟩
         rw [Hx.out] at he hr1
         subst he
         have hs1 := hc1.size
         have HR1 := Lib.hid (hr1.below (Al.out w1 (.cells #[.bool s, .int .i64 0, .bool f] 61)))
         have HC1 := Lib.hid (Hca.out.trans hc1)
         have hr01 : w1.heap[w.heap.size]? = _ := (hc1.at_ (by have := Hza.out; omega) (fun e => hne e.symm)).trans Hres.out
         have HR01 := Lib.hid hr01
         have Hs1 := Lib.hid hs1
         clear hr1 hc1 hr01 hs1)
      | (rw [A1.out, A2.out]
         go_at_call 30; (with_reducible refine (time_rd rb B r1 _ HR1.out).mono ?_)
         rintro e w2 ⟨he, hr2, hc2⟩
         rw [Ht.out] at he hr2
         subst he
         have hs2 := hc2.size
         rw [World.size_alloc] at hs2
         have hbox2 : w2.heap[w1.heap.size]? = some (.cells #[.bool s, .int .i64 0, .bool f] 61) := (hc2.at_ (by rw [World.size_alloc]; omega) (by have := Hs1.out; show ¬ _ = rb; omega)).trans (heap_alloc_new w1 _)
         have hres2 : w2.heap[w.heap.size]? = _ := (hc2.at_ (by rw [World.size_alloc]; have := Hs1.out; have := Hza.out; omega) (fun e => hne e.symm)).trans (heap_alloc_keep _ HR01.out)
         have g2 := frozen_of_row w2 w1.heap.size 1 _ _ hbox2
         have hn1 : w1.heap.size ≠ w.heap.size := by have := Hs1.out; have := Hza.out; omega
         have hbox3 := heap_set_same (j := 1) (.int .i64 (t : Int)) hbox2
         have hres3 : (w2.setCell ⟨w1.heap.size, 1, none⟩ (.int .i64 (t : Int))).heap[w.heap.size]? = _ := heap_set_other (b' := w1.heap.size) (j := 1) (.int .i64 (t : Int)) hres2 hn1.symm
         have y0 := cell_of_row w2 w1.heap.size 0 _ _ _ hbox2
         have y1 := cell_of_row w2 w1.heap.size 1 _ _ _ hbox2
         have y2 := cell_of_row w2 w1.heap.size 2 _ _ _ hbox2
         simp at y0 y1 y2
         have hr3 := rdr_other (b := w1.heap.size) (j := 1) (.int .i64 (t : Int)) hr2 (by have := Hs1.out; omega) (by have := Hs1.out; omega)
         have HR3 := Lib.hid hr3
         have HR2 := Lib.hid hr2
         have HC2 := Lib.hid ((HC1.out.trans (Chg.of (Al.out w1 (.cells #[.bool s, .int .i64 0, .bool f] 61)))).trans hc2)
         have Hbox3 := Lib.hid hbox3
         have Hres3 := Lib.hid hres3
         have Hs2 := Lib.hid hs2
         have HB4 : Hid (Below (w2.setCell ⟨w1.heap.size, 1, none⟩ (.int .i64 (t : Int))).heap.size (w2.setCell ⟨w1.heap.size, 1, none⟩ (.int .i64 (t : Int))) (w2.setCell ⟨w1.heap.size, 1, none⟩ (.int .i64 (t : Int)))) := Below.refl _ _
         have HR4 := HR3
         clear hr2 hc2 hbox2 hres2 hbox3 hres3 hs2 hr3)
      | (go_at_call 62; (with_reducible refine (rightLatch_any ⟨s, t, f⟩ _).mono ?_)
         rintro e w4 ⟨rfl, hb4⟩
         clear HB4 HR4
         have HB4 := Lib.hid hb4
         have HR4 := Lib.hid (HR3.out.below hb4)
         clear hb4)
      | (go_at_call 34; (with_reducible refine (check_any rb B r2 _ _ HR4.out).mono ?_)
         rintro e w5 ⟨rfl, hr5, hc5⟩
         have hbox5 : w5.heap[w1.heap.size]? = _ := (hc5.at_ (Nat.lt_of_lt_of_le (Array.getElem?_eq_some_iff.1 Hbox3.out).1 HB4.out.size) (by have := Hs1.out; show ¬ _ = rb; omega)).trans ((HB4.out.block _ (Array.getElem?_eq_some_iff.1 Hbox3.out).1).trans Hbox3.out)
         have hres5 : w5.heap[w.heap.size]? = _ := (hc5.at_ (Nat.lt_of_lt_of_le (Array.getElem?_eq_some_iff.1 Hres3.out).1 HB4.out.size) (fun e => hne e.symm)).trans ((HB4.out.block _ (Array.getElem?_eq_some_iff.1 Hres3.out).1).trans Hres3.out)
         have HC5 := Lib.hid (((HC2.out.setNew (b := w1.heap.size) (by have := Hs1.out; have := Hza.out; omega) 1 (.int .i64 (t : Int))).trans (Chg.of HB4.out)).trans hc5)
         have b0 := cell_of_row w5 w1.heap.size 0 _ _ _ hbox5
         have b1 := cell_of_row w5 w1.heap.size 1 _ _ _ hbox5
         have b2 := cell_of_row w5 w1.heap.size 2 _ _ _ hbox5
         have s0 := cell_of_row w5 w.heap.size 0 _ _ _ hres5
         have s1 := cell_of_row w5 w.heap.size 1 _ _ _ hres5
         have s2 := cell_of_row w5 w.heap.size 2 _ _ _ hres5
         have q0 := frozen_of_row w5 w.heap.size 0 _ _ hres5
         have q1 := frozen_of_row w5 w.heap.size 1 _ _ hres5
         have q2 := frozen_of_row w5 w.heap.size 2 _ _ hres5
         simp at b0 b1 b2 s0 s1 s2
         have HR5 := Lib.hid (rdr_other (j := 2) (.bool f) (rdr_other (j := 1) (.int .i64 (t : Int)) (rdr_other (b := w.heap.size) (j := 0) (.bool s) hr5 (fun e => hne e.symm) (by omega)) (fun e => hne e.symm) (by omega)) (fun e => hne e.symm) (by omega))
         have Hres5 := Lib.hid hres5
         clear hr5 hc5 hbox5 hres5))
    refine bodyPost_ret (results_cell_row rfl _ _ w.heap.size 61 #[.bool s, .int .i64 t, .bool f] (0, 0) _ rfl (heap_set_same (j := 2) (.bool f) (heap_set_same (j := 1) (.int .i64 (t : Int)) (heap_set_same (j := 0) (.bool s) Hres5.out))) Try.underlying61 rfl (by kernel_rfl)) rfl ⟨rfl, ?_, ((HC5.out.setNew (b := w.heap.size) (Nat.le_refl _) 0 (.bool s)).setNew (b := w.heap.size) (Nat.le_refl _) 1 (.int .i64 (t : Int))).setNew (b := w.heap.size) (Nat.le_refl _) 2 (.bool f)⟩
    first
      | (rw [decide_eq_true hx3, Bool.true_and]; exact HR5.out)
      | (rw [decide_eq_false hx3, Bool.false_and]; exact HR5.out)
end Go.Proofs.Ytcdgaeenfhpnkaa
