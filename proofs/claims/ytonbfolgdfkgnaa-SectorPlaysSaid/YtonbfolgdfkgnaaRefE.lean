/- Read, of the reference's disk. -/
import Derived.Test.YtonbfolgdfkgnaaRefD
import Derived.Lib.ConvBytes
import Derived.StillTailTactics
set_option linter.unusedVariables false
set_option linter.unusedSimpArgs false
set_option maxRecDepth 100000
namespace Go.Proofs.Ytonbfolgdfkgnaa
open Go Go.RowKit

theorem row_str {L : List (List Nat)} {rest : List Value} {w : World} {g : Nat} {t : TypeId} (h : w.heap[g]? = some (.cells (L.map sv ++ rest).toArray t)) (k : Nat) (s : List Nat) (hs : L[k]? = some s) : w.cell? ⟨g, k, none⟩ = some (.string (bstr s)) := by
  rw [cell_of_row w g k _ _ _ h]
  have hk := (List.getElem?_eq_some_iff.1 hs).1
  simp [List.getElem?_append_left, hk]
  rw [List.getElem?_eq_some_iff] at hs
  obtain ⟨_, rfl⟩ := hs
  rfl
theorem bw_below (w : World) (e : TypeId) (s : ByteArray) : Below w.heap.size w (Lib.bytesWorld w e s) :=
  ⟨rfl, rfl, rfl, by rw [Lib.bytesWorld_size]; omega, fun k hk => Lib.bytesWorld_at_old w e s k hk⟩
theorem bw_rd (w : World) (e : TypeId) (s : List Nat) (n : Nat) (hn : s.length = n) (hs : ∀ c ∈ s, c < 256) : Rd (Lib.bytesWorld w e (bstr s)) (w.heap.size + 1) 1 (some ⟨w.heap.size, 0, none⟩) n (s.map bv) := by
  refine ⟨by simp; omega, fun _ => ⟨w.heap.size, 0, rfl, by omega, fun j u hu => ?_⟩⟩
  rw [List.getElem?_map] at hu
  have hj : j < s.length := by
    rcases Nat.lt_or_ge j s.length with h | h
    · exact h
    · rw [List.getElem?_eq_none h] at hu; simp at hu
  rw [List.getElem?_eq_getElem hj] at hu
  simp at hu
  rw [Nat.zero_add, Lib.bytesWorld_cell w e (bstr s) j (by rw [bstr_size]; exact hj), ← hu]
  have hl : (bstr s).data.toList = s.map UInt8.ofNat := by simp [bstr]
  rw [hl, List.getD_eq_getElem?_getD, List.getElem?_map, List.getElem?_eq_getElem hj]
  have hlt := hs _ (List.getElem_mem hj)
  simp [bv]
  omega
def RReadPost (w : World) (r : Nat × List Nat) (e : Ending) (w' : World) : Prop :=
  ∃ A n c, e = .returned (.tuple #[.slice A n c, .int .i64 r.1]) ∧ Rd w' w'.heap.size 1 A n (r.2.map bv) ∧ Below w.heap.size w w'
set_option maxHeartbeats 1000000 in
theorem rread_fine (U : Nat → Prop) (p g : Nat) (d : DD) (x : RX) (w : World) (k : Nat) (s : List Nat) (h : HRc w U p g d x) (hd : d.down = false) (hk : d.L[k]? = some s) :
    Calls Try.prog 13 #[.pointer (some ⟨p, 0, none⟩), .int .i64 k] w (RReadPost w (0, s)) := by
  have hkl : k < d.L.length := (List.getElem?_eq_some_iff.1 hk).1
  have hsl := h.ok.1 s (List.mem_of_getElem? hk)
  have c1 := cell_of_row w p 1 _ _ _ h.hp
  have c0 := cell_of_row w p 0 _ _ _ h.hp
  simp [hd] at c1 c0
  have hl256 := h.ok.2.1
  have t1 : (0 : Int) ≤ (k : Int) := by omega
  have t2 : (k : Int) < (d.L.length : Int) := by omega
  have b1 : decide ((k : Int) < 0) = false := decide_eq_false (by omega)
  have b2 : decide (d.L.length ≤ k) = false := decide_eq_false (by omega)
  have cs := row_str h.hg k s hk
  have kb := Lib.run_convert_string_bytes (P := Try.prog) w 9 29 5 (bstr s) Try.underlying9 Try.underlying29 Try.underlying5
  have hsz : (bstr s).size = 64 := by rw [bstr_size]; exact hsl.1
  rw [hsz] at kb
  have Hsl := Lib.hid hsl
  clear h hd hk hsl hsz
  go_enter Try.func13, Try.ntmps13
  go_wp2_with fail
  go_ret2
  exact ⟨_, _, _, rfl, (bw_rd w _ s 64 Hsl.out.1 Hsl.out.2).more (by rw [Lib.bytesWorld_size]; omega), bw_below _ _ _⟩
theorem rread_any (U : Nat → Prop) (p g : Nat) (d : DD) (w : World) (i : Int) (h : HR w U p g d) :
    Calls Try.prog 13 #[.pointer (some ⟨p, 0, none⟩), .int .i64 i] w (RReadPost w (d.read i)) := by
  obtain ⟨x, h⟩ := h
  by_cases hd : d.down = true
  · have e0 : d.read i = (101, []) := by rw [DD.read, if_pos hd]
    rw [e0]
    have c1 := cell_of_row w p 1 _ _ _ h.hp
    simp [hd] at c1
    go_enter Try.func13, Try.ntmps13
    go_wp2_with fail
    go_ret2
    exact ⟨_, _, _, rfl, Rd.nil_ _ _ _ _, Below.refl _ _⟩
  · have hd' : d.down = false := by simpa using hd
    by_cases hi : 0 ≤ i ∧ i < d.L.length
    · obtain ⟨k, rfl⟩ : ∃ k : Nat, i = (k : Int) := ⟨i.toNat, by omega⟩
      obtain ⟨s, hs⟩ : ∃ s, d.L[k]? = some s := ⟨_, List.getElem?_eq_getElem (by omega)⟩
      have e0 : d.read k = (0, s) := by rw [DD.read, if_neg hd, if_pos hi, Int.toNat_natCast, List.getD_eq_getElem?_getD, hs]; rfl
      rw [e0]
      exact rread_fine U p g d x w k s h hd' hs
    · have e0 : d.read i = (1, []) := by rw [DD.read, if_neg hd, if_neg hi]
      rw [e0]
      have c1 := cell_of_row w p 1 _ _ _ h.hp
      have c0 := cell_of_row w p 0 _ _ _ h.hp
      simp [hd'] at c1 c0
      have go : decide (i < 0) = true ∨ decide (i < 0) = false ∧ decide ((d.L.length : Int) ≤ i) = true := by simp; omega
      clear hi h
      rcases go with g1 | ⟨g1, g2⟩
      all_goals
        go_enter Try.func13, Try.ntmps13
        go_wp2_with fail
        go_ret2
        exact ⟨_, _, _, rfl, Rd.nil_ _ _ _ _, Below.refl _ _⟩
end Go.Proofs.Ytonbfolgdfkgnaa
