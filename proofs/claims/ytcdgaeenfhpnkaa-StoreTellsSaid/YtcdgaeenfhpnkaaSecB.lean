/- Read, of package sector: contract. -/
import Derived.Test.YtcdgaeenfhpnkaaSec
set_option linter.unusedVariables false
set_option linter.unusedSimpArgs false
set_option maxRecDepth 100000
namespace Go.Proofs.Ytcdgaeenfhpnkaa
open Go Go.RowKit

theorem flat_get (L : List (List Nat)) (h : ∀ s ∈ L, s.length = 64) : ∀ (i : Nat) (s : List Nat) (j : Nat), L[i]? = some s → j < 64 → (flat L)[i * 64 + j]? = (s.map bv)[j]? := by
  induction L with
  | nil => intro i s j hi; simp at hi
  | cons a L ih =>
    intro i s j hi hj
    have ha : a.length = 64 := h a (by simp)
    have e : flat (a :: L) = a.map bv ++ flat L := by simp [flat]
    rw [e]
    cases i with
    | zero =>
      simp only [List.getElem?_cons_zero, Option.some.injEq] at hi
      subst hi
      rw [List.getElem?_append_left (by simp; omega)]
      simp
    | succ i =>
      simp only [List.getElem?_cons_succ] at hi
      rw [List.getElem?_append_right (by simp; omega)]
      have := ih (fun s hs => h s (by simp [hs])) i s j hi hj
      simp only [List.length_map, ha]
      rw [show (i + 1) * 64 + j - 64 = i * 64 + j by omega]
      exact this
theorem flat_len (L : List (List Nat)) (h : ∀ s ∈ L, s.length = 64) : (flat L).length = 64 * L.length := by
  induction L with
  | nil => rfl
  | cons a L ih =>
    have ha : a.length = 64 := h a (by simp)
    have e : flat (a :: L) = a.map bv ++ flat L := by simp [flat]
    rw [e, List.length_append, ih (fun s hs => h s (by simp [hs]))]
    simp; omega
theorem HDc.rd {w : World} {U : Nat → Prop} {p q c : Nat} {d : DD} (h : HDc w U p q c d) (i : Nat) (s : List Nat) (hs : d.L[i]? = some s) : Rd w w.heap.size 1 (some ⟨q, i * 64, none⟩) 64 (s.map bv) := by
  have hl := (h.ok.1 s (List.mem_of_getElem? hs)).1
  refine ⟨by simp [hl], fun _ => ⟨q, i * 64, rfl, (Array.getElem?_eq_some_iff.1 h.hq).1, fun j u hu => ?_⟩⟩
  rw [cell_of_row _ _ _ _ _ _ h.hq]
  have hj : j < 64 := by
    have := (List.getElem?_eq_some_iff.1 hu).1
    simp [hl] at this; exact this
  have := flat_get d.L (fun s hs => (h.ok.1 s hs).1) i s j hs hj
  simpa [this] using hu

theorem has_yes (U : Nat → Prop) (p q : Nat) (d : DD) (w : World) (i : Int) (h : HD w U p q d) (h1 : 0 ≤ i ∧ i < d.L.length) :
    Calls Try.prog 96 #[.pointer (some ⟨p, 0, none⟩), .int .i64 i] w fun e w' => e = .returned (.bool true) ∧ w' = w := by
  have := has_any U p q d w i h
  rwa [decide_eq_true h1] at this
theorem has_no (U : Nat → Prop) (p q : Nat) (d : DD) (w : World) (i : Int) (h : HD w U p q d) (h1 : ¬ (0 ≤ i ∧ i < d.L.length)) :
    Calls Try.prog 96 #[.pointer (some ⟨p, 0, none⟩), .int .i64 i] w fun e w' => e = .returned (.bool false) ∧ w' = w := by
  have := has_any U p q d w i h
  rwa [decide_eq_false h1] at this

def DD.read (d : DD) (i : Int) : Nat × List Nat := if d.down then (101, []) else if 0 ≤ i ∧ i < d.L.length then (0, d.L.getD i.toNat []) else (1, [])
def ReadPost (w : World) (r : Nat × List Nat) (e : Ending) (w' : World) : Prop :=
  ∃ A n c, e = .returned (.tuple #[.slice A n c, .int .i64 r.1]) ∧ w'.ownsRow w.heap.size 5 1 (.slice A n c) n (r.2.map bv) ∧ Below w.heap.size w w'
theorem info_u8s : (Try.prog.info? 5).map (fun i => (i.zero, i.size, i.bytes)) = some (some (.int .u8 0), 1, 1) := by kernel_rfl
theorem size_arr : (Try.prog.info? 150).map (·.size) = some 64 := by kernel_rfl
set_option maxHeartbeats 1000000 in
theorem read_fine (U : Nat → Prop) (p q c : Nat) (d : DD) (w : World) (k : Nat) (s : List Nat) (h : HDc w U p q c d) (hd : d.down = false) (hk : d.L[k]? = some s) :
    Calls Try.prog 93 #[.pointer (some ⟨p, 0, none⟩), .int .i64 k] w (ReadPost w (0, s)) := by
  have hkl : k < d.L.length := (List.getElem?_eq_some_iff.1 hk).1
  have hsl : s.length = 64 := (h.ok.1 s (List.mem_of_getElem? hk)).1
  obtain ⟨i0, hi, hz0, hz1, hz2⟩ := info_parts info_u8s
  have c1 := cell_of_row w p 1 _ _ _ h.hp
  have c0 := cell_of_row w p 0 _ _ _ h.hp
  simp [hd] at c1 c0
  have hl256 := h.ok.2.1
  have t1 : (0 : Int) ≤ (k : Int) ∧ (k : Int) < (d.L.length : Int) := by omega
  have hrd := h.rd k s hk
  have hlp : p < w.heap.size := (Array.getElem?_eq_some_iff.1 h.hp).1
  have H : Hid (HD w U p q d) := ⟨c, h⟩
  have T := Lib.hid t1
  clear h t1 hd hk
  go_enter Try.func93, Try.ntmps93
  go_wp2_with (first
    | (go_at_call 96; (with_reducible refine (has_yes U p q d _ _ H.out T.out).mono ?_); rintro e w ⟨rfl, rfl⟩)
    | (with_reducible refine wpList_mk _ rfl (.const (.int .i64 64)) (.const (.int .i64 64)) 27 rfl w.heap.size 5 i0 (.int .u8 0) Try.underlying27 hi hz0 hz1 rfl .i64 .i64 _ _ 64 64 rfl rfl rfl rfl (Nat.le_refl _) ?e3 ?e4 (Nat.le_refl _) ?_))
  case e3 => rw [hz2]; omega
  case e4 => unfold maxLen; omega
  intro w2 hown2 hg2
  obtain ⟨Z, hZl, hown2⟩ : ∃ Z : List Value, Z.length = 64 ∧ w2.ownsRow w.heap.size 5 1 (.slice (some ⟨w.heap.size, 0, none⟩) 64 64) 64 Z := ⟨_, hown2.1, hown2⟩
  have hb2 : Below w.heap.size w w2 := (Below.refl _ _).grown hg2 (Nat.le_refl _) (by simp)
  have hr2 := hrd.below hb2
  have c0' := (hb2.cell (p := ⟨p, 0, none⟩) hlp).trans c0
  clear c0 c1
  go_wp2_with (first
    | (with_reducible refine wpList_cpy _ rfl (.tmp 16) (.tmp 23) 27 27 rfl 5 Try.underlying27 ?f1 w.heap.size w.heap.size 64 64 _ rfl hown2 w.heap.size (some ⟨q, k * 64, none⟩) 64 64 (s.map bv) rfl hr2 (bv_one s) ?_)
    | fail)
  case f1 => rw [hi]; simp [hz1]
  intro w3 hown3 hg3
  have hb3 : Below w.heap.size w w3 := hb2.grown hg3 hb2.size (fun k hk => by injection hk; omega)
  rw [List.take_of_length_le (by simp; omega), List.drop_eq_nil_of_le (by omega), List.append_nil] at hown3
  go_wp2_with fail
  go_ret2
  exact ⟨_, _, _, rfl, hown3, hb3⟩
theorem read_any (U : Nat → Prop) (p q : Nat) (d : DD) (w : World) (i : Int) (h : HD w U p q d) :
    Calls Try.prog 93 #[.pointer (some ⟨p, 0, none⟩), .int .i64 i] w (ReadPost w (d.read i)) := by
  obtain ⟨c, h⟩ := h
  by_cases hd : d.down = true
  · have e0 : d.read i = (101, []) := by rw [DD.read, if_pos hd]
    rw [e0]
    have c1 := cell_of_row w p 1 _ _ _ h.hp
    simp [hd] at c1
    go_enter Try.func93, Try.ntmps93
    go_wp2_with fail
    go_ret2
    exact ⟨_, _, _, rfl, World.ownsRow_nil _ _ _ _, Below.refl _ _⟩
  · have hd' : d.down = false := by simpa using hd
    by_cases hi : 0 ≤ i ∧ i < d.L.length
    · obtain ⟨k, rfl⟩ : ∃ k : Nat, i = (k : Int) := ⟨i.toNat, by omega⟩
      obtain ⟨s, hs⟩ : ∃ s, d.L[k]? = some s := ⟨_, List.getElem?_eq_getElem (by omega)⟩
      have e0 : d.read k = (0, s) := by rw [DD.read, if_neg hd, if_pos hi, Int.toNat_natCast, List.getD_eq_getElem?_getD, hs]; rfl
      rw [e0]
      exact read_fine U p q c d w k s h hd' hs
    · have e0 : d.read i = (1, []) := by rw [DD.read, if_neg hd, if_neg hi]
      rw [e0]
      have c1 := cell_of_row w p 1 _ _ _ h.hp
      simp [hd'] at c1
      have H : Hid (HD w U p q d) := ⟨c, h⟩
      have T := Lib.hid hi
      clear hi h
      go_enter Try.func93, Try.ntmps93
      go_wp2_with (first
        | (go_at_call 96; (with_reducible refine (has_no U p q d _ _ H.out T.out).mono ?_); rintro e w ⟨rfl, rfl⟩)
        | fail)
      go_ret2
      exact ⟨_, _, _, rfl, World.ownsRow_nil _ _ _ _, Below.refl _ _⟩
end Go.Proofs.Ytcdgaeenfhpnkaa
