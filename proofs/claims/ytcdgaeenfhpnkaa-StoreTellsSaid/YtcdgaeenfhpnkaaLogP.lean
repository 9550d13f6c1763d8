/- Package log, plain: Add and Compact keep what a log's disk holds. -/
import Derived.Test.YtcdgaeenfhpnkaaLogO
set_option linter.unusedVariables false
set_option linter.unusedSimpArgs false
set_option maxRecDepth 100000
namespace Go.Proofs.Ytcdgaeenfhpnkaa
open CrcMath

theorem putL_len (L : List (List Nat)) (a : Nat) (xs : List (List Nat)) (h : a + xs.length ≤ L.length) : (putL L a xs).length = L.length := by
  unfold putL
  simp only [List.length_append, List.length_take, List.length_drop]
  omega
theorem putL_out (L : List (List Nat)) (a : Nat) (xs : List (List Nat)) (h : a + xs.length ≤ L.length) (i : Nat) (hi : i < a ∨ a + xs.length ≤ i) : (putL L a xs)[i]? = L[i]? := by
  unfold putL
  rcases hi with hi | hi
  · rw [List.append_assoc, List.getElem?_append_left (by rw [List.length_take]; omega), List.getElem?_take, if_pos hi]
  · rw [List.getElem?_append_right (by simp only [List.length_append, List.length_take]; omega), List.getElem?_drop]
    congr 1
    simp only [List.length_append, List.length_take]
    omega
theorem putL_body (L : List (List Nat)) (o t : Nat) (xs : List (List Nat)) (h : o + t + xs.length ≤ L.length) : ((putL L (o + t) xs).drop o).take (t + xs.length) = (L.drop o).take t ++ xs := by
  unfold putL
  have e1 : L.take (o + t) = L.take o ++ (L.drop o).take t := List.take_add
  have l1 : (L.take o).length = o := by rw [List.length_take]; omega
  have l2 : ((L.drop o).take t).length = t := by rw [List.length_take, List.length_drop]; omega
  rw [e1, List.append_assoc, List.append_assoc]
  rw [List.drop_append_of_le_length (by rw [l1]; exact Nat.le_refl _), List.drop_of_length_le (by rw [l1]; exact Nat.le_refl _), List.nil_append, ← List.append_assoc]
  rw [List.take_append_of_le_length (by rw [List.length_append, l2]; exact Nat.le_refl _), List.take_of_length_le (by rw [List.length_append, l2]; exact Nat.le_refl _)]
theorem pieces_len (turn : Nat) (b : List Nat) : (piecesOf turn b).length = needsN b := by unfold piecesOf; simp
theorem wr_all (fr turn : Nat) (b : List Nat) (d : DD) (hb : b.length ≤ 448) (hd : d.down = false) (hc : d.cut = none) (hl : fr + needsN b ≤ d.L.length) :
    wrF fr turn b d (List.range (needsN b)) = (0, { d with L := putL d.L fr (piecesOf turn b), writes := d.writes + needsN b }) := by
  have h := wrF_good fr turn b hb (needsN b) 0 d hd hc (by omega) (by omega)
  rw [← List.range_eq_range', Nat.add_zero] at h
  exact h
theorem half_fits {half taken n S len : Nat} (h1 : half ≤ 1) (h2 : taken + n ≤ S) (hS : S = len / 2) : half * S + taken + n ≤ len := by
  have : half = 0 ∨ half = 1 := by omega
  rcases this with rfl | rfl <;> omega
theorem LP.add {d : DD} {half turn taken : Nat} {l : List (List Nat)} (h : LP d half turn taken l) (b : List Nat) (hb : fineB b) (hr : taken + needsN b ≤ d.L.length / 2) :
    ∃ d' : DD, wrF (half * (d.L.length / 2) + taken) turn b d (List.range (needsN b)) = (0, d') ∧ LP d' half turn (taken + needsN b) (l ++ [b]) ∧ d'.writes = d.writes + needsN b ∧ d'.L.length = d.L.length := by
  have hfit := half_fits h.h1 hr rfl
  have hpl := pieces_len turn b
  have hlen : (putL d.L (half * (d.L.length / 2) + taken) (piecesOf turn b)).length = d.L.length := putL_len _ _ _ (by rw [hpl]; exact hfit)
  refine ⟨_, wr_all _ turn b d hb.2.1 h.up h.cut hfit, ⟨h.up, h.cut, h.h1, h.t0, h.t1, ?_, ?_, ?_, ?_, ?_, fun e => by simp at e⟩, rfl, hlen⟩
  · intro x hx
    rcases List.mem_append.1 hx with hx | hx
    · exact h.fine x hx
    · rw [List.mem_singleton.1 hx]; exact hb
  · rw [h.tk]; simp [needsAll]
  · show _ ≤ (putL _ _ _).length / 2
    rw [hlen]; exact hr
  · show ((putL d.L _ _).drop (half * ((putL d.L _ _).length / 2))).take _ = _
    rw [hlen]
    have := putL_body d.L (half * (d.L.length / 2)) taken (piecesOf turn b) (by rw [hpl]; exact hfit)
    rw [hpl] at this
    rw [this, h.body]
    simp
  · intro i s hs hi
    have hs' : (putL d.L (half * (d.L.length / 2) + taken) (piecesOf turn b))[i]? = some s := hs
    have hi' : i < half * ((putL d.L (half * (d.L.length / 2) + taken) (piecesOf turn b)).length / 2) ∨ half * ((putL d.L (half * (d.L.length / 2) + taken) (piecesOf turn b)).length / 2) + (taken + needsN b) ≤ i := hi
    rw [hlen] at hi'
    rw [putL_out _ _ _ (by rw [hpl]; exact hfit) i (by rw [hpl]; omega)] at hs'
    exact h.rest i s hs' (by omega)
theorem older_mono {t t' : Nat} {s : List Nat} (h : older t s) (ht : t ≤ t') : older t' s := fun p hp => by have := h p hp; omega
theorem LP.all_older {d : DD} {half turn taken : Nat} {l : List (List Nat)} (h : LP d half turn taken l) (i : Nat) (s : List Nat) (hs : d.L[i]? = some s) : older (turn + 1) s := by
  by_cases hi : i < half * (d.L.length / 2) ∨ half * (d.L.length / 2) + taken ≤ i
  · exact older_mono (h.rest i s hs hi) (by omega)
  · have hg : ((d.L.drop (half * (d.L.length / 2))).take taken)[i - half * (d.L.length / 2)]? = some s := by
      rw [List.getElem?_take, if_pos (by omega), List.getElem?_drop, show half * (d.L.length / 2) + (i - half * (d.L.length / 2)) = i by omega]
      exact hs
    rw [h.body] at hg
    have hm := List.mem_of_getElem? hg
    rw [List.mem_flatMap] at hm
    obtain ⟨b, hb, hm⟩ := hm
    unfold piecesOf at hm
    rw [List.mem_map] at hm
    obtain ⟨j, hj, rfl⟩ := hm
    intro p hp
    rw [tell_piece turn b (h.fine b hb) h.t0 h.t1 j (List.mem_range.1 hj)] at hp
    injection hp with hp
    subst hp
    show turn < turn + 1
    omega
theorem LP.comp {d : DD} {half turn taken : Nat} {l : List (List Nat)} (h : LP d half turn taken l) (b : List Nat) (hb : fineB b) (hr : needsN b ≤ d.L.length / 2) (ht : turn < 65535) :
    ∃ d' : DD, wrF ((1 - half) * (d.L.length / 2)) (turn + 1) b d (List.range (needsN b)) = (0, d') ∧ LP d' (1 - half) (turn + 1) (needsN b) [b] ∧ d'.writes = d.writes + needsN b ∧ d'.L.length = d.L.length := by
  have hfit : (1 - half) * (d.L.length / 2) + 0 + needsN b ≤ d.L.length := half_fits (taken := 0) (by omega) (by omega) rfl
  rw [Nat.add_zero] at hfit
  have hpl := pieces_len (turn + 1) b
  have hlen : (putL d.L ((1 - half) * (d.L.length / 2)) (piecesOf (turn + 1) b)).length = d.L.length := putL_len _ _ _ (by rw [hpl]; exact hfit)
  refine ⟨_, wr_all _ (turn + 1) b d hb.2.1 h.up h.cut hfit, ⟨h.up, h.cut, by omega, by omega, by omega, ?_, ?_, ?_, ?_, ?_, fun e => by simp at e⟩, rfl, hlen⟩
  · intro x hx
    rw [List.mem_singleton.1 hx]; exact hb
  · simp [needsAll]
  · show _ ≤ (putL _ _ _).length / 2
    rw [hlen]; exact hr
  · show ((putL d.L _ _).drop ((1 - half) * ((putL d.L _ _).length / 2))).take _ = _
    rw [hlen]
    have := putL_body d.L ((1 - half) * (d.L.length / 2)) 0 (piecesOf (turn + 1) b) (by rw [hpl]; omega)
    rw [hpl, Nat.zero_add, Nat.add_zero] at this
    rw [this]
    simp
  · intro i s hs hi
    have hs' : (putL d.L ((1 - half) * (d.L.length / 2)) (piecesOf (turn + 1) b))[i]? = some s := hs
    have hi' : i < (1 - half) * ((putL d.L ((1 - half) * (d.L.length / 2)) (piecesOf (turn + 1) b)).length / 2) ∨ (1 - half) * ((putL d.L ((1 - half) * (d.L.length / 2)) (piecesOf (turn + 1) b)).length / 2) + needsN b ≤ i := hi
    rw [hlen] at hi'
    rw [putL_out _ _ _ (by rw [hpl]; exact hfit) i (by rw [hpl]; omega)] at hs'
    exact h.all_older i s hs'
theorem LP.opens {d : DD} {half turn taken : Nat} {l : List (List Nat)} (h : LP d half turn taken l) : OS.from_ d 2 = ⟨l, half, turn, taken⟩ := by
  by_cases hne : l = []
  · obtain ⟨h1, h2, h3⟩ := h.start hne
    have h4 := h.tk
    rw [hne] at h4
    subst h1 h2 hne
    rw [opens_none d h3, h4]
    rfl
  · exact h.opens_same hne
end Go.Proofs.Ytcdgaeenfhpnkaa
