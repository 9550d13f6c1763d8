/- Package store: what bytes are, in plain Lean. -/
import Derived.Test.YtcdgaeenfhpnkaaStN
set_option linter.unusedVariables false
set_option linter.unusedSimpArgs false
set_option maxRecDepth 100000
namespace Go.Proofs.Ytcdgaeenfhpnkaa
open Go Go.RowKit

theorem encS_len (s : St) (l : List Nt) : (encS s l).length = 3 + 7 * s.causes.length + 7 * s.effects.length + 6 * s.ends.length + 8 * l.length := by
  unfold encS enc4 enc3 enc2 enc1 enc0
  simp only [List.length_append, flat_len_ encL 7 encL_len, flat_len_ encN 8 encN_len, flat_len_ sixI 6 (fun _ => rfl), List.length_cons, List.length_nil]
  omega
theorem bytesF_yes {s : St} {l : List Nt} (h : okR s l) : bytesF s l = encS s l := if_pos h
theorem bytesF_no {s : St} {l : List Nt} (h : ¬ okR s l) : bytesF s l = [] := if_neg h
theorem bytesF_len {s : St} {l : List Nt} (h : okR s l) : 1 ≤ (bytesF s l).length ∧ (bytesF s l).length ≤ 448 := by
  rw [bytesF_yes h, encS_len]
  obtain ⟨⟨h1, h2, h3, _⟩, h4, _⟩ := h
  omega
theorem bytesF_ne {s : St} {l : List Nt} (h : okR s l) : bytesF s l ≠ [] := fun e => by
  have := (bytesF_len h).1
  rw [e] at this
  simp at this
theorem six_lt (t : Nat) : ∀ x ∈ six t, x < 256 := by
  intro x hx
  simp only [six, List.mem_cons, List.not_mem_nil, or_false] at hx
  omega
theorem encS_lt {s : St} {l : List Nt} (h : okR s l) : ∀ x ∈ encS s l, x < 256 := by
  obtain ⟨⟨h1, h2, h3, _⟩, h4, h5⟩ := h
  intro x hx
  unfold encS enc4 enc3 enc2 enc1 enc0 at hx
  simp only [List.mem_append, List.mem_flatMap, List.mem_cons, List.not_mem_nil, or_false] at hx
  have hL : ∀ y : Lt, x ∈ encL y → x < 256 := fun y hy => by
    simp only [encL, List.mem_cons] at hy
    rcases hy with rfl | hy
    · cases y.set <;> cases y.first <;> simp [b2]
    · exact six_lt _ _ hy
  rcases hx with (((((rfl | rfl) | ⟨y, _, hy⟩) | ⟨y, _, hy⟩) | ⟨y, _, hy⟩) | rfl) | ⟨y, hm, hy⟩
  · omega
  · omega
  · exact hL y hy
  · exact hL y hy
  · exact six_lt _ _ hy
  · omega
  · obtain ⟨k1, k2, k3, k4, _⟩ := h5 y hm
    simp only [encN, List.mem_append, List.mem_cons, List.not_mem_nil, or_false] at hy
    rcases hy with (rfl | rfl) | hy
    · omega
    · omega
    · exact six_lt _ _ hy
theorem bytesF_lt (s : St) (l : List Nt) : ∀ x ∈ bytesF s l, x < 256 := by
  unfold bytesF
  split
  · exact encS_lt ‹_›
  · intro x hx; simp at hx
theorem lastN_len (l : List Nt) : (lastN l).length ≤ 32 := by unfold lastN; rw [List.length_drop]; omega
theorem lastN_mem {l : List Nt} {x : Nt} (h : x ∈ lastN l) : x ∈ l := List.mem_of_mem_drop h
theorem lastN_small {l : List Nt} (h : l.length ≤ 32) : lastN l = l := by unfold lastN; rw [show l.length - 32 = 0 by omega]; rfl
theorem lastN_app (a l : List Nt) : lastN (lastN a ++ l) = lastN (a ++ l) := by
  unfold lastN
  rw [List.length_append, List.length_append, List.length_drop]
  by_cases h : a.length ≤ 32
  · rw [show a.length - 32 = 0 by omega]
    simp
  · by_cases h2 : l.length ≤ 32
    · rw [List.drop_append_of_le_length (by rw [List.length_drop]; omega), List.drop_append_of_le_length (by omega), List.drop_drop]
      congr 2
      omega
    · have hd : (a.drop (a.length - 32)).length = 32 := by rw [List.length_drop]; omega
      have e1 : (a.drop (a.length - 32)).drop (a.length - (a.length - 32) + l.length - 32) = [] := List.drop_eq_nil_of_le (by omega)
      have e2 : a.drop (a.length + l.length - 32) = [] := List.drop_eq_nil_of_le (by omega)
      rw [List.drop_append, List.drop_append, e1, e2, hd, List.nil_append, List.nil_append]
      congr 1
      omega
/-- notes put behind others are right, if these are -/
theorem okR_last {s : St} {l N : List Nt} (h : okR s l) (hN : ∀ x ∈ N, okN x) : okR s (lastN (N ++ l)) := by
  refine ⟨h.1, lastN_len _, fun x hx => ?_⟩
  rcases List.mem_append.1 (lastN_mem hx) with h1 | h1
  · exact hN x h1
  · exact h.2.2 x h1
end Go.Proofs.Ytcdgaeenfhpnkaa
