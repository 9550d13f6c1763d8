/- Package log, plain: what the sectors of a log's disk hold. -/
import Derived.Test.YtcdgaeenfhpnkaaLogM
set_option linter.unusedVariables false
set_option linter.unusedSimpArgs false
set_option maxRecDepth 100000
namespace Go.Proofs.Ytcdgaeenfhpnkaa
open CrcMath

/-- the pieces that a record's sectors tell -/
def pcsOf (turn : Nat) (b : List Nat) : List Pc := (List.range (needsN b)).map fun i => ⟨turn, i, needsN b, chunkN b i⟩
def fineB (b : List Nat) : Prop := 1 ≤ b.length ∧ b.length ≤ 448 ∧ ∀ x ∈ b, x < 256
theorem chunk_lt (b : List Nat) (i : Nat) (h : i < needsN b) : 0 < (chunkN b i).length ∧ (chunkN b i).length ≤ 56 ∧ (i + 1 < needsN b → (chunkN b i).length = 56) := by
  rw [chunk_len b b.length i rfl]
  unfold needsN at h ⊢
  omega
theorem tell_piece (turn : Nat) (b : List Nat) (hb : fineB b) (ht : 0 < turn) (ht2 : turn < 65536) (i : Nat) (h : i < needsN b) :
    tellF (secP turn i (needsN b) (chunkN b i)) = some ⟨turn, i, needsN b, chunkN b i⟩ := by
  obtain ⟨h1, h2, h3⟩ := chunk_lt b i h
  exact tell_sec turn i (needsN b) (chunkN b i) ht ht2 (by unfold needsN; have := hb.2.1; omega) h h1 h2 h3 (fun x hx => hb.2.2 x (List.mem_of_mem_drop (List.mem_of_mem_take hx)))
theorem told_app (turn : Nat) (b : List Nat) (hb : fineB b) (ht : 0 < turn) (ht2 : turn < 65536) (rest : List (List Nat)) : told (piecesOf turn b ++ rest) = pcsOf turn b ++ told rest := by
  unfold piecesOf pcsOf
  have gen : ∀ l : List Nat, (∀ i ∈ l, i < needsN b) → told (l.map (fun i => secP turn i (needsN b) (chunkN b i)) ++ rest) = l.map (fun i => (⟨turn, i, needsN b, chunkN b i⟩ : Pc)) ++ told rest := by
    intro l
    induction l with
    | nil => intro _; rfl
    | cons i r ih =>
      intro h
      rw [List.map_cons, List.cons_append, told, tell_piece turn b hb ht ht2 i (h i (by simp))]
      simp only [List.map_cons, List.cons_append]
      rw [ih (fun j hj => h j (by simp [hj]))]
  exact gen _ (fun i hi => List.mem_range.1 hi)
theorem take_chunk (b : List Nat) (k : Nat) : b.take (56 * k) ++ chunkN b k = b.take (56 * (k + 1)) := by
  rw [chunkN, Nat.mul_add, Nat.mul_one, List.take_add]
theorem step_piece (turn : Nat) (b : List Nat) (ht : 0 < turn) (st : RS) (k : Nat) (hk : k < needsN b) (h1 : st.which = k) (h2 : st.record = b.take (56 * k)) (h3 : st.turn = 0 ∨ st.turn = turn) (h4 : 0 < k → st.of_ = needsN b) :
    st.step ⟨turn, k, needsN b, chunkN b k⟩ = (if k + 1 = needsN b then ⟨st.out ++ [b], [], turn, st.taken + needsN b, 0, needsN b⟩ else ⟨st.out, b.take (56 * (k + 1)), turn, st.taken, k + 1, needsN b⟩, true) := by
  have ho : st.of1 ⟨turn, k, needsN b, chunkN b k⟩ = needsN b := by
    unfold RS.of1
    split
    · rfl
    · exact h4 (by omega)
  have htu : st.turn1 ⟨turn, k, needsN b, chunkN b k⟩ = turn := by
    unfold RS.turn1
    split
    · rfl
    · rcases h3 with h | h
      · omega
      · exact h
  have hfit : st.fits ⟨turn, k, needsN b, chunkN b k⟩ := ⟨htu.symm, h1.symm, ho.symm⟩
  rw [RS.step, if_pos hfit, ho, htu, h1]
  have e : st.record ++ chunkN b k = b.take (56 * (k + 1)) := by rw [h2, take_chunk]
  split
  · rename_i hm
    have hb : b.take (56 * (k + 1)) = b := List.take_of_length_le (by unfold needsN at hm; omega)
    simp only [e, hb]
  · simp only [e]
theorem steps_record (turn : Nat) (b : List Nat) (ht : 0 < turn) (hb : 1 ≤ b.length) (rest : List Pc) : ∀ (r k : Nat) (st : RS), k + r = needsN b → 0 < r → st.which = k → st.record = b.take (56 * k) → (st.turn = 0 ∨ st.turn = turn) → (0 < k → st.of_ = needsN b) →
    st.steps ((List.range' k r).map (fun i => (⟨turn, i, needsN b, chunkN b i⟩ : Pc)) ++ rest) = RS.steps ⟨st.out ++ [b], [], turn, st.taken + needsN b, 0, needsN b⟩ rest
  | 0, _, _, _, h, _, _, _, _ => by omega
  | r + 1, k, st, hm, _, h1, h2, h3, h4 => by
    rw [List.range'_succ, List.map_cons, List.cons_append, RS.steps, step_piece turn b ht st k (by omega) h1 h2 h3 h4, if_pos rfl]
    by_cases hr : r = 0
    · subst hr
      rw [if_pos (by omega)]
      rfl
    · rw [if_neg (by omega)]
      exact steps_record turn b ht hb rest r (k + 1) _ (by omega) (by omega) rfl rfl (.inr rfl) (fun _ => rfl)
theorem steps_pcs (turn : Nat) (b : List Nat) (ht : 0 < turn) (hb : 1 ≤ b.length) (rest : List Pc) (st : RS) (h1 : st.which = 0) (h2 : st.record = []) (h3 : st.turn = 0 ∨ st.turn = turn) :
    st.steps (pcsOf turn b ++ rest) = RS.steps ⟨st.out ++ [b], [], turn, st.taken + needsN b, 0, needsN b⟩ rest := by
  unfold pcsOf
  rw [List.range_eq_range']
  exact steps_record turn b ht hb rest (needsN b) 0 st (by omega) (by unfold needsN; omega) h1 (by rw [h2]; rfl) h3 (fun h => by omega)
def older (turn : Nat) (s : List Nat) : Prop := ∀ p, tellF s = some p → p.turn < turn
def needsAll (l : List (List Nat)) : Nat := (l.map needsN).sum
theorem steps_tail (turn : Nat) (ht : 0 < turn) (tail : List (List Nat)) (h : ∀ s, tail.head? = some s → older turn s) (st : RS) (h1 : st.turn = turn) :
    (st.steps (told tail)).out = st.out ∧ (st.steps (told tail)).turn = turn ∧ (st.steps (told tail)).taken = st.taken := by
  cases tail with
  | nil => exact ⟨rfl, h1, rfl⟩
  | cons s r =>
    have hs := h s rfl
    rw [told]
    cases hp : tellF s with
    | none => exact ⟨rfl, h1, rfl⟩
    | some p =>
      have hlt := hs p hp
      have htu : st.turn1 p = turn := by unfold RS.turn1; rw [if_neg (by omega)]; exact h1
      have hno : ¬ st.fits p := fun hf => by have := hf.1; rw [htu] at this; omega
      have e : st.step p = (⟨st.out, st.record, st.turn1 p, st.taken, st.which, st.of1 p⟩, false) := by rw [RS.step, if_neg hno]
      simp only [RS.steps, e, Bool.false_eq_true, if_false]
      exact ⟨trivial, htu, trivial⟩
theorem steps_have (turn : Nat) (ht : 0 < turn) (ht2 : turn < 65536) (tail : List (List Nat)) (h : ∀ s, tail.head? = some s → older turn s) : ∀ (l : List (List Nat)) (st : RS), (∀ b ∈ l, fineB b) → st.which = 0 → st.record = [] → (st.turn = 0 ∧ l ≠ [] ∨ st.turn = turn) →
    (st.steps (told (l.flatMap (piecesOf turn) ++ tail))).out = st.out ++ l ∧ (st.steps (told (l.flatMap (piecesOf turn) ++ tail))).turn = turn ∧ (st.steps (told (l.flatMap (piecesOf turn) ++ tail))).taken = st.taken + needsAll l
  | [], st, _, _, _, h3 => by
    have h4 : st.turn = turn := by rcases h3 with h | h; exact absurd rfl h.2; exact h
    have := steps_tail turn ht tail h st h4
    simpa [needsAll] using this
  | b :: l, st, hb, h1, h2, h3 => by
    have hfb := hb b (by simp)
    rw [List.flatMap_cons, List.append_assoc, told_app turn b hfb ht ht2, steps_pcs turn b ht hfb.1 _ st h1 h2 (by rcases h3 with h | h; exact .inl h.1; exact .inr h)]
    have ih := steps_have turn ht ht2 tail h l ⟨st.out ++ [b], [], turn, st.taken + needsN b, 0, needsN b⟩ (fun x hx => hb x (by simp [hx])) rfl rfl (.inr rfl)
    simp only [List.append_assoc, List.singleton_append] at ih
    refine ⟨ih.1, ih.2.1, ?_⟩
    rw [ih.2.2]
    simp [needsAll]
    omega
theorem recs_have (turn : Nat) (ht : 0 < turn) (ht2 : turn < 65536) (l tail : List (List Nat)) (h : ∀ s, tail.head? = some s → older turn s) (hl : ∀ b ∈ l, fineB b) (hne : l ≠ []) :
    (recsF (l.flatMap (piecesOf turn) ++ tail)).out = l ∧ (recsF (l.flatMap (piecesOf turn) ++ tail)).turn = turn ∧ (recsF (l.flatMap (piecesOf turn) ++ tail)).taken = needsAll l := by
  have := steps_have turn ht ht2 tail h l RS.zero hl rfl rfl (.inl ⟨rfl, hne⟩)
  simpa [recsF, RS.zero] using this
theorem steps_lt (T : Nat) : ∀ (ps : List Pc) (st : RS), (∀ p ∈ ps, p.turn < T) → st.turn < T → (st.steps ps).turn < T
  | [], st, _, h => h
  | p :: r, st, hp, h => by
    have h1 : st.turn1 p < T := by
      unfold RS.turn1
      split
      · exact hp p (by simp)
      · exact h
    have h2 : (st.step p).1.turn < T := by
      unfold RS.step
      split
      · split
        · exact h1
        · exact h1
      · exact h1
    rw [RS.steps]
    split
    · exact steps_lt T r _ (fun q hq => hp q (by simp [hq])) h2
    · exact h2
/-- the other half is of an older turn -/
theorem recs_older (turn : Nat) (ht : 0 < turn) (L : List (List Nat)) (h : ∀ s ∈ L, older turn s) : (recsF L).turn < turn :=
  steps_lt turn _ _ (fun p hp => by obtain ⟨s, h1, h2⟩ := told_mem L p hp; exact h s h1 p h2) ht
theorem recs_none (L : List (List Nat)) (h : ∀ s ∈ L, tellF s = none) : recsF L = RS.zero := by
  have e : told L = [] := by
    cases L with
    | nil => rfl
    | cons s r => rw [told, h s (by simp)]
  rw [recsF, e]; rfl
/-- what a log's disk holds -/
structure LP (d : DD) (half turn taken : Nat) (l : List (List Nat)) : Prop where
  up : d.down = false
  cut : d.cut = none
  h1 : half ≤ 1
  t0 : 0 < turn
  t1 : turn < 65536
  fine : ∀ b ∈ l, fineB b
  tk : taken = needsAll l
  room : taken ≤ d.L.length / 2
  body : (d.L.drop (half * (d.L.length / 2))).take taken = l.flatMap (piecesOf turn)
  rest : ∀ (i : Nat) (s : List Nat), d.L[i]? = some s → (i < half * (d.L.length / 2) ∨ half * (d.L.length / 2) + taken ≤ i) → older turn s
  start : l = [] → half = 0 ∧ turn = 1 ∧ ∀ s ∈ d.L, tellF s = none
theorem LP.current {d : DD} {half turn taken : Nat} {l : List (List Nat)} (h : LP d half turn taken l) (hne : l ≠ []) :
    (recsF (secs d (half * (d.L.length / 2)) (d.L.length / 2))).out = l ∧ (recsF (secs d (half * (d.L.length / 2)) (d.L.length / 2))).turn = turn ∧ (recsF (secs d (half * (d.L.length / 2)) (d.L.length / 2))).taken = taken := by
  have e : secs d (half * (d.L.length / 2)) (d.L.length / 2) = l.flatMap (piecesOf turn) ++ ((d.L.drop (half * (d.L.length / 2))).drop taken).take (d.L.length / 2 - taken) := by
    rw [secs, ← h.body, ← List.take_add, Nat.add_sub_cancel' h.room]
  rw [e, h.tk]
  refine recs_have turn h.t0 h.t1 l _ (fun s hs => ?_) h.fine hne
  have h1 := List.mem_of_mem_head? (Option.mem_def.2 hs)
  have h2 := List.mem_of_mem_take h1
  rw [List.drop_drop] at h2
  obtain ⟨j, hj⟩ := List.getElem?_of_mem h2
  rw [List.getElem?_drop] at hj
  exact h.rest _ s hj (.inr (by have := h.tk; omega))
theorem LP.other {d : DD} {half turn taken : Nat} {l : List (List Nat)} (h : LP d half turn taken l) : (recsF (secs d ((1 - half) * (d.L.length / 2)) (d.L.length / 2))).turn < turn := by
  refine recs_older turn h.t0 _ (fun s hs => ?_)
  rw [secs] at hs
  obtain ⟨j, hj⟩ := List.getElem?_of_mem hs
  rw [List.getElem?_take] at hj
  split at hj
  · rename_i hlt
    rw [List.getElem?_drop] at hj
    refine h.rest _ s hj ?_
    have h1 := h.h1
    have h2 := h.room
    have : half = 0 ∨ half = 1 := by omega
    rcases this with rfl | rfl
    · exact .inr (by simp; omega)
    · exact .inl (by simp; omega)
  · cases hj
theorem LP.opens_same {d : DD} {half turn taken : Nat} {l : List (List Nat)} (h : LP d half turn taken l) (hne : l ≠ []) : OS.from_ d 2 = ⟨l, half, turn, taken⟩ := by
  have e : OS.from_ d 2 = ((⟨[], 0, 1, 0⟩ : OS).step d 0).step d 1 := rfl
  have hl : 0 < l.length := List.length_pos_iff.2 hne
  obtain ⟨c1, c2, c3⟩ := h.current hne
  have o1 := h.other
  have hh := h.h1
  have : half = 0 ∨ half = 1 := by omega
  rcases this with rfl | rfl
  · have s0 : (⟨[], 0, 1, 0⟩ : OS).step d 0 = ⟨l, 0, turn, taken⟩ := by
      rw [OS.step, if_pos ⟨by rw [c1]; exact hl, .inl rfl⟩, c1, c2, c3]
    rw [e, s0, OS.step, if_neg]
    rintro ⟨_, h2 | h2⟩
    · simp only at h2; omega
    · simp only at h2
      simp at o1 h2
      omega
  · have key : ((⟨[], 0, 1, 0⟩ : OS).step d 0).out.length = 0 ∨ ((⟨[], 0, 1, 0⟩ : OS).step d 0).turn < turn := by
      rw [OS.step]
      split
      · exact .inr (by simpa using o1)
      · exact .inl rfl
    rw [e, OS.step, if_pos ⟨by rw [c1]; exact hl, by rw [c2]; exact key⟩, c1, c2, c3]
theorem opens_none (d : DD) (h : ∀ s ∈ d.L, tellF s = none) : OS.from_ d 2 = ⟨[], 0, 1, 0⟩ := by
  have hz : ∀ a b, recsF (secs d a b) = RS.zero := fun a b => recs_none _ (fun s hs => h s (List.mem_of_mem_drop (List.mem_of_mem_take hs)))
  have st : ∀ (s : OS) (j : Nat), s.step d j = s := fun s j => by
    rw [OS.step, hz, if_neg]
    rintro ⟨h1, _⟩
    simp [RS.zero] at h1
  show ((⟨[], 0, 1, 0⟩ : OS).step d 0).step d 1 = _
  rw [st, st]
end Go.Proofs.Ytcdgaeenfhpnkaa
