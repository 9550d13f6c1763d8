/- Package log, plain: what the sectors of a log's disk hold. -/
import Derived.Test.YtcdgaeenfhpnkaaPk13
set_option linter.unusedVariables false
set_option linter.unusedSimpArgs false
set_option maxRecDepth 100000
namespace Go.Proofs.Ytcdgaeenfhpnkaa
open CrcMath

/-- the pieces that a record's sectors tell -/
def pcsOf (turn : Nat) (b : List Nat) : List Pc := (List.range (needsN b)).map fun i => ⟨turn, i, needsN b, chunkN b i⟩
def fineB (b : List Nat) : Prop := 1 ≤ b.length ∧ b.length ≤ 448 ∧ ∀ x ∈ b, x < 256
theorem chunk_lt (b : List Nat) (i : Nat) (h : i < needsN b) : 0 < (chunkN b i).length ∧ (chunkN b i).length ≤ 56 ∧ (i + 1 < needsN b → (chunkN b i).length = 56) := by
  rw [chunk_len b b.length i rfl]
  unfold needsN at h ⊢
  omega
theorem tell_piece (turn : Nat) (b : List Nat) (hb : fineB b) (ht : 0 < turn) (ht2 : turn < 65536) (i : Nat) (h : i < needsN b) :
    tellF (secP turn i (needsN b) (chunkN b i)) = some ⟨turn, i, needsN b, chunkN b i⟩ := by
  obtain ⟨h1, h2, h3⟩ := chunk_lt b i h
  exact tell_sec turn i (needsN b) (chunkN b i) ht ht2 (by unfold needsN; have := hb.2.1; omega) h h1 h2 h3 (fun x hx => hb.2.2 x (List.mem_of_mem_drop (List.mem_of_mem_take hx)))
theorem told_app (turn : Nat) (b : List Nat) (hb : fineB b) (ht : 0 < turn) (ht2 : turn < 65536) (rest : List (List Nat)) : told (piecesOf turn b ++ rest) = pcsOf turn b ++ told rest := by
  unfold piecesOf pcsOf
  have gen : ∀ l : List Nat, (∀ i ∈ l, i < needsN b) → told (l.map (fun i => secP turn i (needsN b) (chunkN b i)) ++ rest) = l.map (fun i => (⟨turn, i, needsN b, chunkN b i⟩ : Pc)) ++ told rest := by
    intro l
    induction l with
    | nil => intro _; rfl
    | cons i r ih =>
      intro h
      rw [List.map_cons, List.cons_append, told, tell_piece turn b hb ht ht2 i (h i (by simp))]
      simp only [List.map_cons, List.cons_append]
      rw [ih (fun j hj => h j (by simp [hj]))]
  exact gen _ (fun i hi => List.mem_range.1 hi)
theorem take_chunk (b : List Nat) (k : Nat) : b.take (56 * k) ++ chunkN b k = b.take (56 * (k + 1)) := by
  rw [chunkN, Nat.mul_add, Nat.mul_one, List.take_add]
theorem step_piece (turn : Nat) (b : List Nat) (ht : 0 < turn) (st : RS) (k : Nat) (hk : k < needsN b) (h1 : st.which = k) (h2 : st.record = b.take (56 * k)) (h3 : st.turn = 0 ∨ st.turn = turn) (h4 : 0 < k → st.of_ = needsN b) :
    st.step ⟨turn, k, needsN b, chunkN b k⟩ = (if k + 1 = needsN b then ⟨st.out ++ [b], [], turn, st.taken + needsN b, 0, needsN b⟩ else ⟨st.out, b.take (56 * (k + 1)), turn, st.taken, k + 1, needsN b⟩, true) := by
  have ho : st.of1 ⟨turn, k, needsN b, chunkN b k⟩ = needsN b := by
    unfold RS.of1
    split
    · rfl
    · exact h4 (by omega)
  have htu : st.turn1 ⟨turn, k, needsN b, chunkN b k⟩ = turn := by
    unfold RS.turn1
    split
    · rfl
    · rcases h3 with h | h
      · omega
      · exact h
  have hfit : st.fits ⟨turn, k, needsN b, chunkN b k⟩ := ⟨htu.symm, h1.symm, ho.symm⟩
  rw [RS.step, if_pos hfit, ho, htu, h1]
  have e : st.record ++ chunkN b k = b.take (56 * (k + 1)) := by rw [h2, take_chunk]
  split
  · rename_i hm
    have hb : b.take (56 * (k + 1)) = b := List.take_of_length_le (by unfold needsN at hm; omega)
    simp only [e, hb]
  · simp only [e]
theorem steps_record (turn : Nat) (b : List Nat) (ht : 0 < turn) (hb : 1 ≤ b.length) (rest : List Pc) : ∀ (r k : Nat) (st : RS), k + r = needsN b → 0 < r → st.which = k → st.record = b.take (56 * k) → (st.turn = 0 ∨ st.turn = turn) → (0 < k → st.of_ = needsN b) →
    st.steps ((List.range' k r).map (fun i => (⟨turn, i, needsN b, chunkN b i⟩ : Pc)) ++ rest) = RS.steps ⟨st.out ++ [b], [], turn, st.taken + needsN b, 0, needsN b⟩ rest
  | 0, _, _, _, h, _, _, _, _ => by omega
  | r + 1, k, st, hm, _, h1, h2, h3, h4 => by
    rw [List.range'_succ, List.map_cons, List.cons_append, RS.steps, step_piece turn b ht st k (by omega) h1 h2 h3 h4, if_pos rfl]
    by_cases hr : r = 0
    · subst hr
      rw [if_pos (by omega)]
      rfl
    · rw [if_neg (by omega)]
      exact steps_record turn b ht hb rest r (k + 1) _ (by omega) (by omega) rfl rfl (.inr rfl) (fun _ => rfl)
theorem steps_pcs (turn : Nat) (b : List Nat) (ht : 0 < turn) (hb : 1 ≤ b.length) (rest : List Pc) (st : RS) (h1 : st.which = 0) (h2 : st.record = []) (h3 : st.turn = 0 ∨ st.turn = turn) :
    st.steps (pcsOf turn b ++ rest) = RS.steps ⟨st.out ++ [b], [], turn, st.taken + needsN b, 0, needsN b⟩ rest := by
  unfold pcsOf
  rw [List.range_eq_range']
  exact steps_record turn b ht hb rest (needsN b) 0 st (by omega) (by unfold needsN; omega) h1 (by rw [h2]; rfl) h3 (fun h => by omega)
def older (turn : Nat) (s : List Nat) : Prop := ∀ p, tellF s = some p → p.turn < turn
def needsAll (l : List (List Nat)) : Nat := (l.map needsN).sum
theorem steps_tail (turn : Nat) (ht : 0 < turn) (tail : List (List Nat)) (h : ∀ s, tail.head? = some s → older turn s) (st : RS) (h1 : st.turn = turn) :
    (st.steps (told tail)).out = st.out ∧ (st.steps (told tail)).turn = turn ∧ (st.steps (told tail)).taken = st.taken := by
  cases tail with
  | nil => exact ⟨rfl, h1, rfl⟩
  | cons s r =>
    have hs := h s rfl
    rw [told]
    cases hp : tellF s with
    | none => exact ⟨rfl, h1, rfl⟩
    | some p =>
      have hlt := hs p hp
      have htu : st.turn1 p = turn := by unfold RS.turn1; rw [if_neg (by omega)]; exact h1
      have hno : ¬ st.fits p := fun hf => by have := hf.1; rw [htu] at this; omega
      have e : st.step p = (⟨st.out, st.record, st.turn1 p, st.taken, st.which, st.of1 p⟩, false) := by rw [RS.step, if_neg hno]
      simp only [RS.steps, e, Bool.false_eq_true, if_false]
      exact ⟨trivial, htu, trivial⟩
theorem steps_have (turn : Nat) (ht : 0 < turn) (ht2 : turn < 65536) (tail : List (List Nat)) (h : ∀ s, tail.head? = some s → older turn s) : ∀ (l : List (List Nat)) (st : RS), (∀ b ∈ l, fineB b) → st.which = 0 → st.record = [] → (st.turn = 0 ∧ l ≠ [] ∨ st.turn = turn) →
    (st.steps (told (l.flatMap (piecesOf turn) ++ tail))).out = st.out ++ l ∧ (st.steps (told (l.flatMap (piecesOf turn) ++ tail))).turn = turn ∧ (st.steps (told (l.flatMap (piecesOf turn) ++ tail))).taken = st.taken + needsAll l
  | [], st, _, _, _, h3 => by
    have h4 : st.turn = turn := by rcases h3 with h | h; exact absurd rfl h.2; exact h
    have := steps_tail turn ht tail h st h4
    simpa [needsAll] using this
  | b :: l, st, hb, h1, h2, h3 => by
    have hfb := hb b (by simp)
    rw [List.flatMap_cons, List.append_assoc, told_app turn b hfb ht ht2, steps_pcs turn b ht hfb.1 _ st h1 h2 (by rcases h3 with h | h; exact .inl h.1; exact .inr h)]
    have ih := steps_have turn ht ht2 tail h l ⟨st.out ++ [b], [], turn, st.taken + needsN b, 0, needsN b⟩ (fun x hx => hb x (by simp [hx])) rfl rfl (.inr rfl)
    simp only [List.append_assoc, List.singleton_append] at ih
    refine ⟨ih.1, ih.2.1, ?_⟩
    rw [ih.2.2]
    simp [needsAll]
    omega
theorem recs_have (turn : Nat) (ht : 0 < turn) (ht2 : turn < 65536) (l tail : List (List Nat)) (h : ∀ s, tail.head? = some s → older turn s) (hl : ∀ b ∈ l, fineB b) (hne : l ≠ []) :
    (recsF (l.flatMap (piecesOf turn) ++ tail)).out = l ∧ (recsF (l.flatMap (piecesOf turn) ++ tail)).turn = turn ∧ (recsF (l.flatMap (piecesOf turn) ++ tail)).taken = needsAll l := by
  have := steps_have turn ht ht2 tail h l RS.zero hl rfl rfl (.inl ⟨rfl, hne⟩)
  simpa [recsF, RS.zero] using this
theorem steps_lt (T : Nat) : ∀ (ps : List Pc) (st : RS), (∀ p ∈ ps, p.turn < T) → st.turn < T → (st.steps ps).turn < T
  | [], st, _, h => h
  | p :: r, st, hp, h => by
    have h1 : st.turn1 p < T := by
      unfold RS.turn1
      split
      · exact hp p (by simp)
      · exact h
    have h2 : (st.step p).1.turn < T := by
      unfold RS.step
      split
      · split
        · exact h1
        · exact h1
      · exact h1
    rw [RS.steps]
    split
    · exact steps_lt T r _ (fun q hq => hp q (by simp [hq])) h2
    · exact h2
/-- the other half is of an older turn -/
theorem recs_older (turn : Nat) (ht : 0 < turn) (L : List (List Nat)) (h : ∀ s ∈ L, older turn s) : (recsF L).turn < turn :=
  steps_lt turn _ _ (fun p hp => by obtain ⟨s, h1, h2⟩ := told_mem L p hp; exact h s h1 p h2) ht
theorem recs_none (L : List (List Nat)) (h : ∀ s ∈ L, tellF s = none) : recsF L = RS.zero := by
  have e : told L = [] := by
    cases L with
    | nil => rfl
    | cons s r => rw [told, h s (by simp)]
  rw [recsF, e]; rfl
/-- what a log's disk holds -/
structure LP (d : DD) (half turn taken : Nat) (l : List (List Nat)) : Prop where
  up : d.down = false
  cut : d.cut = none
  h1 : half ≤ 1
  t0 : 0 < turn
  t1 : turn < 65536
  fine : ∀ b ∈ l, fineB b
  tk : taken = needsAll l
  room : taken ≤ d.L.length / 2
  body : (d.L.drop (half * (d.L.length / 2))).take taken = l.flatMap (piecesOf turn)
  rest : ∀ (i : Nat) (s : List Nat), d.L[i]? = some s → (i < half * (d.L.length / 2) ∨ half * (d.L.length / 2) + taken ≤ i) → older turn s
  start : l = [] → half = 0 ∧ turn = 1 ∧ ∀ s ∈ d.L, tellF s = none
theorem LP.current {d : DD} {half turn taken : Nat} {l : List (List Nat)} (h : LP d half turn taken l) (hne : l ≠ []) :
    (recsF (secs d (half * (d.L.length / 2)) (d.L.length / 2))).out = l ∧ (recsF (secs d (half * (d.L.length / 2)) (d.L.length / 2))).turn = turn ∧ (recsF (secs d (half * (d.L.length / 2)) (d.L.length / 2))).taken = taken := by
  have e : secs d (half * (d.L.length / 2)) (d.L.length / 2) = l.flatMap (piecesOf turn) ++ ((d.L.drop (half * (d.L.length / 2))).drop taken).take (d.L.length / 2 - taken) := by
    rw [secs, ← h.body, ← List.take_add, Nat.add_sub_cancel' h.room]
  rw [e, h.tk]
  refine recs_have turn h.t0 h.t1 l _ (fun s hs => ?_) h.fine hne
  have h1 := List.mem_of_mem_head? (Option.mem_def.2 hs)
  have h2 := List.mem_of_mem_take h1
  rw [List.drop_drop] at h2
  obtain ⟨j, hj⟩ := List.getElem?_of_mem h2
  rw [List.getElem?_drop] at hj
  exact h.rest _ s hj (.inr (by have := h.tk; omega))
theorem LP.other {d : DD} {half turn taken : Nat} {l : List (List Nat)} (h : LP d half turn taken l) : (recsF (secs d ((1 - half) * (d.L.length / 2)) (d.L.length / 2))).turn < turn := by
  refine recs_older turn h.t0 _ (fun s hs => ?_)
  rw [secs] at hs
  obtain ⟨j, hj⟩ := List.getElem?_of_mem hs
  rw [List.getElem?_take] at hj
  split at hj
  · rename_i hlt
    rw [List.getElem?_drop] at hj
    refine h.rest _ s hj ?_
    have h1 := h.h1
    have h2 := h.room
    have : half = 0 ∨ half = 1 := by omega
    rcases this with rfl | rfl
    · exact .inr (by simp; omega)
    · exact .inl (by simp; omega)
  · cases hj
theorem LP.opens_same {d : DD} {half turn taken : Nat} {l : List (List Nat)} (h : LP d half turn taken l) (hne : l ≠ []) : OS.from_ d 2 = ⟨l, half, turn, taken⟩ := by
  have e : OS.from_ d 2 = ((⟨[], 0, 1, 0⟩ : OS).step d 0).step d 1 := rfl
  have hl : 0 < l.length := List.length_pos_iff.2 hne
  obtain ⟨c1, c2, c3⟩ := h.current hne
  have o1 := h.other
  have hh := h.h1
  have : half = 0 ∨ half = 1 := by omega
  rcases this with rfl | rfl
  · have s0 : (⟨[], 0, 1, 0⟩ : OS).step d 0 = ⟨l, 0, turn, taken⟩ := by
      rw [OS.step, if_pos ⟨by rw [c1]; exact hl, .inl rfl⟩, c1, c2, c3]
    rw [e, s0, OS.step, if_neg]
    rintro ⟨_, h2 | h2⟩
    · simp only at h2; omega
    · simp only at h2
      simp at o1 h2
      omega
  · have key : ((⟨[], 0, 1, 0⟩ : OS).step d 0).out.length = 0 ∨ ((⟨[], 0, 1, 0⟩ : OS).step d 0).turn < turn := by
      rw [OS.step]
      split
      · exact .inr (by simpa using o1)
      · exact .inl rfl
    rw [e, OS.step, if_pos ⟨by rw [c1]; exact hl, by rw [c2]; exact key⟩, c1, c2, c3]
theorem opens_none (d : DD) (h : ∀ s ∈ d.L, tellF s = none) : OS.from_ d 2 = ⟨[], 0, 1, 0⟩ := by
  have hz : ∀ a b, recsF (secs d a b) = RS.zero := fun a b => recs_none _ (fun s hs => h s (List.mem_of_mem_drop (List.mem_of_mem_take hs)))
  have st : ∀ (s : OS) (j : Nat), s.step d j = s := fun s j => by
    rw [OS.step, hz, if_neg]
    rintro ⟨h1, _⟩
    simp [RS.zero] at h1
  show ((⟨[], 0, 1, 0⟩ : OS).step d 0).step d 1 = _
  rw [st, st]
end Go.Proofs.Ytcdgaeenfhpnkaa
/- Package log, plain: what write leaves on a disk that is up and not cut. -/
set_option linter.unusedVariables false
set_option linter.unusedSimpArgs false
set_option maxRecDepth 100000
namespace Go.Proofs.Ytcdgaeenfhpnkaa
open CrcMath

def putL (L : List (List Nat)) (a : Nat) (xs : List (List Nat)) : List (List Nat) := L.take a ++ xs ++ L.drop (a + xs.length)
theorem putL_set (L : List (List Nat)) (a : Nat) (x : List Nat) (xs : List (List Nat)) (h : a < L.length) : putL (L.set a x) (a + 1) xs = putL L a (x :: xs) := by
  unfold putL
  have e1 : (L.set a x).take (a + 1) = L.take a ++ [x] := by
    rw [List.take_succ_eq_append_getElem (by rw [List.length_set]; exact h), List.take_set_of_le (Nat.le_refl _), List.getElem_set_self]
  have e2 : (L.set a x).drop (a + 1 + xs.length) = L.drop (a + (x :: xs).length) := by
    rw [List.drop_set_of_lt (by omega), List.length_cons]
    congr 1
    omega
  rw [e1, e2]
  simp
theorem write_good (d : DD) (a : Nat) (x : List Nat) (hd : d.down = false) (hc : d.cut = none) (ha : a < d.L.length) (hx : x.length = 64) : d.write (a : Int) x = (0, { d with L := d.L.set a x, writes := d.writes + 1 }) := by
  have hp : pad x = x := by simp [pad, hx]
  rw [DD.write, if_neg (by rw [hd]; simp), if_pos ⟨by omega, by omega, by omega⟩, hc]
  simp only [hp, Int.toNat_natCast]
theorem putL_nil (L : List (List Nat)) (a : Nat) : putL L a [] = L := by simp [putL]
theorem wrF_good (fr turn : Nat) (b : List Nat) (hb : b.length ≤ 448) : ∀ (r k : Nat) (d : DD), d.down = false → d.cut = none → fr + k + r ≤ d.L.length → k + r ≤ needsN b →
    wrF fr turn b d (List.range' k r) = (0, { d with L := putL d.L (fr + k) ((List.range' k r).map fun i => secP turn i (needsN b) (chunkN b i)), writes := d.writes + r })
  | 0, k, d, _, _, _, _ => by simp [wrF, putL_nil]
  | r + 1, k, d, hd, hc, hl, hm => by
    have hx : (secP turn k (needsN b) (chunkN b k)).length = 64 := secP_len _ _ _ _ (chunk_lt b k (by omega)).2.1
    have hw := write_good d (fr + k) _ hd hc (by omega) hx
    have e : ((fr : Int) + (k : Int)) = ((fr + k : Nat) : Int) := by omega
    rw [List.range'_succ, wrF, e, hw, if_pos rfl]
    have ih := wrF_good fr turn b hb r (k + 1) { d with L := d.L.set (fr + k) (secP turn k (needsN b) (chunkN b k)), writes := d.writes + 1 } hd hc (by simp only [List.length_set]; omega) (by omega)
    rw [ih]
    have h2 := putL_set d.L (fr + k) (secP turn k (needsN b) (chunkN b k)) ((List.range' (k + 1) r).map fun i => secP turn i (needsN b) (chunkN b i)) (by omega)
    simp only [List.map_cons, ← h2, Nat.add_assoc, Nat.add_comm 1 r]
theorem LP.fresh (m : Int) : LP (DD.fresh m) 0 1 0 [] := by
  have hz : ∀ s ∈ (DD.fresh m).L, s = List.replicate 64 0 := fun s hs => (List.mem_replicate.1 hs).2
  refine ⟨rfl, rfl, by omega, by omega, by omega, fun b hb => by simp at hb, rfl, by omega, by simp, fun i s hs _ p hp => ?_, fun _ => ⟨rfl, rfl, fun s hs => ?_⟩⟩
  · rw [hz s (List.mem_of_getElem? hs), tell_zeros] at hp; cases hp
  · rw [hz s hs, tell_zeros]
end Go.Proofs.Ytcdgaeenfhpnkaa
/- Package log, plain: Add and Compact keep what a log's disk holds. -/
set_option linter.unusedVariables false
set_option linter.unusedSimpArgs false
set_option maxRecDepth 100000
namespace Go.Proofs.Ytcdgaeenfhpnkaa
open CrcMath

theorem putL_len (L : List (List Nat)) (a : Nat) (xs : List (List Nat)) (h : a + xs.length ≤ L.length) : (putL L a xs).length = L.length := by
  unfold putL
  simp only [List.length_append, List.length_take, List.length_drop]
  omega
theorem putL_out (L : List (List Nat)) (a : Nat) (xs : List (List Nat)) (h : a + xs.length ≤ L.length) (i : Nat) (hi : i < a ∨ a + xs.length ≤ i) : (putL L a xs)[i]? = L[i]? := by
  unfold putL
  rcases hi with hi | hi
  · rw [List.append_assoc, List.getElem?_append_left (by rw [List.length_take]; omega), List.getElem?_take, if_pos hi]
  · rw [List.getElem?_append_right (by simp only [List.length_append, List.length_take]; omega), List.getElem?_drop]
    congr 1
    simp only [List.length_append, List.length_take]
    omega
theorem putL_body (L : List (List Nat)) (o t : Nat) (xs : List (List Nat)) (h : o + t + xs.length ≤ L.length) : ((putL L (o + t) xs).drop o).take (t + xs.length) = (L.drop o).take t ++ xs := by
  unfold putL
  have e1 : L.take (o + t) = L.take o ++ (L.drop o).take t := List.take_add
  have l1 : (L.take o).length = o := by rw [List.length_take]; omega
  have l2 : ((L.drop o).take t).length = t := by rw [List.length_take, List.length_drop]; omega
  rw [e1, List.append_assoc, List.append_assoc]
  rw [List.drop_append_of_le_length (by rw [l1]; exact Nat.le_refl _), List.drop_of_length_le (by rw [l1]; exact Nat.le_refl _), List.nil_append, ← List.append_assoc]
  rw [List.take_append_of_le_length (by rw [List.length_append, l2]; exact Nat.le_refl _), List.take_of_length_le (by rw [List.length_append, l2]; exact Nat.le_refl _)]
theorem pieces_len (turn : Nat) (b : List Nat) : (piecesOf turn b).length = needsN b := by unfold piecesOf; simp
theorem wr_all (fr turn : Nat) (b : List Nat) (d : DD) (hb : b.length ≤ 448) (hd : d.down = false) (hc : d.cut = none) (hl : fr + needsN b ≤ d.L.length) :
    wrF fr turn b d (List.range (needsN b)) = (0, { d with L := putL d.L fr (piecesOf turn b), writes := d.writes + needsN b }) := by
  have h := wrF_good fr turn b hb (needsN b) 0 d hd hc (by omega) (by omega)
  rw [← List.range_eq_range', Nat.add_zero] at h
  exact h
theorem half_fits {half taken n S len : Nat} (h1 : half ≤ 1) (h2 : taken + n ≤ S) (hS : S = len / 2) : half * S + taken + n ≤ len := by
  have : half = 0 ∨ half = 1 := by omega
  rcases this with rfl | rfl <;> omega
theorem LP.add {d : DD} {half turn taken : Nat} {l : List (List Nat)} (h : LP d half turn taken l) (b : List Nat) (hb : fineB b) (hr : taken + needsN b ≤ d.L.length / 2) :
    ∃ d' : DD, wrF (half * (d.L.length / 2) + taken) turn b d (List.range (needsN b)) = (0, d') ∧ LP d' half turn (taken + needsN b) (l ++ [b]) ∧ d'.writes = d.writes + needsN b ∧ d'.L.length = d.L.length := by
  have hfit := half_fits h.h1 hr rfl
  have hpl := pieces_len turn b
  have hlen : (putL d.L (half * (d.L.length / 2) + taken) (piecesOf turn b)).length = d.L.length := putL_len _ _ _ (by rw [hpl]; exact hfit)
  refine ⟨_, wr_all _ turn b d hb.2.1 h.up h.cut hfit, ⟨h.up, h.cut, h.h1, h.t0, h.t1, ?_, ?_, ?_, ?_, ?_, fun e => by simp at e⟩, rfl, hlen⟩
  · intro x hx
    rcases List.mem_append.1 hx with hx | hx
    · exact h.fine x hx
    · rw [List.mem_singleton.1 hx]; exact hb
  · rw [h.tk]; simp [needsAll]
  · show _ ≤ (putL _ _ _).length / 2
    rw [hlen]; exact hr
  · show ((putL d.L _ _).drop (half * ((putL d.L _ _).length / 2))).take _ = _
    rw [hlen]
    have := putL_body d.L (half * (d.L.length / 2)) taken (piecesOf turn b) (by rw [hpl]; exact hfit)
    rw [hpl] at this
    rw [this, h.body]
    simp
  · intro i s hs hi
    have hs' : (putL d.L (half * (d.L.length / 2) + taken) (piecesOf turn b))[i]? = some s := hs
    have hi' : i < half * ((putL d.L (half * (d.L.length / 2) + taken) (piecesOf turn b)).length / 2) ∨ half * ((putL d.L (half * (d.L.length / 2) + taken) (piecesOf turn b)).length / 2) + (taken + needsN b) ≤ i := hi
    rw [hlen] at hi'
    rw [putL_out _ _ _ (by rw [hpl]; exact hfit) i (by rw [hpl]; omega)] at hs'
    exact h.rest i s hs' (by omega)
theorem older_mono {t t' : Nat} {s : List Nat} (h : older t s) (ht : t ≤ t') : older t' s := fun p hp => by have := h p hp; omega
theorem LP.all_older {d : DD} {half turn taken : Nat} {l : List (List Nat)} (h : LP d half turn taken l) (i : Nat) (s : List Nat) (hs : d.L[i]? = some s) : older (turn + 1) s := by
  by_cases hi : i < half * (d.L.length / 2) ∨ half * (d.L.length / 2) + taken ≤ i
  · exact older_mono (h.rest i s hs hi) (by omega)
  · have hg : ((d.L.drop (half * (d.L.length / 2))).take taken)[i - half * (d.L.length / 2)]? = some s := by
      rw [List.getElem?_take, if_pos (by omega), List.getElem?_drop, show half * (d.L.length / 2) + (i - half * (d.L.length / 2)) = i by omega]
      exact hs
    rw [h.body] at hg
    have hm := List.mem_of_getElem? hg
    rw [List.mem_flatMap] at hm
    obtain ⟨b, hb, hm⟩ := hm
    unfold piecesOf at hm
    rw [List.mem_map] at hm
    obtain ⟨j, hj, rfl⟩ := hm
    intro p hp
    rw [tell_piece turn b (h.fine b hb) h.t0 h.t1 j (List.mem_range.1 hj)] at hp
    injection hp with hp
    subst hp
    show turn < turn + 1
    omega
theorem LP.comp {d : DD} {half turn taken : Nat} {l : List (List Nat)} (h : LP d half turn taken l) (b : List Nat) (hb : fineB b) (hr : needsN b ≤ d.L.length / 2) (ht : turn < 65535) :
    ∃ d' : DD, wrF ((1 - half) * (d.L.length / 2)) (turn + 1) b d (List.range (needsN b)) = (0, d') ∧ LP d' (1 - half) (turn + 1) (needsN b) [b] ∧ d'.writes = d.writes + needsN b ∧ d'.L.length = d.L.length := by
  have hfit : (1 - half) * (d.L.length / 2) + 0 + needsN b ≤ d.L.length := half_fits (taken := 0) (by omega) (by omega) rfl
  rw [Nat.add_zero] at hfit
  have hpl := pieces_len (turn + 1) b
  have hlen : (putL d.L ((1 - half) * (d.L.length / 2)) (piecesOf (turn + 1) b)).length = d.L.length := putL_len _ _ _ (by rw [hpl]; exact hfit)
  refine ⟨_, wr_all _ (turn + 1) b d hb.2.1 h.up h.cut hfit, ⟨h.up, h.cut, by omega, by omega, by omega, ?_, ?_, ?_, ?_, ?_, fun e => by simp at e⟩, rfl, hlen⟩
  · intro x hx
    rw [List.mem_singleton.1 hx]; exact hb
  · simp [needsAll]
  · show _ ≤ (putL _ _ _).length / 2
    rw [hlen]; exact hr
  · show ((putL d.L _ _).drop ((1 - half) * ((putL d.L _ _).length / 2))).take _ = _
    rw [hlen]
    have := putL_body d.L ((1 - half) * (d.L.length / 2)) 0 (piecesOf (turn + 1) b) (by rw [hpl]; omega)
    rw [hpl, Nat.zero_add, Nat.add_zero] at this
    rw [this]
    simp
  · intro i s hs hi
    have hs' : (putL d.L ((1 - half) * (d.L.length / 2)) (piecesOf (turn + 1) b))[i]? = some s := hs
    have hi' : i < (1 - half) * ((putL d.L ((1 - half) * (d.L.length / 2)) (piecesOf (turn + 1) b)).length / 2) ∨ (1 - half) * ((putL d.L ((1 - half) * (d.L.length / 2)) (piecesOf (turn + 1) b)).length / 2) + needsN b ≤ i := hi
    rw [hlen] at hi'
    rw [putL_out _ _ _ (by rw [hpl]; exact hfit) i (by rw [hpl]; omega)] at hs'
    exact h.all_older i s hs'
theorem LP.opens {d : DD} {half turn taken : Nat} {l : List (List Nat)} (h : LP d half turn taken l) : OS.from_ d 2 = ⟨l, half, turn, taken⟩ := by
  by_cases hne : l = []
  · obtain ⟨h1, h2, h3⟩ := h.start hne
    have h4 := h.tk
    rw [hne] at h4
    subst h1 h2 hne
    rw [opens_none d h3, h4]
    rfl
  · exact h.opens_same hne
end Go.Proofs.Ytcdgaeenfhpnkaa
