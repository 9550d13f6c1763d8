/- The document's log, in plain Lean: what it finds on sectors is what stands. -/
import Derived.Test.YtcdgaeenfhpnkaaPk35
set_option linter.unusedVariables false
set_option linter.unusedSimpArgs false
set_option maxRecDepth 100000
namespace Go.Proofs.Ytcdgaeenfhpnkaa.Cr
open CrcMath

/-- the sectors behind the first of a record -/
def recK (turn of_ : Nat) : Nat → Nat → List (List Nat) → Option (List Nat)
  | _, 0, _ => some []
  | _, _ + 1, [] => none
  | i, k + 1, s :: S => match tellF s with
    | none => none
    | some p => if p.turn = turn ∧ p.which = i ∧ p.of_ = of_ then (recK turn of_ (i + 1) k S).map (p.bytes ++ ·) else none
/-- a record, of a turn (0: of any) -/
def recF (turn : Nat) : List (List Nat) → Option (List Nat × Nat)
  | [] => none
  | s :: S => match tellF s with
    | none => none
    | some p => if (turn = 0 ∨ p.turn = turn) ∧ p.which = 0 then (recK p.turn p.of_ 1 (p.of_ - 1) S).map fun x => (p.bytes ++ x, p.turn) else none
/-- records: with their turn, and how many sectors they have -/
def recsR : Nat → Nat → List (List Nat) → List (List Nat) × Nat × Nat
  | 0, t, _ => ([], t, 0)
  | f + 1, t, S => match recF t S with
    | none => ([], t, 0)
    | some (b, u) => (b :: (recsR f u (S.drop (needsN b))).1, (recsR f u (S.drop (needsN b))).2.1, needsN b + (recsR f u (S.drop (needsN b))).2.2)
/-- what Open finds -/
def openR (D : List (List Nat)) : OS :=
  if 0 < (recsR (D.length / 2) 0 ((D.drop (D.length / 2)).take (D.length / 2))).1.length ∧ (recsR (D.length / 2) 0 (D.take (D.length / 2))).2.1 < (recsR (D.length / 2) 0 ((D.drop (D.length / 2)).take (D.length / 2))).2.1 then
    ⟨(recsR (D.length / 2) 0 ((D.drop (D.length / 2)).take (D.length / 2))).1, 1, (recsR (D.length / 2) 0 ((D.drop (D.length / 2)).take (D.length / 2))).2.1, (recsR (D.length / 2) 0 ((D.drop (D.length / 2)).take (D.length / 2))).2.2⟩
  else if 0 < (recsR (D.length / 2) 0 (D.take (D.length / 2))).1.length then ⟨(recsR (D.length / 2) 0 (D.take (D.length / 2))).1, 0, (recsR (D.length / 2) 0 (D.take (D.length / 2))).2.1, (recsR (D.length / 2) 0 (D.take (D.length / 2))).2.2⟩
  else ⟨[], 0, 1, 0⟩

theorem tell_len {s : List Nat} {p : Pc} (hl : s.length = 64) (h : tellF s = some p) : 0 < p.bytes.length ∧ p.bytes.length ≤ 56 ∧ (p.which + 1 < p.of_ → p.bytes.length = 56) ∧ p.which < p.of_ ∧ p.of_ ≤ 8 := by
  unfold tellF at h
  split at h
  · have hb : (s.take 62).length = 62 := by rw [List.length_take, hl]; rfl
    unfold tellB at h
    split at h
    · simp at h
    · split at h
      · simp at h
      · split at h
        · simp at h
        · split at h
          · simp only [Option.some.injEq] at h
            rw [← h]
            rename_i h1 h2 h3 h4
            dsimp only
            rw [List.length_take, List.length_drop, hb]
            refine ⟨by omega, by omega, fun h5 => ?_, by omega, by omega⟩
            have : ¬ (s.take 62).getD 5 0 ≠ 56 := fun h6 => h3 ⟨h5, h6⟩
            omega
          · simp at h
  · simp at h
theorem recK_len (turn of_ : Nat) : ∀ (k i : Nat) (S : List (List Nat)) (x : List Nat), (∀ s ∈ S, s.length = 64) → i + k = of_ → recK turn of_ i k S = some x → (x.length + 55) / 56 = k ∧ k ≤ S.length
  | 0, i, S, x, _, _, h => by
    simp only [recK, Option.some.injEq] at h
    rw [← h]
    exact ⟨rfl, Nat.zero_le _⟩
  | k + 1, i, [], x, _, _, h => by simp [recK] at h
  | k + 1, i, s :: S, x, hs, hi, h => by
    rw [recK] at h
    split at h
    · cases h
    · rename_i p hp
      split at h
      · rename_i hc
        cases hr : recK turn of_ (i + 1) k S with
        | none => rw [hr] at h; simp at h
        | some y =>
          rw [hr] at h
          simp only [Option.map_some, Option.some.injEq] at h
          obtain ⟨g1, g2⟩ := recK_len turn of_ k (i + 1) S y (fun s' h' => hs s' (List.mem_cons_of_mem _ h')) (by omega) hr
          obtain ⟨t1, t2, t3, t4, t5⟩ := tell_len (hs s List.mem_cons_self) hp
          rw [← h, List.length_append, List.length_cons]
          refine ⟨?_, by omega⟩
          by_cases hk : k = 0
          · subst hk
            rw [recK] at hr
            injection hr with hr
            rw [← hr]
            simp
            omega
          · have := t3 (by omega)
            omega
      · cases h
theorem recF_len {t u : Nat} {S : List (List Nat)} {b : List Nat} (hs : ∀ s ∈ S, s.length = 64) (h : recF t S = some (b, u)) : 1 ≤ needsN b ∧ needsN b ≤ S.length ∧ needsN b ≤ 8 ∧ 0 < u ∧ (t = 0 ∨ u = t) ∧ b ≠ [] := by
  cases S with
  | nil => cases h
  | cons s S =>
    rw [recF] at h
    split at h
    · cases h
    · rename_i p hp
      split at h
      · rename_i hc
        cases hr : recK p.turn p.of_ 1 (p.of_ - 1) S with
        | none => rw [hr] at h; simp at h
        | some y =>
          rw [hr] at h
          simp only [Option.map_some, Option.some.injEq, Prod.mk.injEq] at h
          obtain ⟨t1, t2, t3, t4, t5⟩ := tell_len (hs s List.mem_cons_self) hp
          obtain ⟨g1, g2⟩ := recK_len p.turn p.of_ (p.of_ - 1) 1 S y (fun s' h' => hs s' (List.mem_cons_of_mem _ h')) (by omega) hr
          have hn : needsN b = p.of_ := by
            unfold needsN
            rw [← h.1, List.length_append]
            by_cases hk : p.of_ - 1 = 0
            · rw [hk, recK] at hr
              injection hr with hr
              rw [← hr]
              simp
              omega
            · have := t3 (by omega)
              omega
          rw [List.length_cons]
          refine ⟨by omega, by omega, by omega, by rw [← h.2]; exact tell_turn hp, by rw [← h.2]; exact hc.1, fun e => ?_⟩
          have h1 := h.1
          rw [e] at h1
          have := congrArg List.length h1
          rw [List.length_append, List.length_nil] at this
          omega
      · cases h
theorem recK_pieces (turn : Nat) (b : List Nat) (hb : fineB b) (ht : 0 < turn) (ht2 : turn < 65536) (rest : List (List Nat)) : ∀ (k i : Nat), i + k = needsN b → recK turn (needsN b) i k ((List.range' i k).map (pieceA turn b) ++ rest) = some (b.drop (56 * i))
  | 0, i, h => by
    rw [recK]
    have : b.length ≤ 56 * i := by unfold needsN at h; omega
    rw [List.drop_eq_nil_of_le this]
  | k + 1, i, h => by
    rw [List.range'_succ, List.map_cons, List.cons_append, recK]
    have e := tell_piece turn b hb ht ht2 i (by omega)
    rw [show pieceA turn b i = secP turn i (needsN b) (chunkN b i) from rfl, e]
    dsimp only
    rw [if_pos ⟨rfl, rfl, rfl⟩, recK_pieces turn b hb ht ht2 rest k (i + 1) (by omega)]
    simp only [Option.map_some, Option.some.injEq]
    unfold chunkN
    rw [show 56 * (i + 1) = 56 * i + 56 by omega, ← List.drop_drop, List.take_append_drop]
theorem recF_piece {turn t : Nat} {b : List Nat} (hb : fineB b) (ht : 0 < turn) (ht2 : turn < 65536) (h : t = 0 ∨ t = turn) (rest : List (List Nat)) : recF t (piecesOf turn b ++ rest) = some (b, turn) := by
  obtain ⟨k, hk⟩ : ∃ k, needsN b = k + 1 := ⟨needsN b - 1, by unfold needsN; have := hb.1; omega⟩
  have e := tell_piece turn b hb ht ht2 0 (by omega)
  rw [← range_pieces, hk, List.range'_succ, List.map_cons, List.cons_append, recF, show pieceA turn b 0 = secP turn 0 (needsN b) (chunkN b 0) from rfl, e]
  dsimp only
  rw [if_pos ⟨by omega, rfl⟩, show needsN b - 1 = k by omega, recK_pieces turn b hb ht ht2 rest k 1 (by omega)]
  simp only [Option.map_some, Option.some.injEq, Prod.mk.injEq, and_true]
  unfold chunkN
  simp
theorem recK_left (T of_ : Nat) : ∀ (k i : Nat) (S : List (List Nat)), 0 < k → i + k = of_ → (∀ j s p, S[j]? = some s → tellF s = some p → Left T (i + j) p) → recK T of_ i k S = none
  | 0, _, _, h, _, _ => absurd h (by omega)
  | k + 1, i, [], _, _, _ => rfl
  | k + 1, i, s :: S, _, hi, h => by
    rw [recK]
    split
    · rfl
    · rename_i p hp
      split
      · rename_i hc
        have h0 := h 0 s p rfl hp hc.1
        rw [recK_left T of_ k (i + 1) S (by omega) (by omega) (fun j s' p' hj hp' => by have := h (j + 1) s' p' (by simpa using hj) hp'; rwa [show i + 1 + j = i + (j + 1) by omega])]
        rfl
      · rfl
theorem recF_left {t T : Nat} {S : List (List Nat)} (h : ∀ j s p, S[j]? = some s → tellF s = some p → Left T j p) (h0 : ∀ s p, S[0]? = some s → tellF s = some p → t = 0 ∨ p.turn = t → p.turn = T) : recF t S = none := by
  cases S with
  | nil => rfl
  | cons s S =>
    rw [recF]
    split
    · rfl
    · rename_i p hp
      split
      · rename_i hc
        have e := h0 s p rfl hp hc.1
        have hl := h 0 s p rfl hp e
        rw [e, recK_left T p.of_ (p.of_ - 1) 1 S (by omega) (by omega) (fun j s' p' hj hp' => by have := h (j + 1) s' p' (by simpa using hj) hp'; rwa [show 1 + j = j + 1 by omega])]
        rfl
      · rfl
theorem recsR_none {f t : Nat} {S : List (List Nat)} (h : recF t S = none) : recsR f t S = ([], t, 0) := by
  cases f with
  | zero => rfl
  | succ f => rw [recsR, h]
theorem recsR_turn : ∀ (f t : Nat) (S : List (List Nat)), 0 < t → (∀ s ∈ S, s.length = 64) → (recsR f t S).2.1 = t
  | 0, t, S, _, _ => rfl
  | f + 1, t, S, h, hs => by
    rw [recsR]
    split
    · rfl
    · rename_i b u hr
      obtain ⟨_, _, _, h1, h2, _⟩ := recF_len hs hr
      dsimp only
      rw [recsR_turn f u _ h1 (fun s hm => hs s (List.mem_of_mem_drop hm))]
      omega
theorem recsR_have (turn : Nat) (ht : 0 < turn) (ht2 : turn < 65536) (tail : List (List Nat)) (hl : ∀ i s p, tail[i]? = some s → tellF s = some p → Left turn i p) : ∀ (L : List (List Nat)) (f t : Nat), (∀ b ∈ L, fineB b) → L.length ≤ f → (t = turn ∨ t = 0 ∧ L ≠ []) →
    recsR f t (L.flatMap (piecesOf turn) ++ tail) = (L, turn, needsAll L)
  | [], f, t, _, _, h => by
    have h : t = turn := by rcases h with h | h; exact h; exact absurd rfl h.2
    subst h
    show recsR f t tail = _
    rw [recsR_none (recF_left (T := t) hl (fun s p _ _ h => by omega))]
    rfl
  | b :: L, f, t, hb, hf, h => by
    rw [List.length_cons] at hf
    obtain ⟨f, rfl⟩ : ∃ g, f = g + 1 := ⟨f - 1, by omega⟩
    rw [List.flatMap_cons, List.append_assoc, recsR, recF_piece (hb b List.mem_cons_self) ht ht2 (by omega)]
    dsimp only
    have e : (piecesOf turn b ++ (L.flatMap (piecesOf turn) ++ tail)).drop (needsN b) = L.flatMap (piecesOf turn) ++ tail := by
      rw [← pieces_len turn b, List.drop_left]
    rw [e, recsR_have turn ht ht2 tail hl L f turn (fun x hx => hb x (List.mem_cons_of_mem _ hx)) (by omega) (.inl rfl)]
    simp [needsAll]
theorem recsR_other {T f : Nat} {S : List (List Nat)} (hT : 0 < T) (hs : ∀ s ∈ S, s.length = 64) (h : ∀ i s p, S[i]? = some s → tellF s = some p → p.turn < T ∨ p.turn = T + 1 ∧ Left (T + 1) i p) : (recsR f 0 S).2.1 < T ∧ (T = 1 → (recsR f 0 S).1 = []) := by
  cases hr : recF 0 S with
  | none => rw [recsR_none hr]; exact ⟨hT, fun _ => rfl⟩
  | some x =>
    obtain ⟨b, u⟩ := x
    cases S with
    | nil => cases hr
    | cons s S =>
      have hr0 := hr
      rw [recF] at hr
      split at hr
      · cases hr
      · rename_i p hp
        have hpu : p.turn = u := by
          split at hr
          · cases hk : recK p.turn p.of_ 1 (p.of_ - 1) S with
            | none => rw [hk] at hr; simp at hr
            | some y =>
              rw [hk] at hr
              simp only [Option.map_some, Option.some.injEq, Prod.mk.injEq] at hr
              exact hr.2
          · cases hr
        rcases h 0 s p rfl hp with h1 | ⟨h1, _⟩
        · refine ⟨?_, fun e => ?_⟩
          · cases f with
            | zero => exact hT
            | succ f =>
              rw [recsR, hr0]
              dsimp only
              rw [recsR_turn f u _ (by have := tell_turn hp; omega) (fun s' hm => hs s' (List.mem_of_mem_drop hm))]
              omega
          · have := tell_turn hp
            omega
        · exfalso
          have : recF 0 (s :: S) = none := recF_left (T := T + 1) (fun i s' p' hi hp' => by
            rcases h i s' p' hi hp' with h2 | ⟨_, h2⟩
            · intro h3; omega
            · exact h2) (fun s' p' hs' hp' _ => by
            simp only [List.getElem?_cons_zero, Option.some.injEq] at hs'
            rw [← hs', hp] at hp'
            injection hp' with hp'
            rw [← hp']
            exact h1)
          rw [this] at hr0
          cases hr0
theorem needs_count : ∀ (L : List (List Nat)), (∀ b ∈ L, fineB b) → L.length ≤ needsAll L
  | [], _ => Nat.zero_le _
  | b :: L, h => by
    have h1 := needs_count L (fun x hx => h x (List.mem_cons_of_mem _ hx))
    have h2 := (h b List.mem_cons_self).1
    have : needsAll (b :: L) = needsN b + needsAll L := by simp [needsAll]
    rw [this, List.length_cons]
    unfold needsN
    omega
theorem J.len {D : List (List Nat)} {half turn taken : Nat} {L : List (List Nat)} (h : J D half turn taken L) : L.length ≤ D.length / 2 := by
  have h1 := needs_count L h.fine
  have h2 := h.tk
  have h3 := h.room
  omega
theorem J.openR {D : List (List Nat)} {half turn taken : Nat} {L : List (List Nat)} (h : J D half turn taken L) (hs : ∀ s ∈ D, s.length = 64) : openR D = ⟨L, half, turn, taken⟩ := by
  have hh := h.h1
  have h0 := h.t0
  have hlen := h.len
  have hs1 : ∀ (a n : Nat), ∀ s ∈ (D.drop a).take n, s.length = 64 := fun a n s hm => hs s (List.mem_of_mem_drop (List.mem_of_mem_take hm))
  have cur : ∀ t, t = turn ∨ t = 0 ∧ L ≠ [] → recsR (D.length / 2) t ((D.drop (half * (D.length / 2))).take (D.length / 2)) = (L, turn, taken) := fun t ht => by
    have e : (D.drop (half * (D.length / 2))).take (D.length / 2) = L.flatMap (piecesOf turn) ++ ((D.drop (half * (D.length / 2))).drop taken).take (D.length / 2 - taken) := by
      rw [← h.body, ← List.take_add, Nat.add_sub_cancel' h.room]
    rw [e, recsR_have turn h0 h.t1 _ (fun i s p hi hp => by
      rw [List.getElem?_take] at hi
      split at hi
      · rename_i hlt
        rw [List.drop_drop, List.getElem?_drop] at hi
        exact (h.cur i s p (by omega) (by rw [← Nat.add_assoc]; exact hi) hp).2
      · cases hi) L (D.length / 2) t h.fine hlen ht, h.tk]
  have oth : (recsR (D.length / 2) 0 ((D.drop ((1 - half) * (D.length / 2))).take (D.length / 2))).2.1 < turn ∧ (turn = 1 → (recsR (D.length / 2) 0 ((D.drop ((1 - half) * (D.length / 2))).take (D.length / 2))).1 = []) :=
    recsR_other h0 (hs1 _ _) (fun i s p hi hp => by
      rw [List.getElem?_take] at hi
      split at hi
      · rename_i hlt
        rw [List.getElem?_drop] at hi
        exact h.oth i s p hlt hi hp
      · cases hi)
  have hd0 : D.drop (0 * (D.length / 2)) = D := by rw [Nat.zero_mul]; rfl
  by_cases hne : L = []
  · obtain ⟨g1, g2⟩ := h.start hne
    have g3 := h.tk
    subst g1 g2 hne
    have g3 : taken = 0 := g3
    subst g3
    have z0 : recF 0 (D.take (D.length / 2)) = none := recF_left (T := 1) (fun i s p hi hp => by
      rw [List.getElem?_take] at hi
      split at hi
      · rename_i hlt
        exact (h.cur i s p (by omega) (by rw [Nat.zero_mul, Nat.zero_add, Nat.zero_add]; exact hi) hp).2
      · cases hi) (fun s p hi hp _ => by
      rw [List.getElem?_take] at hi
      split at hi
      · rename_i hlt
        have := (h.cur 0 s p (by omega) (by rw [Nat.zero_mul, Nat.zero_add, Nat.zero_add]; exact hi) hp).1
        have := tell_turn hp
        omega
      · cases hi)
    rw [show (1 - 0) * (D.length / 2) = D.length / 2 by omega] at oth
    unfold Cr.openR
    rw [oth.2 rfl, recsR_none z0]
    rfl
  · have hl : 0 < L.length := List.length_pos_iff.2 hne
    have c0 := cur 0 (.inr ⟨rfl, hne⟩)
    have : half = 0 ∨ half = 1 := by omega
    rcases this with rfl | rfl
    · rw [hd0] at c0
      rw [show (1 - 0) * (D.length / 2) = D.length / 2 by omega] at oth
      unfold Cr.openR
      rw [c0, if_neg (by intro hx; have := hx.2; dsimp only at this; omega), if_pos hl]
    · rw [Nat.one_mul] at c0
      rw [show (1 - 1) * (D.length / 2) = 0 by omega] at oth
      have oth1 : (recsR (D.length / 2) 0 (D.take (D.length / 2))).2.1 < turn := oth.1
      unfold Cr.openR
      rw [c0, if_pos ⟨hl, oth1⟩]

/-! ### what get answers -/
structure Gt where
  t : Nat
  which : Nat
  many : Nat
  part : List Nat
def getB (b : List Nat) : Gt :=
  if b.getD 0 0 ≠ 87 ∨ 56 < b.getD 5 0 then ⟨0, 0, 0, []⟩
  else if (b.drop (6 + b.getD 5 0)).all (fun x => x == 0) then ⟨256 * b.getD 1 0 + b.getD 2 0, b.getD 3 0, b.getD 4 0, (b.drop 6).take (b.getD 5 0)⟩
  else ⟨0, 0, 0, []⟩
def getF (s : List Nat) : Gt := if opens s then getB (s.take 62) else ⟨0, 0, 0, []⟩
/-- it is none of a record's -/
def Bad (g : Gt) (turn of_ i : Nat) : Prop := g.t = 0 ∨ g.t ≠ turn ∨ g.which ≠ i ∨ g.many ≠ of_ ∨ of_ < 1 ∨ 8 < of_ ∨ i + 1 < of_ ∧ g.part.length ≠ 56 ∨ g.part.length = 0
instance (g : Gt) (turn of_ i : Nat) : Decidable (Bad g turn of_ i) := by unfold Bad; infer_instance
theorem fit_yes {s : List Nat} {turn of_ i : Nat} (hl : s.length = 64) (hi : i < of_) (h : ¬ Bad (getF s) turn of_ i) : tellF s = some ⟨turn, i, of_, (getF s).part⟩ := by
  have hb : (s.take 62).length = 62 := by rw [List.length_take, hl]; rfl
  by_cases ho : opens s
  · have e : getF s = getB (s.take 62) := if_pos ho
    rw [e] at h ⊢
    unfold tellF
    rw [if_pos ho]
    unfold getB at h ⊢
    split at h
    · exact absurd (.inl rfl) h
    · rename_i h1
      rw [if_neg h1]
      split at h
      · rename_i h2
        rw [if_pos h2]
        unfold Bad at h
        dsimp only at h ⊢
        have hpl : (List.take ((s.take 62).getD 5 0) (List.drop 6 (s.take 62))).length = (s.take 62).getD 5 0 := by
          rw [List.length_take, List.length_drop, hb]; omega
        rw [hpl] at h
        unfold tellB
        rw [if_neg (by omega), if_neg (by omega), if_neg (by omega), if_pos h2]
        congr 2 <;> omega
      · exact absurd (.inl rfl) h
  · have e : getF s = ⟨0, 0, 0, []⟩ := if_neg ho
    rw [e] at h
    exact absurd (.inl rfl) h
theorem fit_no {s : List Nat} {turn of_ i : Nat} {p : Pc} (hl : s.length = 64) (h : Bad (getF s) turn of_ i) (hp : tellF s = some p) : ¬ (p.turn = turn ∧ p.which = i ∧ p.of_ = of_) := by
  rintro ⟨h1, h2, h3⟩
  have hlen := tell_len hl hp
  have htu := tell_turn hp
  have key : getF s = ⟨p.turn, p.which, p.of_, p.bytes⟩ := by
    unfold tellF at hp
    split at hp
    · rename_i ho
      unfold getF
      rw [if_pos ho]
      unfold tellB at hp
      split at hp
      · simp at hp
      · split at hp
        · simp at hp
        · split at hp
          · simp at hp
          · split at hp
            · simp only [Option.some.injEq] at hp
              rename_i k1 k2 k3 k4
              unfold getB
              rw [if_neg (by omega), if_pos k4, ← hp]
              congr 1
              dsimp only
              omega
            · simp at hp
    · simp at hp
  rw [key] at h
  unfold Bad at h
  dsimp only at h
  omega
theorem get_tell {s : List Nat} {p : Pc} (hl : s.length = 64) (hp : tellF s = some p) : getF s = ⟨p.turn, p.which, p.of_, p.bytes⟩ := by
  unfold tellF at hp
  split at hp
  · rename_i ho
    unfold getF
    rw [if_pos ho]
    unfold tellB at hp
    split at hp
    · simp at hp
    · split at hp
      · simp at hp
      · split at hp
        · simp at hp
        · split at hp
          · simp only [Option.some.injEq] at hp
            rename_i k1 k2 k3 k4
            unfold getB
            rw [if_neg (by omega), if_pos k4, ← hp]
            congr 1
            dsimp only
            omega
          · simp at hp
  · simp at hp
/-- where the walk of a record stands -/
def RInv (t0 : Nat) (S : List (List Nat)) (j t of_ : Nat) (o : List Nat) : Prop :=
  j = 0 ∧ t = t0 ∧ of_ = 1 ∧ o = [] ∨ 1 ≤ j ∧ j ≤ of_ ∧ of_ ≤ 8 ∧ o.length ≤ 56 * j ∧ o ≠ [] ∧ recF t0 S = (recK t of_ j (of_ - j) (S.drop j)).map fun x => (o ++ x, t)
theorem RInv.out {t0 j t of_ : Nat} {S : List (List Nat)} {o : List Nat} (h : RInv t0 S j t of_ o) (hj : j < of_) (hS : S.length ≤ j) : recF t0 S = none := by
  rcases h with ⟨h1, h2, h3, h4⟩ | ⟨h1, h2, h3, _, _, h4⟩
  · have : S = [] := List.length_eq_zero_iff.1 (by omega)
    rw [this]; rfl
  · rw [h4, List.drop_eq_nil_of_le hS]
    obtain ⟨k, hk⟩ : ∃ k, of_ - j = k + 1 := ⟨of_ - j - 1, by omega⟩
    rw [hk, recK]
    rfl
theorem RInv.done {t0 j t of_ : Nat} {S : List (List Nat)} {o : List Nat} (h : RInv t0 S j t of_ o) (hj : ¬ j < of_) : recF t0 S = some (o, t) := by
  rcases h with ⟨h1, h2, h3, h4⟩ | ⟨h1, h2, h3, _, _, h4⟩
  · omega
  · rw [h4, show of_ - j = 0 by omega, recK]
    simp
theorem RInv.bad {t0 j t of_ : Nat} {S : List (List Nat)} {o s : List Nat} (h : RInv t0 S j t of_ o) (hl : s.length = 64) (hj : j < of_) (hS : S[j]? = some s) (hb : Bad (getF s) (if j = 0 ∧ t = 0 then (getF s).t else t) (if j = 0 then (getF s).many else of_) j) : recF t0 S = none := by
  rcases h with ⟨h1, h2, h3, h4⟩ | ⟨h1, h2, h3, _, _, h4⟩
  · subst h1 h2
    cases S with
    | nil => rfl
    | cons s' S =>
      simp only [List.getElem?_cons_zero, Option.some.injEq] at hS
      subst hS
      rw [recF]
      split
      · rfl
      · rename_i p hp
        rw [if_neg]
        rintro ⟨k1, k2⟩
        refine fit_no hl hb hp ⟨?_, k2, ?_⟩
        · rw [get_tell hl hp]
          dsimp only
          split
          · rfl
          · omega
        · rw [get_tell hl hp]
          rfl
  · rw [if_neg (by omega), if_neg (by omega)] at hb
    rw [h4]
    obtain ⟨k, hk⟩ : ∃ k, of_ - j = k + 1 := ⟨of_ - j - 1, by omega⟩
    have hd : S.drop j = s :: S.drop (j + 1) := by
      rw [List.drop_eq_getElem_cons (List.getElem?_eq_some_iff.1 hS).1, (List.getElem?_eq_some_iff.1 hS).2]
    rw [hk, hd, recK]
    split
    · rfl
    · rename_i p hp
      rw [if_neg (fit_no hl hb hp)]
      rfl
theorem RInv.next {t0 j t of_ : Nat} {S : List (List Nat)} {o s : List Nat} (h : RInv t0 S j t of_ o) (hl : s.length = 64) (hj : j < of_) (hS : S[j]? = some s) (hb : ¬ Bad (getF s) (if j = 0 ∧ t = 0 then (getF s).t else t) (if j = 0 then (getF s).many else of_) j) :
    RInv t0 S (j + 1) (if j = 0 ∧ t = 0 then (getF s).t else t) (if j = 0 then (getF s).many else of_) (o ++ (getF s).part) := by
  have hb' := hb
  unfold Bad at hb'
  have hjo : j < (if j = 0 then (getF s).many else of_) := by
    split
    · rename_i h0; rw [if_pos h0] at hb'; omega
    · exact hj
  have hp := fit_yes hl hjo hb
  have hpl := tell_len hl hp
  dsimp only at hpl
  have hnn : o ++ (getF s).part ≠ [] := fun e => by
    have := congrArg List.length e
    rw [List.length_append, List.length_nil] at this
    omega
  rcases h with ⟨h1, h2, h3, h4⟩ | ⟨h1, h2, h3, h5, h6, h4⟩
  · subst h1 h4
    refine .inr ⟨by omega, hjo, by omega, by simp; omega, hnn, ?_⟩
    cases S with
    | nil => cases hS
    | cons s' S =>
      simp only [List.getElem?_cons_zero, Option.some.injEq] at hS
      subst hS
      rw [recF, hp]
      dsimp only
      rw [if_pos ⟨by split <;> omega, rfl⟩]
      rfl
  · refine .inr ⟨by omega, hjo, by omega, by rw [List.length_append]; omega, hnn, ?_⟩
    rw [if_neg (by omega), if_neg (by omega)] at hp ⊢
    rw [h4]
    obtain ⟨k, hk⟩ : ∃ k, of_ - j = k + 1 := ⟨of_ - j - 1, by omega⟩
    have hd : S.drop j = s :: S.drop (j + 1) := by
      rw [List.drop_eq_getElem_cons (List.getElem?_eq_some_iff.1 hS).1, (List.getElem?_eq_some_iff.1 hS).2]
    rw [hk, hd, recK, hp]
    dsimp only
    rw [if_pos ⟨rfl, rfl, rfl⟩, show of_ - (j + 1) = k by omega]
    cases recK t of_ (j + 1) k (S.drop (j + 1)) with
    | none => rfl
    | some x => simp
end Go.Proofs.Ytcdgaeenfhpnkaa.Cr
