/- A log on a disk whose power may fail, in plain Lean: what stands, whatever was left of records that were not written whole. -/
import Derived.Test.YtcdgaeenfhpnkaaPk34
set_option linter.unusedVariables false
set_option linter.unusedSimpArgs false
set_option maxRecDepth 100000
namespace Go.Proofs.Ytcdgaeenfhpnkaa.Cr
open CrcMath

/-- a piece at place r, behind what stands, that makes no record of turn T whole -/
def Left (T r : Nat) (p : Pc) : Prop := p.turn = T → r < p.which ∨ r = p.which ∧ p.which + 1 < p.of_
theorem Left.less {T r r' : Nat} {p : Pc} (h : Left T r p) (hr : r' < r) : Left T r' p := fun ht => by
  rcases h ht with h | ⟨h, _⟩
  · exact .inl (by omega)
  · exact .inl (by omega)
theorem left_steps (T : Nat) (hT : 0 < T) : ∀ (S : List (List Nat)) (r : Nat) (st : RS), (∀ i s p, S[i]? = some s → tellF s = some p → Left T (r + i) p) → st.turn = T → st.which = r →
    (st.steps (told S)).out = st.out ∧ (st.steps (told S)).turn = T ∧ (st.steps (told S)).taken = st.taken
  | [], r, st, _, h1, _ => ⟨rfl, h1, rfl⟩
  | s :: S, r, st, h, h1, h2 => by
    rw [told]
    cases hp : tellF s with
    | none => exact ⟨rfl, h1, rfl⟩
    | some p =>
      have htu : st.turn1 p = T := by unfold RS.turn1; rw [if_neg (by omega)]; exact h1
      have hl := h 0 s p rfl hp
      by_cases hf : st.fits p
      · obtain ⟨f1, f2, f3⟩ := hf
        rw [htu] at f1
        have hw : p.which + 1 < p.of_ := by
          rcases hl f1 with hl | ⟨_, hl⟩
          · omega
          · exact hl
        have e : st.step p = (⟨st.out, st.record ++ p.bytes, T, st.taken, st.which + 1, st.of1 p⟩, true) := by
          rw [RS.step, if_pos ⟨by rw [htu]; exact f1, f2, f3⟩, if_neg (by omega), htu]
        simp only [RS.steps, e, if_true]
        exact left_steps T hT S (r + 1) _ (fun i s' p' hi hp' => by have := h (i + 1) s' p' (by simpa using hi) hp'; rwa [show r + 1 + i = r + (i + 1) by omega]) rfl (by rw [h2])
      · have e : st.step p = (⟨st.out, st.record, st.turn1 p, st.taken, st.which, st.of1 p⟩, false) := by rw [RS.step, if_neg hf]
        simp only [RS.steps, e, Bool.false_eq_true, if_false]
        exact ⟨trivial, htu, trivial⟩
/-- once it has a turn, it keeps it -/
theorem steps_turn : ∀ (ps : List Pc) (st : RS), 0 < st.turn → (st.steps ps).turn = st.turn
  | [], st, _ => rfl
  | p :: r, st, h => by
    have htu : st.turn1 p = st.turn := by unfold RS.turn1; rw [if_neg (by omega)]
    have e : (st.step p).1.turn = st.turn := by
      rw [RS.step]
      split
      · split <;> exact htu
      · exact htu
    rw [RS.steps]
    split
    · rw [steps_turn r _ (by rw [e]; exact h), e]
    · exact e
theorem tell_turn {s : List Nat} {p : Pc} (h : tellF s = some p) : 0 < p.turn := by
  unfold tellF at h
  split at h
  · unfold tellB at h
    split at h
    · simp at h
    · split at h
      · simp at h
      · split at h
        · simp at h
        · split at h
          · simp only [Option.some.injEq] at h
            rw [← h]
            rename_i h1 h2 h3
            show 0 < _ * 256 + _
            omega
          · simp at h
  · simp at h
/-- a half that holds no whole record of a turn, as its first sector is of it -/
theorem left_first (T : Nat) (s : List Nat) (S : List (List Nat)) (p : Pc) (hp : tellF s = some p) (ht : p.turn = T) (h : ∀ i s' p', (s :: S)[i]? = some s' → tellF s' = some p' → Left T i p') : (recsF (s :: S)).out = [] := by
  have hT : 0 < T := by rw [← ht]; exact tell_turn hp
  rw [recsF, told, hp]
  have htu : RS.zero.turn1 p = T := ht
  have hl := h 0 s p rfl hp
  by_cases hf : RS.zero.fits p
  · obtain ⟨f1, f2, f3⟩ := hf
    have f2 : p.which = 0 := f2
    have hw : p.which + 1 < p.of_ := by
      rcases hl ht with hl | ⟨_, hl⟩
      · omega
      · exact hl
    have ho : RS.zero.of1 p = p.of_ := rfl
    have e : RS.zero.step p = (⟨[], [] ++ p.bytes, T, 0, 0 + 1, p.of_⟩, true) := by
      rw [RS.step, if_pos ⟨f1, f2, f3⟩, if_neg (by rw [ho]; show ¬ 0 + 1 = _; omega), htu]
      rfl
    simp only [RS.steps, e, if_true]
    exact (left_steps T hT S 1 _ (fun i s' p' hi hp' => by have := h (i + 1) s' p' (by simpa using hi) hp'; rwa [show 1 + i = i + 1 by omega]) rfl rfl).1
  · have e : RS.zero.step p = (⟨[], [], RS.zero.turn1 p, 0, 0, RS.zero.of1 p⟩, false) := by rw [RS.step, if_neg hf]; rfl
    simp only [RS.steps, e, Bool.false_eq_true, if_false]
/-- the other half -/
theorem left_other (T : Nat) (S : List (List Nat)) (h : ∀ i s p, S[i]? = some s → tellF s = some p → p.turn < T ∨ p.turn = T + 1 ∧ Left (T + 1) i p) : (recsF S).out = [] ∨ (recsF S).turn < T := by
  cases S with
  | nil => exact .inl rfl
  | cons s S =>
    cases hp : tellF s with
    | none => left; rw [recsF, told, hp]; rfl
    | some p =>
      rcases h 0 s p rfl hp with h0 | ⟨h0, _⟩
      · right
        have hpos := tell_turn hp
        rw [recsF, told, hp]
        have htu : RS.zero.turn1 p = p.turn := rfl
        have e : (RS.zero.step p).1.turn = p.turn := by
          rw [RS.step]
          split
          · split <;> exact htu
          · exact htu
        simp only [RS.steps]
        split
        · rw [steps_turn _ _ (by rw [e]; exact hpos), e]; exact h0
        · rw [e]; exact h0
      · by_cases hall : ∀ i s' p', (s :: S)[i]? = some s' → tellF s' = some p' → Left (T + 1) i p'
        · exact .inl (left_first (T + 1) s S p hp h0 hall)
        · refine .inl (left_first (T + 1) s S p hp h0 (fun i s' p' hi hp' => ?_))
          rcases h i s' p' hi hp' with h1 | ⟨_, h1⟩
          · intro ht; omega
          · exact h1
theorem steps_have' (turn : Nat) (ht : 0 < turn) (ht2 : turn < 65536) (tail : List (List Nat)) (h : ∀ i s p, tail[i]? = some s → tellF s = some p → Left turn i p) : ∀ (l : List (List Nat)) (st : RS), (∀ b ∈ l, fineB b) → st.which = 0 → st.record = [] → (st.turn = 0 ∧ l ≠ [] ∨ st.turn = turn) →
    (st.steps (told (l.flatMap (piecesOf turn) ++ tail))).out = st.out ++ l ∧ (st.steps (told (l.flatMap (piecesOf turn) ++ tail))).turn = turn ∧ (st.steps (told (l.flatMap (piecesOf turn) ++ tail))).taken = st.taken + needsAll l
  | [], st, _, h1, _, h3 => by
    have h4 : st.turn = turn := by rcases h3 with h | h; exact absurd rfl h.2; exact h
    have := left_steps turn ht tail 0 st (fun i s p hi hp => by rw [Nat.zero_add]; exact h i s p hi hp) h4 h1
    simpa [needsAll] using this
  | b :: l, st, hb, h1, h2, h3 => by
    have hfb := hb b (by simp)
    rw [List.flatMap_cons, List.append_assoc, told_app turn b hfb ht ht2, steps_pcs turn b ht hfb.1 _ st h1 h2 (by rcases h3 with h | h; exact .inl h.1; exact .inr h)]
    have ih := steps_have' turn ht ht2 tail h l ⟨st.out ++ [b], [], turn, st.taken + needsN b, 0, needsN b⟩ (fun x hx => hb x (by simp [hx])) rfl rfl (.inr rfl)
    simp only [List.append_assoc, List.singleton_append] at ih
    refine ⟨ih.1, ih.2.1, ?_⟩
    rw [ih.2.2]
    simp [needsAll]
    omega
/-- what stands on sectors D, whatever was left -/
structure J (D : List (List Nat)) (half turn taken : Nat) (L : List (List Nat)) : Prop where
  h1 : half ≤ 1
  t0 : 0 < turn
  t1 : turn < 65536
  fine : ∀ b ∈ L, fineB b
  tk : taken = needsAll L
  room : taken ≤ D.length / 2
  body : (D.drop (half * (D.length / 2))).take taken = L.flatMap (piecesOf turn)
  cur : ∀ i s p, taken + i < D.length / 2 → D[half * (D.length / 2) + (taken + i)]? = some s → tellF s = some p → p.turn ≤ turn ∧ Left turn i p
  oth : ∀ i s p, i < D.length / 2 → D[(1 - half) * (D.length / 2) + i]? = some s → tellF s = some p → p.turn < turn ∨ p.turn = turn + 1 ∧ Left (turn + 1) i p
  start : L = [] → half = 0 ∧ turn = 1
theorem J.current {d : DD} {half turn taken : Nat} {L : List (List Nat)} (h : J d.L half turn taken L) (hne : L ≠ []) :
    (recsF (secs d (half * (d.L.length / 2)) (d.L.length / 2))).out = L ∧ (recsF (secs d (half * (d.L.length / 2)) (d.L.length / 2))).turn = turn ∧ (recsF (secs d (half * (d.L.length / 2)) (d.L.length / 2))).taken = taken := by
  have e : secs d (half * (d.L.length / 2)) (d.L.length / 2) = L.flatMap (piecesOf turn) ++ ((d.L.drop (half * (d.L.length / 2))).drop taken).take (d.L.length / 2 - taken) := by
    rw [secs, ← h.body, ← List.take_add, Nat.add_sub_cancel' h.room]
  have := steps_have' turn h.t0 h.t1 (((d.L.drop (half * (d.L.length / 2))).drop taken).take (d.L.length / 2 - taken)) (fun i s p hi hp => by
    rw [List.getElem?_take] at hi
    split at hi
    · rename_i hlt
      rw [List.drop_drop, List.getElem?_drop] at hi
      exact (h.cur i s p (by omega) (by rw [← Nat.add_assoc]; exact hi) hp).2
    · cases hi) L RS.zero h.fine rfl rfl (.inl ⟨rfl, hne⟩)
  rw [e]
  refine ⟨by simpa [recsF, RS.zero] using this.1, this.2.1, ?_⟩
  have h3 := this.2.2
  rw [← h.tk] at h3
  simpa [recsF, RS.zero] using h3
theorem J.other {d : DD} {half turn taken : Nat} {L : List (List Nat)} (h : J d.L half turn taken L) : (recsF (secs d ((1 - half) * (d.L.length / 2)) (d.L.length / 2))).out = [] ∨ (recsF (secs d ((1 - half) * (d.L.length / 2)) (d.L.length / 2))).turn < turn := by
  refine left_other turn _ (fun i s p hi hp => ?_)
  rw [secs, List.getElem?_take] at hi
  split at hi
  · rename_i hlt
    rw [List.getElem?_drop] at hi
    exact h.oth i s p hlt hi hp
  · cases hi
theorem J.opens {d : DD} {half turn taken : Nat} {L : List (List Nat)} (h : J d.L half turn taken L) : OS.from_ d 2 = ⟨L, half, turn, taken⟩ := by
  have e : OS.from_ d 2 = ((⟨[], 0, 1, 0⟩ : OS).step d 0).step d 1 := rfl
  have o1 := h.other
  by_cases hne : L = []
  · obtain ⟨g1, g2⟩ := h.start hne
    have g3 := h.tk
    rw [hne] at g3
    subst g1 g2 hne
    have g3 : taken = 0 := g3
    subst g3
    have z0 : (recsF (secs d (0 * (d.L.length / 2)) (d.L.length / 2))).out = [] := by
      cases hs : secs d (0 * (d.L.length / 2)) (d.L.length / 2) with
      | nil => rfl
      | cons s S =>
        cases hp : tellF s with
        | none => rw [recsF, told, hp]; rfl
        | some p =>
          have hat : ∀ i s' p', (s :: S)[i]? = some s' → tellF s' = some p' → p'.turn ≤ 1 ∧ Left 1 i p' := fun i s' p' hi hp' => by
            rw [← hs, secs, List.getElem?_take] at hi
            split at hi
            · rename_i hlt
              rw [List.getElem?_drop] at hi
              exact h.cur i s' p' (by omega) (by rw [Nat.zero_add]; exact hi) hp'
            · cases hi
          have h1 := hat 0 s p rfl hp
          have h2 := tell_turn hp
          exact left_first 1 s S p hp (by omega) (fun i s' p' hi hp' => (hat i s' p' hi hp').2)
    have z1 : (recsF (secs d (1 * (d.L.length / 2)) (d.L.length / 2))).out = [] := by
      rcases o1 with o1 | o1
      · exact o1
      · cases hs : secs d (1 * (d.L.length / 2)) (d.L.length / 2) with
        | nil => rfl
        | cons s S =>
          cases hp : tellF s with
          | none => rw [recsF, told, hp]; rfl
          | some p =>
            exfalso
            have o1 : (recsF (secs d (1 * (d.L.length / 2)) (d.L.length / 2))).turn < 1 := o1
            rw [hs, recsF, told, hp] at o1
            have hpos := tell_turn hp
            have htu : RS.zero.turn1 p = p.turn := rfl
            have e : (RS.zero.step p).1.turn = p.turn := by
              rw [RS.step]
              split
              · split <;> exact htu
              · exact htu
            simp only [RS.steps] at o1
            split at o1
            · rw [steps_turn _ _ (by rw [e]; exact hpos), e] at o1; omega
            · rw [e] at o1; omega
    rw [e, OS.step, OS.step, if_neg (by rw [z1]; simp), if_neg (by rw [z0]; simp)]
  · have hl : 0 < L.length := List.length_pos_iff.2 hne
    obtain ⟨c1, c2, c3⟩ := h.current hne
    have hh := h.h1
    have : half = 0 ∨ half = 1 := by omega
    rcases this with rfl | rfl
    · have s0 : (⟨[], 0, 1, 0⟩ : OS).step d 0 = ⟨L, 0, turn, taken⟩ := by
        rw [OS.step, if_pos ⟨by rw [c1]; exact hl, .inl rfl⟩, c1, c2, c3]
      rw [e, s0, OS.step, if_neg]
      rintro ⟨h1, h2 | h2⟩
      · simp only at h2; omega
      · simp only at h2
        rcases o1 with o1 | o1
        · have o1 : (recsF (secs d (1 * (d.L.length / 2)) (d.L.length / 2))).out = [] := o1
          rw [o1] at h1; simp at h1
        · have o1 : (recsF (secs d (1 * (d.L.length / 2)) (d.L.length / 2))).turn < turn := o1
          omega
    · have key : ((⟨[], 0, 1, 0⟩ : OS).step d 0).out.length = 0 ∨ ((⟨[], 0, 1, 0⟩ : OS).step d 0).turn < turn := by
        rw [OS.step]
        split
        · rename_i hx
          rcases o1 with o1 | o1
          · have o1 : (recsF (secs d (0 * (d.L.length / 2)) (d.L.length / 2))).out = [] := o1
            rw [o1] at hx; simp at hx
          · exact .inr o1
        · exact .inl rfl
      rw [e, OS.step, if_pos ⟨by rw [c1]; exact hl, by rw [c2]; exact key⟩, c1, c2, c3]
theorem J.fresh (m : Int) : J (DD.fresh m).L 0 1 0 [] := by
  have hz : ∀ x s, (DD.fresh m).L[x]? = some s → tellF s = none := fun x s hs => by
    have := (List.getElem?_eq_some_iff.1 hs).2
    have hs' : s ∈ (DD.fresh m).L := List.mem_of_getElem? hs
    have : s = List.replicate 64 0 := by
      unfold DD.fresh at hs'
      exact (List.mem_replicate.1 hs').2
    rw [this]; exact tell_zeros
  refine ⟨by omega, by omega, by omega, by simp, rfl, Nat.zero_le _, by simp, ?_, ?_, fun _ => ⟨rfl, rfl⟩⟩
  · intro i s p _ hi hp
    rw [hz _ s hi] at hp
    simp at hp
  · intro i s p _ hi hp
    rw [hz _ s hi] at hp
    simp at hp
theorem half_two {half S : Nat} (h : half ≤ 1) : half * S = 0 ∧ (1 - half) * S = S ∨ half * S = S ∧ (1 - half) * S = 0 := by
  have : half = 0 ∨ half = 1 := by omega
  rcases this with rfl | rfl
  · exact .inl ⟨by simp, by simp⟩
  · exact .inr ⟨by simp, by simp⟩
theorem body_eq {D D' : List (List Nat)} {o t : Nat} (h : ∀ x, o ≤ x → x < o + t → D'[x]? = D[x]?) : (D'.drop o).take t = (D.drop o).take t := by
  apply List.ext_getElem?
  intro y
  rw [List.getElem?_take, List.getElem?_take]
  split
  · rw [List.getElem?_drop, List.getElem?_drop]
    exact h _ (by omega) (by omega)
  · rfl
section
variable {D D' : List (List Nat)} {half turn taken : Nat} {L : List (List Nat)} {b : List Nat}
/-- sectors behind what stands are turned -/
theorem J.repl (h : J D half turn taken L) (hl : D'.length = D.length) (ho : ∀ x, x < half * (D.length / 2) + taken ∨ half * (D.length / 2) + D.length / 2 ≤ x → D'[x]? = D[x]?)
    (hc : ∀ r s p, taken + r < D.length / 2 → D'[half * (D.length / 2) + (taken + r)]? = some s → tellF s = some p → p.turn ≤ turn ∧ Left turn r p) : J D' half turn taken L := by
  have h2 := half_two (S := D.length / 2) h.h1
  refine ⟨h.h1, h.t0, h.t1, h.fine, h.tk, by rw [hl]; exact h.room, ?_, by rw [hl]; exact hc, ?_, h.start⟩
  · rw [hl, body_eq (fun x h3 h4 => ho x (.inl h4))]
    exact h.body
  · rw [hl]
    intro i s p hi hs hp
    rw [ho _ (by omega)] at hs
    exact h.oth i s p hi hs hp
/-- sectors of the other half are turned -/
theorem J.repl_oth (h : J D half turn taken L) (hl : D'.length = D.length) (ho : ∀ x, half * (D.length / 2) ≤ x → x < half * (D.length / 2) + D.length / 2 → D'[x]? = D[x]?)
    (hc : ∀ i s p, i < D.length / 2 → D'[(1 - half) * (D.length / 2) + i]? = some s → tellF s = some p → p.turn < turn ∨ p.turn = turn + 1 ∧ Left (turn + 1) i p) : J D' half turn taken L := by
  have h2 := half_two (S := D.length / 2) h.h1
  have hroom := h.room
  refine ⟨h.h1, h.t0, h.t1, h.fine, h.tk, by rw [hl]; exact h.room, ?_, ?_, by rw [hl]; exact hc, h.start⟩
  · rw [hl, body_eq (fun x h3 h4 => ho x h3 (by omega))]
    exact h.body
  · rw [hl]
    intro i s p hi hs hp
    rw [ho _ (by omega) (by omega)] at hs
    exact h.cur i s p hi hs hp
theorem J.add_done (h : J D half turn taken L) (hb : fineB b) (hr : taken + needsN b ≤ D.length / 2) : J (putL D (half * (D.length / 2) + taken) (piecesOf turn b)) half turn (taken + needsN b) (L ++ [b]) := by
  have h2 := half_two (S := D.length / 2) h.h1
  have hpl := pieces_len turn b
  have hfit : half * (D.length / 2) + taken + (piecesOf turn b).length ≤ D.length := by rw [hpl]; exact half_fits h.h1 hr rfl
  have hlen := putL_len D (half * (D.length / 2) + taken) (piecesOf turn b) hfit
  have hn1 : 1 ≤ needsN b := by unfold needsN; have := hb.1; omega
  refine ⟨h.h1, h.t0, h.t1, ?_, ?_, by rw [hlen]; exact hr, ?_, ?_, ?_, fun e => by simp at e⟩
  · intro x hx
    rcases List.mem_append.1 hx with hx | hx
    · exact h.fine x hx
    · rw [List.mem_singleton.1 hx]; exact hb
  · rw [h.tk]; simp [needsAll]
  · rw [hlen]
    have := putL_body D (half * (D.length / 2)) taken (piecesOf turn b) hfit
    rw [hpl] at this
    rw [this, h.body]
    simp
  · rw [hlen]
    intro i s p hi hs hp
    rw [putL_out D _ _ hfit _ (by rw [hpl]; omega)] at hs
    have := h.cur (needsN b + i) s p (by omega) (by rw [show taken + (needsN b + i) = taken + needsN b + i by omega]; exact hs) hp
    exact ⟨this.1, this.2.less (by omega)⟩
  · rw [hlen]
    intro i s p hi hs hp
    rw [putL_out D _ _ hfit _ (by rw [hpl]; omega)] at hs
    exact h.oth i s p hi hs hp
theorem J.body_at (h : J D half turn taken L) {x : Nat} {s : List Nat} {p : Pc} (hx : x < taken) (hs : D[half * (D.length / 2) + x]? = some s) (hp : tellF s = some p) : p.turn = turn := by
  have hg : ((D.drop (half * (D.length / 2))).take taken)[x]? = some s := by
    rw [List.getElem?_take, if_pos hx, List.getElem?_drop]
    exact hs
  rw [h.body] at hg
  have hm := List.mem_of_getElem? hg
  rw [List.mem_flatMap] at hm
  obtain ⟨b', hb', hm⟩ := hm
  unfold piecesOf at hm
  rw [List.mem_map] at hm
  obtain ⟨j, hj, rfl⟩ := hm
  rw [tell_piece turn b' (h.fine b' hb') h.t0 h.t1 j (List.mem_range.1 hj)] at hp
  injection hp with hp
  rw [← hp]
theorem J.comp_done (h : J D half turn taken L) (hb : fineB b) (hr : needsN b ≤ D.length / 2) (ht : turn < 65535) : J (putL D ((1 - half) * (D.length / 2)) (piecesOf (turn + 1) b)) (1 - half) (turn + 1) (needsN b) [b] := by
  have h2 := half_two (S := D.length / 2) h.h1
  have hpl := pieces_len (turn + 1) b
  have hh := h.h1
  have hfit0 : (1 - half) * (D.length / 2) + 0 + needsN b ≤ D.length := half_fits (taken := 0) (by omega) (by omega) rfl
  have hfit : (1 - half) * (D.length / 2) + (piecesOf (turn + 1) b).length ≤ D.length := by rw [hpl]; omega
  have hlen := putL_len D ((1 - half) * (D.length / 2)) (piecesOf (turn + 1) b) hfit
  have hn1 : 1 ≤ needsN b := by unfold needsN; have := hb.1; omega
  have e11 : 1 - (1 - half) = half := by omega
  refine ⟨by omega, by omega, by omega, ?_, ?_, by rw [hlen]; exact hr, ?_, ?_, ?_, fun e => by simp at e⟩
  · intro x hx
    rw [List.mem_singleton.1 hx]; exact hb
  · simp [needsAll]
  · rw [hlen]
    have := putL_body D ((1 - half) * (D.length / 2)) 0 (piecesOf (turn + 1) b) (by rw [hpl]; omega)
    rw [hpl, Nat.zero_add, Nat.add_zero] at this
    rw [this]
    simp
  · rw [hlen]
    intro i s p hi hs hp
    rw [putL_out D _ _ hfit _ (by rw [hpl]; omega)] at hs
    rcases h.oth (needsN b + i) s p (by omega) hs hp with h3 | ⟨h3, h4⟩
    · exact ⟨by omega, fun e => by omega⟩
    · exact ⟨by omega, h4.less (by omega)⟩
  · rw [hlen, e11]
    intro i s p hi hs hp
    rw [putL_out D _ _ hfit _ (by rw [hpl]; omega)] at hs
    left
    by_cases hit : i < taken
    · rw [h.body_at hit hs hp]; omega
    · have := (h.cur (i - taken) s p (by omega) (by rw [show taken + (i - taken) = i by omega]; exact hs) hp).1
      omega
end
end Go.Proofs.Ytcdgaeenfhpnkaa.Cr
/- A log on a disk whose power may fail, in plain Lean: what a write leaves; what Put leaves. -/
set_option linter.unusedVariables false
set_option linter.unusedSimpArgs false
set_option maxRecDepth 100000
namespace Go.Proofs.Ytcdgaeenfhpnkaa.Cr
open CrcMath

def pieceA (turn : Nat) (b : List Nat) (i : Nat) : List Nat := secP turn i (needsN b) (chunkN b i)
theorem pieceA_len (turn : Nat) (b : List Nat) (i : Nat) : (pieceA turn b i).length = 64 := secP_len turn i _ _ (by unfold chunkN; rw [List.length_take]; omega)
theorem pad64 {x : List Nat} (h : x.length = 64) : pad x = x := by unfold pad; rw [h]; simp
/-- a whole sector is written, or power fails in it -/
theorem write_is (d : DD) (a : Nat) (x : List Nat) (hd : d.down = false) (ha : a < d.L.length) (hx : x.length = 64) :
    (∃ d1, d.write (a : Int) x = (0, d1) ∧ d1.L = d.L.set a x ∧ d1.down = false) ∨
    ∃ d1 k, d.write (a : Int) x = (101, d1) ∧ d1.L = d.L.set a (x.take k ++ (d.L.getD a []).drop k) ∧ d1.down = true ∧ d1.cut = none := by
  unfold DD.write
  rw [if_neg (by rw [hd]; simp), if_pos ⟨by omega, by omega, by omega⟩, pad64 hx, Int.toNat_natCast]
  split
  · exact .inl ⟨_, rfl, rfl, hd⟩
  · rename_i k _
    exact .inr ⟨_, k, rfl, rfl, rfl, rfl⟩
  · exact .inl ⟨_, rfl, rfl, hd⟩
/-- a disk, and the sector that was torn last, with what stood there, and was meant to -/
structure RD where
  d : DD
  torn : Option Nat
  was : List Nat
  meant : List Nat
def RD.write (r : RD) (a : Int) (x : List Nat) : Nat × RD :=
  ((r.d.write a x).1, if (r.d.write a x).2.down = true ∧ r.d.down = false then ⟨(r.d.write a x).2, some a.toNat, r.d.L.getD a.toNat [], pad x⟩ else ⟨(r.d.write a x).2, r.torn, r.was, r.meant⟩)
/-- what stands in the sector that was torn last, if that is neither what stood there, nor what was meant to -/
def RD.mixed (r : RD) : List Nat := match r.torn with
  | none => []
  | some a => if r.d.L.getD a [] = r.was ∨ r.d.L.getD a [] = r.meant then [] else r.d.L.getD a []
def wrR (fr turn : Nat) (b : List Nat) : RD → List Nat → Nat × RD
  | d, [] => (0, d)
  | d, i :: r => if (d.write ((fr : Int) + (i : Int)) (secP turn i (needsN b) (chunkN b i))).1 = 0 then wrR fr turn b (d.write ((fr : Int) + (i : Int)) (secP turn i (needsN b) (chunkN b i))).2 r
    else d.write ((fr : Int) + (i : Int)) (secP turn i (needsN b) (chunkN b i))
theorem RD.write_d (r : RD) (a : Int) (x : List Nat) : (r.write a x).1 = (r.d.write a x).1 ∧ (r.write a x).2.d = (r.d.write a x).2 := by
  unfold RD.write
  refine ⟨rfl, ?_⟩
  dsimp only
  split <;> rfl
theorem wrR_d (fr turn : Nat) (b : List Nat) : ∀ (l : List Nat) (r : RD), (wrR fr turn b r l).1 = (wrF fr turn b r.d l).1 ∧ (wrR fr turn b r l).2.d = (wrF fr turn b r.d l).2
  | [], r => ⟨rfl, rfl⟩
  | i :: l, r => by
    obtain ⟨h1, h2⟩ := RD.write_d r ((fr : Int) + (i : Int)) (secP turn i (needsN b) (chunkN b i))
    unfold wrR wrF
    rw [h1]
    split
    · rw [← h2]
      exact wrR_d fr turn b l _
    · exact ⟨h1, h2⟩
/-- what the write of a record leaves: all of it, or some sectors and a torn one -/
theorem wr_is (fr turn : Nat) (b : List Nat) : ∀ (r j : Nat) (d : RD), d.d.down = false → fr + j + r ≤ d.d.L.length →
    ((wrR fr turn b d (List.range' j r)).1 = 0 ∧ (wrR fr turn b d (List.range' j r)).2.d.down = false ∧ (wrR fr turn b d (List.range' j r)).2.d.L = putL d.d.L (fr + j) ((List.range' j r).map (pieceA turn b))) ∨
    ((wrR fr turn b d (List.range' j r)).1 = 101 ∧ (wrR fr turn b d (List.range' j r)).2.d.down = true ∧ (wrR fr turn b d (List.range' j r)).2.d.cut = none ∧
      ∃ i k, i < r ∧ (wrR fr turn b d (List.range' j r)).2.d.L = (putL d.d.L (fr + j) ((List.range' j i).map (pieceA turn b))).set (fr + j + i) ((pieceA turn b (j + i)).take k ++ (d.d.L.getD (fr + j + i) []).drop k) ∧
        (wrR fr turn b d (List.range' j r)).2.torn = some (fr + j + i) ∧ (wrR fr turn b d (List.range' j r)).2.was = d.d.L.getD (fr + j + i) [] ∧ (wrR fr turn b d (List.range' j r)).2.meant = pieceA turn b (j + i))
  | 0, j, d, hd, _ => .inl ⟨rfl, hd, (putL_nil _ _).symm⟩
  | r + 1, j, d, hd, hl => by
    rw [List.range'_succ, wrR]
    have hp := pieceA_len turn b j
    have e : (fr : Int) + (j : Int) = ((fr + j : Nat) : Int) := by omega
    rw [e]
    rcases write_is d.d (fr + j) (pieceA turn b j) hd (by omega) hp with ⟨d1, h1, h2, h3⟩ | ⟨d1, k, h1, h2, h3, h4⟩
    · have h1' : d.write ((fr + j : Nat) : Int) (secP turn j (needsN b) (chunkN b j)) = (0, ⟨d1, d.torn, d.was, d.meant⟩) := by
        unfold RD.write
        rw [show d.d.write ((fr + j : Nat) : Int) (secP turn j (needsN b) (chunkN b j)) = (0, d1) from h1]
        dsimp only
        rw [if_neg (by rw [h3]; simp)]
      rw [h1', if_pos rfl]
      have ih := wr_is fr turn b r (j + 1) ⟨d1, d.torn, d.was, d.meant⟩ h3 (by show _ ≤ d1.L.length; rw [h2, List.length_set]; omega)
      dsimp only at ih
      rw [h2] at ih
      rcases ih with ⟨g1, g2, g3⟩ | ⟨g1, g2, g3, i, k, gi, g4, g5, g6, g7⟩
      · refine .inl ⟨g1, g2, ?_⟩
        rw [g3, List.map_cons, ← putL_set _ _ _ _ (by omega)]
        rfl
      · have ea : fr + (j + 1) + i = fr + j + (i + 1) := by omega
        have eb : j + 1 + i = j + (i + 1) := by omega
        have ed : (d.d.L.set (fr + j) (pieceA turn b j)).getD (fr + j + (i + 1)) [] = d.d.L.getD (fr + j + (i + 1)) [] := by
          rw [List.getD_eq_getElem?_getD, List.getD_eq_getElem?_getD, List.getElem?_set_ne (by omega)]
        rw [ea] at g5 g6
        rw [eb] at g7
        rw [ed] at g6
        refine .inr ⟨g1, g2, g3, i + 1, k, by omega, ?_, g5, g6, g7⟩
        rw [g4, List.range'_succ, List.map_cons, ← putL_set _ _ _ _ (by omega), ea, eb, ed]
        rfl
    · have h1' : d.write ((fr + j : Nat) : Int) (secP turn j (needsN b) (chunkN b j)) = (101, ⟨d1, some (fr + j), d.d.L.getD (fr + j) [], pieceA turn b j⟩) := by
        unfold RD.write
        rw [show d.d.write ((fr + j : Nat) : Int) (secP turn j (needsN b) (chunkN b j)) = (101, d1) from h1]
        dsimp only
        rw [if_pos ⟨h3, hd⟩, Int.toNat_natCast]
        congr 2
        exact pad64 hp
      rw [h1', if_neg (by show ¬ (101 : Nat) = 0; decide)]
      refine .inr ⟨rfl, h3, h4, 0, k, by omega, ?_, rfl, rfl, rfl⟩
      show d1.L = _
      rw [h2]
      simp [putL_nil]
theorem putL_in (L : List (List Nat)) (a : Nat) (xs : List (List Nat)) (h : a + xs.length ≤ L.length) (y : Nat) (hy : y < xs.length) : (putL L a xs)[a + y]? = xs[y]? := by
  unfold putL
  rw [List.append_assoc, List.getElem?_append_right (by rw [List.length_take]; omega), List.length_take, Nat.min_eq_left (by omega), Nat.add_sub_cancel_left, List.getElem?_append_left hy]
theorem putL_snoc (L : List (List Nat)) (a : Nat) (xs : List (List Nat)) (x : List Nat) (h : a + xs.length < L.length) : (putL L a xs).set (a + xs.length) x = putL L a (xs ++ [x]) := by
  unfold putL
  have l1 : (L.take a ++ xs).length = a + xs.length := by rw [List.length_append, List.length_take]; omega
  rw [List.set_append_right _ _ (by omega), l1, Nat.sub_self, List.drop_eq_getElem_cons h, List.set_cons_zero]
  simp only [List.length_append, List.length_cons, List.length_nil, List.append_assoc, List.cons_append, List.nil_append]
  rfl
theorem tell_no {s : List Nat} (h : ¬ CrcMath.opens s) : tellF s = none := by unfold tellF; rw [if_neg h]
/-- sectors of a record that was not written whole -/
theorem torn_at {D : List (List Nat)} {base turn i : Nat} {b t0 : List Nat} (hi : i < needsN b) (hfit : base + needsN b ≤ D.length) (hb : fineB b) (ht : 0 < turn) (ht2 : turn < 65536)
    (h0 : t0 = D.getD (base + i) [] ∨ t0 = pieceA turn b i ∧ i + 1 < needsN b ∨ ¬ CrcMath.opens t0) :
    ((putL D base ((List.range' 0 i).map (pieceA turn b))).set (base + i) t0).length = D.length ∧
    (∀ x, x < base ∨ base + needsN b ≤ x → ((putL D base ((List.range' 0 i).map (pieceA turn b))).set (base + i) t0)[x]? = D[x]?) ∧
    ∀ r s p, ((putL D base ((List.range' 0 i).map (pieceA turn b))).set (base + i) t0)[base + r]? = some s → tellF s = some p → (p.turn = turn ∧ r = p.which ∧ p.which + 1 < p.of_) ∨ D[base + r]? = some s := by
  have hlen0 : ((List.range' 0 i).map (pieceA turn b)).length = i := by simp
  have hlen : (putL D base ((List.range' 0 i).map (pieceA turn b))).length = D.length := putL_len _ _ _ (by rw [hlen0]; omega)
  refine ⟨by rw [List.length_set, hlen], fun x hx => ?_, fun r s p hs hp => ?_⟩
  · rw [List.getElem?_set_ne (by omega), putL_out _ _ _ (by rw [hlen0]; omega) _ (by rw [hlen0]; omega)]
  · have hpiece : ∀ y, y + 1 < needsN b → s = pieceA turn b y → r = y → p.turn = turn ∧ r = p.which ∧ p.which + 1 < p.of_ := fun y hy e1 e2 => by
      rw [e1] at hp
      have := tell_piece turn b hb ht ht2 y (by omega)
      rw [show secP turn y (needsN b) (chunkN b y) = pieceA turn b y from rfl, hp] at this
      injection this with this
      rw [this]
      exact ⟨rfl, e2, hy⟩
    rcases Nat.lt_trichotomy r i with hr | hr | hr
    · rw [List.getElem?_set_ne (by omega), putL_in _ _ _ (by rw [hlen0]; omega) r (by rw [hlen0]; exact hr), List.getElem?_map, List.getElem?_range' (by omega)] at hs
      simp at hs
      exact .inl (hpiece r (by omega) hs.symm rfl)
    · subst hr
      rw [List.getElem?_set_self (by rw [hlen]; omega)] at hs
      injection hs with hs
      rcases h0 with h0 | ⟨h0, h1⟩ | h0
      · right
        rw [← hs, h0, List.getD_eq_getElem?_getD, List.getElem?_eq_getElem (by omega)]
        rfl
      · exact .inl (hpiece r h1 (by rw [← hs, h0]) rfl)
      · rw [← hs, tell_no h0] at hp
        cases hp
    · rw [List.getElem?_set_ne (by omega)] at hs
      right
      by_cases hx : base + r < base ∨ base + i ≤ base + r
      · rw [putL_out _ _ _ (by rw [hlen0]; omega) _ (by rw [hlen0]; omega)] at hs
        exact hs
      · omega
theorem range_pieces (turn : Nat) (b : List Nat) : (List.range' 0 (needsN b)).map (pieceA turn b) = piecesOf turn b := by
  rw [← List.range_eq_range']; rfl
theorem full_torn {D : List (List Nat)} {base turn i : Nat} {b : List Nat} (hi : i + 1 = needsN b) (hfit : base + needsN b ≤ D.length) : (putL D base ((List.range' 0 i).map (pieceA turn b))).set (base + i) (pieceA turn b i) = putL D base (piecesOf turn b) := by
  have hlen0 : ((List.range' 0 i).map (pieceA turn b)).length = i := by simp
  have h := putL_snoc D base ((List.range' 0 i).map (pieceA turn b)) (pieceA turn b i) (by rw [hlen0]; omega)
  rw [hlen0] at h
  rw [h, ← range_pieces, ← hi, List.range'_concat]
  simp
/-- what the mixed sector tells -/
theorem mixed_is {r : RD} {a : Nat} {t0 : List Nat} (ht : r.torn = some a) (h0 : r.d.L.getD a [] = t0) (hm : ¬ CrcMath.opens r.mixed) : t0 = r.was ∨ t0 = r.meant ∨ ¬ CrcMath.opens t0 := by
  unfold RD.mixed at hm
  rw [ht] at hm
  dsimp only at hm
  rw [h0] at hm
  split at hm
  · rename_i h
    rcases h with h | h
    · exact .inl h
    · exact .inr (.inl h)
  · exact .inr (.inr hm)
section
variable {r : RD} {half turn taken : Nat} {L : List (List Nat)} {b : List Nat}
theorem J.add_step (h : J r.d.L half turn taken L) (hb : fineB b) (hr : taken + needsN b ≤ r.d.L.length / 2) (hup : r.d.down = false) :
    ((wrR (half * (r.d.L.length / 2) + taken) turn b r (List.range (needsN b))).1 = 0 ∧ (wrR (half * (r.d.L.length / 2) + taken) turn b r (List.range (needsN b))).2.d.down = false ∧ J (wrR (half * (r.d.L.length / 2) + taken) turn b r (List.range (needsN b))).2.d.L half turn (taken + needsN b) (L ++ [b])) ∨
    ((wrR (half * (r.d.L.length / 2) + taken) turn b r (List.range (needsN b))).1 = 101 ∧ (wrR (half * (r.d.L.length / 2) + taken) turn b r (List.range (needsN b))).2.d.down = true ∧
      (¬ CrcMath.opens (wrR (half * (r.d.L.length / 2) + taken) turn b r (List.range (needsN b))).2.mixed → J (wrR (half * (r.d.L.length / 2) + taken) turn b r (List.range (needsN b))).2.d.L half turn taken L ∨ J (wrR (half * (r.d.L.length / 2) + taken) turn b r (List.range (needsN b))).2.d.L half turn (taken + needsN b) (L ++ [b]))) := by
  have hfit := half_fits h.h1 hr rfl
  rw [List.range_eq_range']
  rcases wr_is (half * (r.d.L.length / 2) + taken) turn b (needsN b) 0 r hup (by omega) with ⟨g1, g2, g3⟩ | ⟨g1, g2, g3, i, k, gi, g4, g5, g6, g7⟩
  · refine .inl ⟨g1, g2, ?_⟩
    rw [g3, range_pieces, Nat.add_zero]
    exact h.add_done hb hr
  · refine .inr ⟨g1, g2, fun hm => ?_⟩
    simp only [Nat.add_zero, Nat.zero_add] at g4 g5 g6 g7
    have hlen0 : ((List.range' 0 i).map (pieceA turn b)).length = i := by simp
    have hlen : (putL r.d.L (half * (r.d.L.length / 2) + taken) ((List.range' 0 i).map (pieceA turn b))).length = r.d.L.length := putL_len _ _ _ (by rw [hlen0]; omega)
    have ht0 := mixed_is g5 (by rw [g4, List.getD_eq_getElem?_getD, List.getElem?_set_self (by rw [hlen]; omega), Option.getD_some]) hm
    rw [g6, g7] at ht0
    rw [g4]
    by_cases hfull : (pieceA turn b i).take k ++ (r.d.L.getD (half * (r.d.L.length / 2) + taken + i) []).drop k = pieceA turn b i ∧ i + 1 = needsN b
    · right
      rw [hfull.1, full_torn hfull.2 hfit]
      exact h.add_done hb hr
    · left
      obtain ⟨e1, e2, e3⟩ := torn_at (D := r.d.L) (t0 := (pieceA turn b i).take k ++ (r.d.L.getD (half * (r.d.L.length / 2) + taken + i) []).drop k) gi hfit hb h.t0 h.t1 (by
        rcases ht0 with h1 | h1 | h1
        · exact .inl h1
        · exact .inr (.inl ⟨h1, by have : i + 1 ≠ needsN b := fun h2 => hfull ⟨h1, h2⟩; omega⟩)
        · exact .inr (.inr h1))
      refine h.repl e1 (fun x hx => e2 x (by omega)) (fun q s p hq hs hp => ?_)
      rw [← Nat.add_assoc] at hs
      rcases e3 q s p hs hp with ⟨k1, k2, k3⟩ | k1
      · exact ⟨by omega, fun _ => .inr ⟨k2, k3⟩⟩
      · exact h.cur q s p hq (by rw [← Nat.add_assoc]; exact k1) hp
theorem J.comp_step (h : J r.d.L half turn taken L) (hb : fineB b) (hr : needsN b ≤ r.d.L.length / 2) (ht : turn < 65535) (hup : r.d.down = false) :
    ((wrR ((1 - half) * (r.d.L.length / 2)) (turn + 1) b r (List.range (needsN b))).1 = 0 ∧ (wrR ((1 - half) * (r.d.L.length / 2)) (turn + 1) b r (List.range (needsN b))).2.d.down = false ∧ J (wrR ((1 - half) * (r.d.L.length / 2)) (turn + 1) b r (List.range (needsN b))).2.d.L (1 - half) (turn + 1) (needsN b) [b]) ∨
    ((wrR ((1 - half) * (r.d.L.length / 2)) (turn + 1) b r (List.range (needsN b))).1 = 101 ∧ (wrR ((1 - half) * (r.d.L.length / 2)) (turn + 1) b r (List.range (needsN b))).2.d.down = true ∧
      (¬ CrcMath.opens (wrR ((1 - half) * (r.d.L.length / 2)) (turn + 1) b r (List.range (needsN b))).2.mixed → J (wrR ((1 - half) * (r.d.L.length / 2)) (turn + 1) b r (List.range (needsN b))).2.d.L half turn taken L ∨ J (wrR ((1 - half) * (r.d.L.length / 2)) (turn + 1) b r (List.range (needsN b))).2.d.L (1 - half) (turn + 1) (needsN b) [b])) := by
  have hh := h.h1
  have h2 := half_two (S := r.d.L.length / 2) h.h1
  have hfit0 : (1 - half) * (r.d.L.length / 2) + 0 + needsN b ≤ r.d.L.length := half_fits (taken := 0) (by omega) (by omega) rfl
  have hfit : (1 - half) * (r.d.L.length / 2) + needsN b ≤ r.d.L.length := by omega
  rw [List.range_eq_range']
  rcases wr_is ((1 - half) * (r.d.L.length / 2)) (turn + 1) b (needsN b) 0 r hup (by omega) with ⟨g1, g2, g3⟩ | ⟨g1, g2, g3, i, k, gi, g4, g5, g6, g7⟩
  · refine .inl ⟨g1, g2, ?_⟩
    rw [g3, range_pieces, Nat.add_zero]
    exact h.comp_done hb hr ht
  · refine .inr ⟨g1, g2, fun hm => ?_⟩
    simp only [Nat.add_zero, Nat.zero_add] at g4 g5 g6 g7
    have hlen0 : ((List.range' 0 i).map (pieceA (turn + 1) b)).length = i := by simp
    have hlen : (putL r.d.L ((1 - half) * (r.d.L.length / 2)) ((List.range' 0 i).map (pieceA (turn + 1) b))).length = r.d.L.length := putL_len _ _ _ (by rw [hlen0]; omega)
    have ht0 := mixed_is g5 (by rw [g4, List.getD_eq_getElem?_getD, List.getElem?_set_self (by rw [hlen]; omega), Option.getD_some]) hm
    rw [g6, g7] at ht0
    rw [g4]
    by_cases hfull : (pieceA (turn + 1) b i).take k ++ (r.d.L.getD ((1 - half) * (r.d.L.length / 2) + i) []).drop k = pieceA (turn + 1) b i ∧ i + 1 = needsN b
    · right
      rw [hfull.1, full_torn hfull.2 hfit]
      exact h.comp_done hb hr ht
    · left
      obtain ⟨e1, e2, e3⟩ := torn_at (D := r.d.L) (turn := turn + 1) (t0 := (pieceA (turn + 1) b i).take k ++ (r.d.L.getD ((1 - half) * (r.d.L.length / 2) + i) []).drop k) gi hfit hb (by omega) (by omega) (by
        rcases ht0 with h1 | h1 | h1
        · exact .inl h1
        · exact .inr (.inl ⟨h1, by have : i + 1 ≠ needsN b := fun h2 => hfull ⟨h1, h2⟩; omega⟩)
        · exact .inr (.inr h1))
      refine h.repl_oth e1 (fun x hx1 hx2 => e2 x (by omega)) (fun q s p hq hs hp => ?_)
      rcases e3 q s p hs hp with ⟨k1, k2, k3⟩ | k1
      · exact .inr ⟨k1, fun _ => .inr ⟨k2, k3⟩⟩
      · exact h.oth q s p hq k1 hp
end
end Go.Proofs.Ytcdgaeenfhpnkaa.Cr
