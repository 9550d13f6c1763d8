/- A store whose disk may fail, in plain Lean: what stands behind each call; is a torn sector's sum right by luck? -/
import Derived.Test.YtcdgaeenfhpnkaaPk36
set_option linter.unusedVariables false
set_option linter.unusedSimpArgs false
set_option maxRecDepth 100000
namespace Go.Proofs.Ytcdgaeenfhpnkaa.Cr
open CrcMath

/-- the document's disk, its log, the notes of its store -/
structure CS where
  r : RD
  half : Nat
  turn : Nat
  taken : Nat
  N : List Nt
def CS.ps (s : CS) : PS := ⟨s.r.d, s.half, s.turn, s.taken, s.N⟩
def CS.add (s : CS) (b : List Nat) (N' : List Nt) : Nat × CS :=
  let q := wrR (s.half * (s.r.d.L.length / 2) + s.taken) s.turn b s.r (List.range (needsN b))
  if q.1 = 0 then (0, ⟨q.2, s.half, s.turn, s.taken + needsN b, N'⟩) else (q.1, ⟨q.2, s.half, s.turn, s.taken, s.N⟩)
def CS.comp (s : CS) (b : List Nat) (N' : List Nt) : Nat × CS :=
  let q := wrR ((1 - s.half) * (s.r.d.L.length / 2)) (s.turn + 1) b s.r (List.range (needsN b))
  if q.1 = 0 then (0, ⟨q.2, 1 - s.half, s.turn + 1, needsN b, N'⟩) else (q.1, ⟨q.2, s.half, s.turn, s.taken, s.N⟩)
def CS.put (s : CS) (c e : Nat) (x : St) (l : List Nt) : Nat × CS :=
  if ¬ (okR x l ∧ x.causes.length = c ∧ x.effects.length = e) then (1, s)
  else if s.taken + needsN (bytesF x l) ≤ s.r.d.L.length / 2 then s.add (bytesF x l) (lastN (s.N ++ l))
  else if s.r.d.L.length / 2 < needsN (bytesF x (lastN (s.N ++ l))) then (5, s)
  else s.comp (bytesF x (lastN (s.N ++ l))) (lastN (s.N ++ l))
def CS.cut (s : CS) (a b : Int) : CS := ⟨⟨s.r.d.setCut a b, s.r.torn, s.r.was, s.r.meant⟩, s.half, s.turn, s.taken, s.N⟩
/-- a boot, and Open -/
def CS.again (s : CS) : CS :=
  ⟨⟨s.r.d.boot, s.r.torn, s.r.was, s.r.meant⟩, (openR s.r.d.L).half, (openR s.r.d.L).turn, (openR s.r.d.L).taken, ((openF 1 2 (zero0 1 2) [] (openR s.r.d.L).out).map (·.2)).getD []⟩
def luckyF : CS → List Opr → Bool
  | _, [] => false
  | s, o :: l => if o.what = 3 then luckyF (s.cut o.at_ o.n) l
    else if o.what = 4 then luckyF s.again l
    else if (s.put 1 2 o.x o.l).2.r.d.down = true ∧ s.r.d.down = false ∧ opens (s.put 1 2 o.x o.l).2.r.mixed = true then true
    else luckyF (s.put 1 2 o.x o.l).2 l
section
variable {s : CS} {b : List Nat} {N' l : List Nt} {c e i : Nat} {x : St} {y : St × List Nt}
theorem CS.add_ps : (s.add b N').1 = (s.ps.add b N').1 ∧ (s.add b N').2.ps = (s.ps.add b N').2 := by
  obtain ⟨h1, h2⟩ := wrR_d (s.half * (s.r.d.L.length / 2) + s.taken) s.turn b (List.range (needsN b)) s.r
  unfold CS.add PS.add CS.ps
  dsimp only
  rw [← h1, ← h2]
  split
  · exact ⟨rfl, rfl⟩
  · exact ⟨rfl, rfl⟩
theorem CS.comp_ps : (s.comp b N').1 = (s.ps.comp b N').1 ∧ (s.comp b N').2.ps = (s.ps.comp b N').2 := by
  obtain ⟨h1, h2⟩ := wrR_d ((1 - s.half) * (s.r.d.L.length / 2)) (s.turn + 1) b (List.range (needsN b)) s.r
  unfold CS.comp PS.comp CS.ps
  dsimp only
  rw [← h1, ← h2]
  split
  · exact ⟨rfl, rfl⟩
  · exact ⟨rfl, rfl⟩
theorem CS.put_ps : (s.put c e x l).1 = (s.ps.put c e x l).1 ∧ (s.put c e x l).2.ps = (s.ps.put c e x l).2 := by
  unfold CS.put PS.put
  by_cases h1 : ¬ (okR x l ∧ x.causes.length = c ∧ x.effects.length = e)
  · rw [if_pos h1, if_pos h1]
    exact ⟨rfl, rfl⟩
  · rw [if_neg h1, if_neg h1]
    by_cases h2 : s.taken + needsN (bytesF x l) ≤ s.r.d.L.length / 2
    · have h2' : s.ps.taken + needsN (bytesF x l) ≤ s.ps.d.L.length / 2 := h2
      rw [if_pos h2, if_pos h2']
      exact CS.add_ps
    · have h2' : ¬ s.ps.taken + needsN (bytesF x l) ≤ s.ps.d.L.length / 2 := h2
      rw [if_neg h2, if_neg h2']
      by_cases h3 : s.r.d.L.length / 2 < needsN (bytesF x (lastN (s.N ++ l)))
      · have h3' : s.ps.d.L.length / 2 < needsN (bytesF x (lastN (s.ps.N ++ l))) := h3
        rw [if_pos h3, if_pos h3']
        exact ⟨rfl, rfl⟩
      · have h3' : ¬ s.ps.d.L.length / 2 < needsN (bytesF x (lastN (s.ps.N ++ l))) := h3
        rw [if_neg h3, if_neg h3']
        exact CS.comp_ps
theorem RD.write_down {r : RD} (h : r.d.down = true) (a : Int) (x : List Nat) : r.write a x = (101, r) := by
  unfold RD.write DD.write
  rw [if_pos h]
  dsimp only
  rw [if_neg (by rw [h]; simp)]
theorem wrR_down (fr turn : Nat) (b : List Nat) {r : RD} (h : r.d.down = true) (q : List Nat) (hq : q ≠ []) : wrR fr turn b r q = (101, r) := by
  cases q with
  | nil => exact absurd rfl hq
  | cons i q =>
    unfold wrR
    rw [RD.write_down h, if_neg (by show ¬ (101 : Nat) = 0; decide)]
theorem write_len' (d : DD) (i : Int) (b : List Nat) : (d.write i b).2.L.length = d.L.length := by
  unfold DD.write
  split
  · rfl
  · split
    · split <;> simp
    · rfl
theorem wrF_len' (fr turn : Nat) (b : List Nat) : ∀ (r : List Nat) (d : DD), (wrF fr turn b d r).2.L.length = d.L.length
  | [], d => rfl
  | i :: r, d => by
    have h := write_len' d ((fr : Int) + (i : Int)) (secP turn i (needsN b) (chunkN b i))
    unfold wrF
    split
    · rw [wrF_len' fr turn b r, h]
    · exact h
theorem okR_fine {x : St} {l : List Nt} (h : okR x l) : fineB (bytesF x l) := ⟨(bytesF_len h).1, (bytesF_len h).2, bytesF_lt _ _⟩
theorem fine_range {b : List Nat} (h : fineB b) : List.range (needsN b) ≠ [] := fun e => by
  have := congrArg List.length e
  rw [List.length_range] at this
  have h1 := h.1
  unfold needsN at this
  simp at this
  omega
theorem CS.put_down (hN : ∀ x ∈ s.N, okN x) (h : s.r.d.down = true) : (s.put c e x l).1 ≠ 0 ∧ (s.put c e x l).2 = s := by
  unfold CS.put
  by_cases h1 : ¬ (okR x l ∧ x.causes.length = c ∧ x.effects.length = e)
  · rw [if_pos h1]
    exact ⟨Nat.succ_ne_zero 0, rfl⟩
  · rw [if_neg h1]
    have hok := (Decidable.not_not.1 h1).1
    split
    · unfold CS.add
      rw [wrR_down _ _ _ h _ (fine_range (okR_fine hok))]
      exact ⟨by show (101 : Nat) ≠ 0; decide, rfl⟩
    · split
      · exact ⟨Nat.succ_ne_zero 4, rfl⟩
      · unfold CS.comp
        rw [wrR_down _ _ _ h _ (fine_range (okR_fine (okR_last hok hN)))]
        exact ⟨by show (101 : Nat) ≠ 0; decide, rfl⟩
theorem openF_app (c e : Nat) : ∀ (L : List (List Nat)) (x : St) (N : List Nt) (b : List Nat) (y : St) (M : List Nt), openF c e x N L = some (y, M) →
    openF c e x N (L ++ [b]) = openF c e y M [b]
  | [], x, N, b, y, M, h => by
    simp only [openF, Option.some.injEq, Prod.mk.injEq] at h
    obtain ⟨rfl, rfl⟩ := h
    rfl
  | r :: L, x, N, b, y, M, h => by
    rw [List.cons_append]
    unfold openF at h ⊢
    split at h
    · rename_i h1
      rw [if_pos h1]
      exact openF_app c e L _ _ b y M h
    · simp at h
theorem openF_one {c e : Nat} {x x' : St} {N l : List Nt} (hok : okR x' l) (hc : x'.causes.length = c ∧ x'.effects.length = e) : openF c e x N [bytesF x' l] = some (x', lastN (N ++ l)) := by
  unfold openF
  rw [bytesF_yes hok, read_bytes hok, if_pos ⟨rfl, hc⟩]
  rfl
theorem openF_ok (c e : Nat) : ∀ (L : List (List Nat)) (x : St) (N : List Nt) (y : St × List Nt), (∀ b ∈ L, fineB b) → (∀ n ∈ N, okN n) → N.length ≤ 32 → openF c e x N L = some y → (∀ n ∈ y.2, okN n) ∧ y.2.length ≤ 32
  | [], x, N, y, _, h1, h2, h => by
    simp only [openF, Option.some.injEq] at h
    rw [← h]
    exact ⟨h1, h2⟩
  | b :: L, x, N, y, hb, h1, h2, h => by
    unfold openF at h
    split at h
    · rename_i hr
      have hok := (bytes_read (hb b List.mem_cons_self).2.2 (s := (readV b).1) (l := (readV b).2.1) (by rw [← hr.1])).1
      refine openF_ok c e L _ _ y (fun b' h' => hb b' (List.mem_cons_of_mem _ h')) (fun n hn => ?_) (lastN_len _) h
      rcases List.mem_append.1 (lastN_mem hn) with h3 | h3
      · exact h1 n h3
      · exact hok.2.2 n h3
    · cases h
/-- what stands is y -/
structure CI (s : CS) (i : Nat) (y : St × List Nt) : Prop where
  h1 : s.half ≤ 1
  t0 : 0 < s.turn
  tu : s.turn ≤ 1 + i
  tk : s.taken ≤ s.r.d.L.length / 2
  n32 : s.N.length ≤ 32
  okn : ∀ x ∈ s.N, okN x
  on : ∃ L half turn taken, J s.r.d.L half turn taken L ∧ turn ≤ 1 + i ∧ openF 1 2 (zero0 1 2) [] L = some y ∧ (s.r.d.down = false → half = s.half ∧ turn = s.turn ∧ taken = s.taken ∧ y.2 = s.N)
theorem CI.more {i' : Nat} (h : CI s i y) (hi : i ≤ i') : CI s i' y := by
  obtain ⟨L, half, turn, taken, g1, g2, g3⟩ := h.on
  exact ⟨h.h1, h.t0, by have := h.tu; omega, h.tk, h.n32, h.okn, L, half, turn, taken, g1, by omega, g3⟩
theorem CI.start (m : Int) : CI ⟨⟨DD.fresh m, none, [], []⟩, 0, 1, 0, []⟩ 0 (zero0 1 2, []) :=
  ⟨Nat.zero_le _, Nat.zero_lt_one, Nat.le_refl _, Nat.zero_le _, Nat.zero_le _, by simp, [], 0, 1, 0, J.fresh m, by omega, rfl, fun _ => ⟨rfl, rfl, rfl, rfl⟩⟩
theorem setCut_L (d : DD) (a b : Int) : (d.setCut a b).L = d.L ∧ (d.setCut a b).down = d.down := by
  unfold DD.setCut
  split
  · exact ⟨rfl, rfl⟩
  · exact ⟨rfl, rfl⟩
theorem CI.cut (h : CI s i y) (a b : Int) : CI (s.cut a b) i y := by
  obtain ⟨L, half, turn, taken, g1, g2, g3, g4⟩ := h.on
  obtain ⟨e1, e2⟩ := setCut_L s.r.d a b
  refine ⟨h.h1, h.t0, h.tu, by show _ ≤ (s.r.d.setCut a b).L.length / 2; rw [e1]; exact h.tk, h.n32, h.okn, L, half, turn, taken, by show J (s.r.d.setCut a b).L _ _ _ _; rw [e1]; exact g1, g2, g3, fun hd => g4 ?_⟩
  have hd : (s.r.d.setCut a b).down = false := hd
  rw [e2] at hd
  exact hd
theorem CI.again (h : CI s i y) (hs : ∀ x ∈ s.r.d.L, x.length = 64) : ∃ L half turn taken, J s.r.d.L half turn taken L ∧ OS.from_ s.r.d.boot 2 = ⟨L, half, turn, taken⟩ ∧ openR s.r.d.L = ⟨L, half, turn, taken⟩ ∧ openF 1 2 (zero0 1 2) [] L = some y ∧
    s.again = ⟨⟨s.r.d.boot, s.r.torn, s.r.was, s.r.meant⟩, half, turn, taken, y.2⟩ ∧ CI s.again i y ∧ s.again.r.d.down = false := by
  obtain ⟨L, half, turn, taken, g1, g2, g3, g4⟩ := h.on
  have e := g1.openR hs
  have e2 : s.again = ⟨⟨s.r.d.boot, s.r.torn, s.r.was, s.r.meant⟩, half, turn, taken, y.2⟩ := by
    unfold CS.again
    rw [e]
    dsimp only
    rw [g3]
    rfl
  obtain ⟨k1, k2⟩ := openF_ok 1 2 L (zero0 1 2) [] y g1.fine (by simp) (by simp) g3
  have gb : J s.r.d.boot.L half turn taken L := g1
  refine ⟨L, half, turn, taken, g1, J.opens gb, e, g3, e2, ?_, by rw [e2]; rfl⟩
  rw [e2]
  exact ⟨g1.h1, g1.t0, g2, g1.room, k2, k1, L, half, turn, taken, g1, g2, g3, fun _ => ⟨rfl, rfl, rfl, rfl⟩⟩
/-- Put, with power -/
theorem CI.put (h : CI s i y) (hi : i < 60000) (hup : s.r.d.down = false) (x : St) (l : List Nt) :
    ((s.put 1 2 x l).1 = 0 ∧ (s.put 1 2 x l).2.r.d.down = false ∧ (s.put 1 2 x l).2.N = lastN (s.N ++ l) ∧ CI (s.put 1 2 x l).2 (i + 1) (x, lastN (y.2 ++ l))) ∨
    (((s.put 1 2 x l).1 = 1 ∨ (s.put 1 2 x l).1 = 5) ∧ (s.put 1 2 x l).2 = s) ∨
    ((s.put 1 2 x l).1 = 101 ∧ (s.put 1 2 x l).2.r.d.down = true ∧ (s.put 1 2 x l).2.N = s.N ∧ (¬ opens (s.put 1 2 x l).2.r.mixed = true → CI (s.put 1 2 x l).2 (i + 1) y ∨ CI (s.put 1 2 x l).2 (i + 1) (x, lastN (y.2 ++ l)))) := by
  obtain ⟨L, half, turn, taken, g1, g2, g3, g4⟩ := h.on
  obtain ⟨rfl, rfl, rfl, g5⟩ := g4 hup
  have htu := h.tu
  have hlen : ∀ (fr tu : Nat) (b : List Nat), (wrR fr tu b s.r (List.range (needsN b))).2.d.L.length = s.r.d.L.length := fun fr tu b => by
    rw [(wrR_d fr tu b (List.range (needsN b)) s.r).2]
    exact wrF_len' fr tu b _ _
  unfold CS.put
  by_cases h1 : ¬ (okR x l ∧ x.causes.length = 1 ∧ x.effects.length = 2)
  · rw [if_pos h1]
    exact .inr (.inl ⟨.inl rfl, rfl⟩)
  · rw [if_neg h1]
    obtain ⟨hok, hce⟩ := Decidable.not_not.1 h1
    by_cases h2 : s.taken + needsN (bytesF x l) ≤ s.r.d.L.length / 2
    · rw [if_pos h2]
      have hop : openF 1 2 (zero0 1 2) [] (L ++ [bytesF x l]) = some (x, lastN (y.2 ++ l)) := by
        rw [openF_app 1 2 L (zero0 1 2) [] (bytesF x l) y.1 y.2 g3]
        exact openF_one hok hce
      unfold CS.add
      dsimp only
      have hl := hlen (s.half * (s.r.d.L.length / 2) + s.taken) s.turn (bytesF x l)
      rcases g1.add_step (okR_fine hok) h2 hup with ⟨k1, k2, k3⟩ | ⟨k1, k2, k3⟩
      · rw [if_pos k1]
        refine .inl ⟨rfl, k2, rfl, ⟨h.h1, h.t0, by show s.turn ≤ _; omega, ?_, lastN_len _, (okR_last hok h.okn).2.2, _, _, _, _, k3, by omega, hop, fun _ => ⟨rfl, rfl, rfl, by rw [g5]⟩⟩⟩
        dsimp only
        rw [hl]
        exact h2
      · rw [if_neg (by rw [k1]; decide)]
        refine .inr (.inr ⟨k1, k2, rfl, fun hm => ?_⟩)
        rcases k3 hm with k3 | k3
        · exact .inl ⟨h.h1, h.t0, by show s.turn ≤ _; omega, by dsimp only; rw [hl]; exact h.tk, h.n32, h.okn, _, _, _, _, k3, by omega, g3, fun hd => by have hd' := k2.symm.trans hd; cases hd'⟩
        · exact .inr ⟨h.h1, h.t0, by show s.turn ≤ _; omega, by dsimp only; rw [hl]; exact h.tk, h.n32, h.okn, _, _, _, _, k3, by omega, hop, fun hd => by have hd' := k2.symm.trans hd; cases hd'⟩
    · rw [if_neg h2]
      by_cases h3 : s.r.d.L.length / 2 < needsN (bytesF x (lastN (s.N ++ l)))
      · rw [if_pos h3]
        exact .inr (.inl ⟨.inr rfl, rfl⟩)
      · rw [if_neg h3]
        have hok' : okR x (lastN (s.N ++ l)) := okR_last hok h.okn
        have hop : openF 1 2 (zero0 1 2) [] [bytesF x (lastN (s.N ++ l))] = some (x, lastN (y.2 ++ l)) := by
          rw [openF_one hok' hce, List.nil_append, lastN_small hok'.2.1, g5]
        unfold CS.comp
        dsimp only
        have hl := hlen ((1 - s.half) * (s.r.d.L.length / 2)) (s.turn + 1) (bytesF x (lastN (s.N ++ l)))
        rcases g1.comp_step (okR_fine hok') (by omega) (by omega) hup with ⟨k1, k2, k3⟩ | ⟨k1, k2, k3⟩
        · rw [if_pos k1]
          refine .inl ⟨rfl, k2, rfl, ⟨by show 1 - s.half ≤ 1; omega, by show 0 < s.turn + 1; omega, by show s.turn + 1 ≤ _; omega, ?_, lastN_len _, hok'.2.2, _, _, _, _, k3, by omega, hop, fun _ => ⟨rfl, rfl, rfl, by rw [g5]⟩⟩⟩
          dsimp only
          rw [hl]
          omega
        · rw [if_neg (by rw [k1]; decide)]
          refine .inr (.inr ⟨k1, k2, rfl, fun hm => ?_⟩)
          rcases k3 hm with k3 | k3
          · exact .inl ⟨h.h1, h.t0, by show s.turn ≤ _; omega, by dsimp only; rw [hl]; exact h.tk, h.n32, h.okn, _, _, _, _, k3, by omega, g3, fun hd => by have hd' := k2.symm.trans hd; cases hd'⟩
          · exact .inr ⟨h.h1, h.t0, by show s.turn ≤ _; omega, by dsimp only; rw [hl]; exact h.tk, h.n32, h.okn, _, _, _, _, k3, by omega, hop, fun hd => by have hd' := k2.symm.trans hd; cases hd'⟩
end
end Go.Proofs.Ytcdgaeenfhpnkaa.Cr
