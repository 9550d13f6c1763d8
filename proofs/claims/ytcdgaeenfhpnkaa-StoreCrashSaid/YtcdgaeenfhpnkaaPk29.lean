/- Package store: what was put is read, in plain Lean. -/
import Derived.Test.YtcdgaeenfhpnkaaPk28
set_option linter.unusedVariables false
set_option linter.unusedSimpArgs false
set_option maxRecDepth 100000
namespace Go.Proofs.Ytcdgaeenfhpnkaa
open Go Go.RowKit

theorem one_cons (x : Nat) (t : List Nat) (g : Bool) : Rr.one ⟨x :: t, g⟩ = (x, ⟨t, g⟩) := rfl
theorem check_yes (r : Rr) : r.check true = r := by obtain ⟨b, g⟩ := r; simp [Rr.check]
theorem timeN_six (t : Nat) (ht : t < 281474976710656) (rest : List Nat) (g : Bool) : Rr.timeN 6 ⟨six t ++ rest, g⟩ = (t, ⟨rest, g⟩) := by
  simp only [Rr.timeN, six, List.cons_append, List.nil_append, one_cons]
  congr 1
  omega
theorem time_six (t : Nat) (ht : okT t) (rest : List Nat) (g : Bool) : Rr.time ⟨six t ++ rest, g⟩ = (t, ⟨rest, g⟩) := by
  have h := timeN_six t (by obtain ⟨_, h⟩ := ht; omega) rest g
  unfold Rr.time
  rw [h]
  show (t, (⟨rest, g⟩ : Rr).check (decide (okT t))) = _
  rw [decide_eq_true ht, check_yes]
/-- rows that were put are read -/
theorem rowsL_flat {α : Type} {f : Rr → α × Rr} {enc : α → List Nat} {P : α → Prop} (h : ∀ a, P a → ∀ rest g, f ⟨enc a ++ rest, g⟩ = (a, ⟨rest, g⟩)) :
    ∀ (n : Nat) (l : List α), l.length = n → (∀ a ∈ l, P a) → ∀ rest g, Rr.rowsL f n ⟨l.flatMap enc ++ rest, g⟩ = (l, ⟨rest, g⟩)
  | 0, l, hl, _, rest, g => by
    have : l = [] := List.length_eq_zero_iff.1 hl
    subst this
    rfl
  | n + 1, l, hl, hP, rest, g => by
    have hne : l ≠ [] := fun e => by subst e; simp at hl
    obtain ⟨l', a, rfl⟩ : ∃ l' a, l = l' ++ [a] := ⟨l.dropLast, l.getLast hne, (List.dropLast_concat_getLast hne).symm⟩
    have hl' : l'.length = n := by simpa using hl
    have ih := rowsL_flat h n l' hl' (fun b hb => hP b (List.mem_append_left _ hb)) (enc a ++ rest) g
    have e : (l' ++ [a]).flatMap enc ++ rest = l'.flatMap enc ++ (enc a ++ rest) := by simp
    rw [e]
    unfold Rr.rowsL
    rw [ih, h a (hP a (by simp))]
theorem time_i (t : Int) (ht : okT t) (rest : List Nat) (g : Bool) : timeI ⟨sixI t ++ rest, g⟩ = (t, ⟨rest, g⟩) := by
  obtain ⟨h0, h1⟩ := ht
  have e : ((t.toNat : Nat) : Int) = t := by omega
  have h := time_six t.toNat (by rw [e]; exact ⟨h0, h1⟩) rest g
  unfold timeI sixI
  rw [h]
  show (((t.toNat : Nat) : Int), _) = _
  rw [e]
theorem note_n (x : Nt) (hx : okN x) (rest : List Nat) (g : Bool) : Rr.note ⟨encN x ++ rest, g⟩ = (x, ⟨rest, g⟩) := by
  obtain ⟨k, o, t⟩ := x
  obtain ⟨h1, h2, h3, h4, h5⟩ := hx
  dsimp only at h1 h2 h3 h4 h5
  have e0 : ((t.toNat : Nat) : Int) = t := by have := h5.1; omega
  have e1 : ((k.toNat : Nat) : Int) = k := by omega
  have e2 : ((o.toNat : Nat) : Int) = o := by omega
  have h := time_six t.toNat (by rw [e0]; exact h5) rest g
  have hn : noteOf k.toNat o.toNat t.toNat = ⟨k, o, t⟩ := by unfold noteOf; rw [e0, e1, e2]
  have hk : Rr.one ⟨encN ⟨k, o, t⟩ ++ rest, g⟩ = (k.toNat, ⟨o.toNat :: (six t.toNat ++ rest), g⟩) := rfl
  have ho : Rr.one ⟨o.toNat :: (six t.toNat ++ rest), g⟩ = (o.toNat, ⟨six t.toNat ++ rest, g⟩) := rfl
  unfold Rr.note
  rw [hk]
  dsimp only
  rw [ho]
  dsimp only
  rw [h]
  dsimp only
  rw [hn, decide_eq_true (show okN ⟨k, o, t⟩ from ⟨h1, h2, h3, h4, h5⟩), check_yes]
theorem latch_n (x : Lt) (hx : okL x) (rest : List Nat) (g : Bool) : Rr.latch ⟨encL x ++ rest, g⟩ = (x, ⟨rest, g⟩) := by
  obtain ⟨s, t, f⟩ := x
  have ht : okT t := by
    unfold okL at hx
    cases s
    · simp only [Bool.false_eq_true, if_false, Lt.mk.injEq] at hx
      rw [hx.2.1]; unfold okT; omega
    · simpa using hx
  have e0 : ((t.toNat : Nat) : Int) = t := by have := ht.1; omega
  have h := time_six t.toNat (by rw [e0]; exact ht) rest g
  have hn : latchOf (b2 s + 2 * b2 f) t.toNat = ⟨s, t, f⟩ := by
    unfold latchOf; rw [e0]
    cases s <;> cases f <;> rfl
  have hk : Rr.one ⟨encL ⟨s, t, f⟩ ++ rest, g⟩ = (b2 s + 2 * b2 f, ⟨six t.toNat ++ rest, g⟩) := rfl
  have h3 : b2 s + 2 * b2 f ≤ 3 := by cases s <;> cases f <;> decide
  unfold Rr.latch
  rw [hk]
  dsimp only
  rw [h]
  dsimp only
  rw [hn, decide_eq_true hx, decide_eq_true h3]
  show (_, (⟨rest, g⟩ : Rr).check true) = _
  rw [check_yes]
theorem many_n (n most : Nat) (h : n ≤ most) (rest : List Nat) (g : Bool) : Rr.many ⟨n :: rest, g⟩ most = (n, ⟨rest, g⟩) := by
  unfold Rr.many
  rw [one_cons]
  dsimp only
  rw [decide_eq_true h, check_yes, Nat.min_eq_left h]
/-- what was put is read -/
theorem read_bytes {s : St} {l : List Nt} (h : okR s l) : readV (encS s l) = (s, l, true) := by
  obtain ⟨⟨h1, h2, h3, h4, h5, h6⟩, h7, h8⟩ := h
  obtain ⟨C, E, T⟩ := s
  dsimp only at h1 h2 h3 h4 h5 h6
  have e : encS ⟨C, E, T⟩ l = C.length :: E.length :: (C.flatMap encL ++ (E.flatMap encL ++ (T.flatMap sixI ++ (l.length :: (l.flatMap encN ++ []))))) := by
    unfold encS enc4 enc3 enc2 enc1 enc0
    simp
  obtain ⟨b, hb⟩ : ∃ b, b = encS ⟨C, E, T⟩ l := ⟨_, rfl⟩
  rw [← hb]
  rw [← hb] at e
  have r1 : rd1 b = (C.length, ⟨E.length :: (C.flatMap encL ++ (E.flatMap encL ++ (T.flatMap sixI ++ (l.length :: (l.flatMap encN ++ []))))), false⟩) := by
    unfold rd1; rw [e]; exact many_n _ _ h1 _ _
  have r2 : rd2 b = (E.length, ⟨C.flatMap encL ++ (E.flatMap encL ++ (T.flatMap sixI ++ (l.length :: (l.flatMap encN ++ [])))), false⟩) := by
    unfold rd2; rw [r1]; exact many_n _ _ h3 _ _
  have r3 : rd3 b = (C, ⟨E.flatMap encL ++ (T.flatMap sixI ++ (l.length :: (l.flatMap encN ++ []))), false⟩) := by
    unfold rd3; rw [r1, r2]; exact rowsL_flat latch_n _ _ rfl h4 _ _
  have r4 : rd4 b = (E, ⟨T.flatMap sixI ++ (l.length :: (l.flatMap encN ++ [])), false⟩) := by
    unfold rd4; rw [r2, r3]; exact rowsL_flat latch_n _ _ rfl h5 _ _
  have r5 : rd5 b = (T, ⟨l.length :: (l.flatMap encN ++ []), false⟩) := by
    unfold rd5; rw [r1, r4]; exact rowsL_flat time_i _ _ h2 h6 _ _
  have r6 : rd6 b = (l.length, ⟨l.flatMap encN ++ [], false⟩) := by
    unfold rd6; rw [r5]; exact many_n _ _ h7 _ _
  have r7 : rd7 b = (l, ⟨[], false⟩) := by
    unfold rd7; rw [r6]; exact rowsL_flat note_n _ _ rfl h8 _ _
  have r8 : (rd8 b).wrong = false := by unfold rd8; rw [r7]; rfl
  unfold readV
  rw [r8, r3, r4, r5, r7]
  rfl
/-- a reader's step: if nothing was wrong, the bytes are those of what was read -/
def BackI {α : Type} (f : Rr → α × Rr) (enc : α → List Nat) (P : α → Prop) : Prop :=
  ∀ r : Rr, (∀ x ∈ r.b, x < 256) → (f r).2.wrong = false → r.wrong = false ∧ P (f r).1 ∧ r.b = enc (f r).1 ++ (f r).2.b
theorem one_back (r : Rr) (hb : ∀ x ∈ r.b, x < 256) (h : r.one.2.wrong = false) : r.wrong = false ∧ r.one.1 < 256 ∧ r.b = r.one.1 :: r.one.2.b := by
  obtain ⟨b, g⟩ := r
  cases b with
  | nil => simp [Rr.one] at h
  | cons x t => exact ⟨h, hb x (by simp), rfl⟩
theorem check_back {r : Rr} {p : Bool} (h : (r.check p).wrong = false) : r.wrong = false ∧ p = true := by
  obtain ⟨b, g⟩ := r
  unfold Rr.check at h
  cases g <;> cases p <;> simp_all
theorem one_wrong (r : Rr) (h : ¬ r.wrong = false) : ¬ r.one.2.wrong = false := by
  obtain ⟨b, g⟩ := r
  cases b with
  | nil => simp [Rr.one]
  | cons x t => exact h
theorem check_wrong (r : Rr) (p : Bool) (h : ¬ r.wrong = false) : ¬ (r.check p).wrong = false := fun e => h (check_back e).1
theorem timeN_wrong : ∀ (k : Nat) (r : Rr), ¬ r.wrong = false → ¬ (r.timeN k).2.wrong = false
  | 0, r, h => h
  | k + 1, r, h => one_wrong _ (timeN_wrong k r h)
theorem time_wrong (r : Rr) (h : ¬ r.wrong = false) : ¬ r.time.2.wrong = false := check_wrong _ _ (timeN_wrong 6 r h)
theorem bytes_tail {r : Rr} {a b : List Nat} (hb : ∀ x ∈ r.b, x < 256) (e : r.b = a ++ b) : ∀ x ∈ b, x < 256 := fun x hx => hb x (by rw [e]; exact List.mem_append_right _ hx)
theorem timeN_back : ∀ (k : Nat) (r : Rr), (∀ x ∈ r.b, x < 256) → (r.timeN k).2.wrong = false → r.wrong = false ∧ ∃ l : List Nat, l.length = k ∧ (∀ x ∈ l, x < 256) ∧ r.b = l ++ (r.timeN k).2.b ∧ (r.timeN k).1 = l.foldl (fun a x => a * 256 + x) 0
  | 0, r, hb, h => ⟨h, [], rfl, by simp, rfl, rfl⟩
  | k + 1, r, hb, h => by
    have hd : (r.timeN k).2.one.2.wrong = false := h
    by_cases hw : (r.timeN k).2.wrong = false
    · obtain ⟨h1, l, h2, h3, h4, h5⟩ := timeN_back k r hb hw
      have ht := bytes_tail hb h4
      obtain ⟨_, o2, o3⟩ := one_back _ ht hd
      refine ⟨h1, l ++ [(r.timeN k).2.one.1], by simp [h2], ?_, ?_, ?_⟩
      · intro x hx
        rcases List.mem_append.1 hx with hx | hx
        · exact h3 x hx
        · simp at hx; rw [hx]; exact o2
      · rw [h4]
        show l ++ (r.timeN k).2.b = _
        rw [List.append_assoc]
        congr 1
      · show (r.timeN k).1 * 256 + (r.timeN k).2.one.1 = _
        rw [List.foldl_append, ← h5]
        rfl
    · exact absurd hd (one_wrong _ hw)
theorem time_back : BackI Rr.time six (fun t => okT t) := by
  intro r hb h
  obtain ⟨h0, hk⟩ := check_back h
  obtain ⟨h1, l, h2, h3, h4, h5⟩ := timeN_back 6 r hb h0
  refine ⟨h1, of_decide_eq_true hk, ?_⟩
  show r.b = six (r.timeN 6).1 ++ (r.timeN 6).2.b
  have e : six (r.timeN 6).1 = l := by
    rw [h5]
    match l, h2, h3 with
    | [a, b, c, d, e, f], _, h3 =>
      simp only [List.mem_cons, List.not_mem_nil, or_false, forall_eq_or_imp, forall_eq] at h3
      obtain ⟨k1, k2, k3, k4, k5, k6⟩ := h3
      simp only [List.foldl_cons, List.foldl_nil, six, Nat.zero_mul, Nat.zero_add]
      simp only [List.cons.injEq, and_true]
      omega
  rw [e]; exact h4
theorem timeI_back : BackI timeI sixI okT := by
  intro r hb h
  obtain ⟨h1, h2, h3⟩ := time_back r hb h
  exact ⟨h1, h2, h3⟩
theorem b2_back (h : Nat) (h3 : h ≤ 3) : b2 (decide (h % 2 = 1)) + 2 * b2 (decide (h / 2 % 2 = 1)) = h := by
  match h, h3 with
  | 0, _ => rfl
  | 1, _ => rfl
  | 2, _ => rfl
  | 3, _ => rfl
theorem latch_back : BackI Rr.latch encL okL := by
  intro r hb h
  obtain ⟨h0, hk⟩ := check_back h
  rw [Bool.and_eq_true] at hk
  have h3 := of_decide_eq_true hk.1
  have hL := of_decide_eq_true hk.2
  have ho : r.one.2.wrong = false := by
    by_cases hw : r.one.2.wrong = false
    · exact hw
    · exact absurd (time_wrong _ hw) (by rw [h0]; simp)
  obtain ⟨h1, h2, e⟩ := one_back r hb ho
  obtain ⟨_, _, h5⟩ := time_back r.one.2 (fun x hx => hb x (by rw [e]; exact List.mem_cons_of_mem _ hx)) h0
  refine ⟨h1, hL, ?_⟩
  show r.b = (b2 (decide (r.one.1 % 2 = 1)) + 2 * b2 (decide (r.one.1 / 2 % 2 = 1))) :: six r.one.2.time.1 ++ r.one.2.time.2.b
  rw [b2_back _ h3, List.cons_append, ← h5, ← e]
theorem note_back : BackI Rr.note encN okN := by
  intro r hb h
  obtain ⟨h0, hk⟩ := check_back h
  have hL := of_decide_eq_true hk
  have ho2 : r.one.2.one.2.wrong = false := by
    by_cases hw : r.one.2.one.2.wrong = false
    · exact hw
    · exact absurd (time_wrong _ hw) (by rw [h0]; simp)
  have ho : r.one.2.wrong = false := by
    by_cases hw : r.one.2.wrong = false
    · exact hw
    · exact absurd (one_wrong _ hw) (by rw [ho2]; simp)
  obtain ⟨h1, h2, e⟩ := one_back r hb ho
  have hb2 : ∀ x ∈ r.one.2.b, x < 256 := fun x hx => hb x (by rw [e]; exact List.mem_cons_of_mem _ hx)
  obtain ⟨_, h2', e'⟩ := one_back r.one.2 hb2 ho2
  obtain ⟨_, _, h5⟩ := time_back r.one.2.one.2 (fun x hx => hb2 x (by rw [e']; exact List.mem_cons_of_mem _ hx)) h0
  refine ⟨h1, hL, ?_⟩
  show r.b = [((r.one.1 : Int)).toNat, ((r.one.2.one.1 : Int)).toNat] ++ six r.one.2.one.2.time.1 ++ r.one.2.one.2.time.2.b
  rw [Int.toNat_natCast, Int.toNat_natCast, List.append_assoc, ← h5]
  show r.b = r.one.1 :: r.one.2.one.1 :: r.one.2.one.2.b
  rw [← e', ← e]
/-- a reader's step leaves bytes -/
def KeepI {α : Type} (f : Rr → α × Rr) : Prop := ∀ r : Rr, (∀ x ∈ r.b, x < 256) → ∀ x ∈ (f r).2.b, x < 256
theorem latch_keep : KeepI Rr.latch := fun r h => time_bytes _ (one_bytes _ h)
theorem timeI_keep : KeepI timeI := fun r h => time_bytes _ h
theorem note_keep : KeepI Rr.note := fun r h => time_bytes _ (one_bytes _ (one_bytes _ h))
theorem rowsL_keep {α : Type} {f : Rr → α × Rr} (h : KeepI f) : ∀ n, KeepI (Rr.rowsL f n)
  | 0, r, hb => hb
  | n + 1, r, hb => h _ (rowsL_keep h n r hb)
theorem many_keep (m : Nat) : KeepI (fun r => r.many m) := fun r h => one_bytes _ h
theorem rowsL_back {α : Type} {f : Rr → α × Rr} {enc : α → List Nat} {P : α → Prop} (h : BackI f enc P) (hk : KeepI f) :
    ∀ n, BackI (Rr.rowsL f n) (fun l => l.flatMap enc) (fun l => ∀ a ∈ l, P a)
  | 0, r, hb, hw => ⟨hw, by intro a ha; simp [Rr.rowsL] at ha, rfl⟩
  | n + 1, r, hb, hw => by
    have hd : (f (Rr.rowsL f n r).2).2.wrong = false := hw
    have hm : ∀ x ∈ (Rr.rowsL f n r).2.b, x < 256 := rowsL_keep hk n r hb
    obtain ⟨h1, h2, h3⟩ := h _ hm hd
    obtain ⟨k1, k2, k3⟩ := rowsL_back h hk n r hb h1
    refine ⟨k1, ?_, ?_⟩
    · show ∀ a ∈ (Rr.rowsL f n r).1 ++ [(f (Rr.rowsL f n r).2).1], P a
      intro a ha
      rcases List.mem_append.1 ha with ha | ha
      · exact k2 a ha
      · simp at ha; rw [ha]; exact h2
    · show r.b = ((Rr.rowsL f n r).1 ++ [(f (Rr.rowsL f n r).2).1]).flatMap enc ++ (f (Rr.rowsL f n r).2).2.b
      rw [List.flatMap_append, List.append_assoc]
      simp only [List.flatMap_cons, List.flatMap_nil, List.append_nil]
      rw [← h3]
      exact k3
theorem many_back (m : Nat) (r : Rr) (hb : ∀ x ∈ r.b, x < 256) (h : (r.many m).2.wrong = false) : r.wrong = false ∧ (r.many m).1 ≤ m ∧ r.b = (r.many m).1 :: (r.many m).2.b := by
  obtain ⟨h0, hk⟩ := check_back h
  have h3 := of_decide_eq_true hk
  obtain ⟨h1, _, e⟩ := one_back r hb h0
  refine ⟨h1, Nat.min_le_right _ _, ?_⟩
  show r.b = min r.one.1 m :: r.one.2.b
  rw [Nat.min_eq_left h3]; exact e
/-- what is read has these bytes -/
theorem bytes_read {b : List Nat} {s : St} {l : List Nt} (hb : ∀ x ∈ b, x < 256) (h : readV b = (s, l, true)) : okR s l ∧ encS s l = b := by
  unfold readV at h
  split at h
  · simp at h
  · rename_i hw
    simp only [Bool.not_eq_true] at hw
    simp only [Prod.mk.injEq, and_true] at h
    obtain ⟨rfl, rfl⟩ := h
    have b1 : ∀ x ∈ (rd1 b).2.b, x < 256 := many_keep 8 ⟨b, false⟩ hb
    have b2 : ∀ x ∈ (rd2 b).2.b, x < 256 := many_keep 8 _ b1
    have b3 : ∀ x ∈ (rd3 b).2.b, x < 256 := rowsL_keep latch_keep _ _ b2
    have b4 : ∀ x ∈ (rd4 b).2.b, x < 256 := rowsL_keep latch_keep _ _ b3
    have b5 : ∀ x ∈ (rd5 b).2.b, x < 256 := rowsL_keep timeI_keep _ _ b4
    have b6 : ∀ x ∈ (rd6 b).2.b, x < 256 := many_keep 32 _ b5
    obtain ⟨h7, k8⟩ := check_back (r := (rd7 b).2) hw
    have n8 : (rd7 b).2.b = [] := List.eq_nil_of_length_eq_zero (of_decide_eq_true k8)
    obtain ⟨h6, p7, e7⟩ := rowsL_back note_back note_keep (rd6 b).1 (rd6 b).2 b6 h7
    obtain ⟨h5, p6, e6⟩ := many_back 32 (rd5 b).2 b5 h6
    obtain ⟨h4, p5, e5⟩ := rowsL_back timeI_back timeI_keep (rd1 b).1 (rd4 b).2 b4 h5
    obtain ⟨h3, p4, e4⟩ := rowsL_back latch_back latch_keep (rd2 b).1 (rd3 b).2 b3 h4
    obtain ⟨h2, p3, e3⟩ := rowsL_back latch_back latch_keep (rd1 b).1 (rd2 b).2 b2 h3
    obtain ⟨h1, p2, e2⟩ := many_back 8 (rd1 b).2 b1 h2
    obtain ⟨_, p1, e1⟩ := many_back 8 ⟨b, false⟩ hb h1
    have l3 : (rd3 b).1.length = (rd1 b).1 := rowsL_len _ _ _
    have l4 : (rd4 b).1.length = (rd2 b).1 := rowsL_len _ _ _
    have l5 : (rd5 b).1.length = (rd1 b).1 := rowsL_len _ _ _
    have l7 : (rd7 b).1.length = (rd6 b).1 := rowsL_len _ _ _
    have q1 : (rd1 b).1 ≤ 8 := p1
    have q2 : (rd2 b).1 ≤ 8 := p2
    have q6 : (rd6 b).1 ≤ 32 := p6
    refine ⟨⟨⟨by dsimp only; omega, by dsimp only; omega, by dsimp only; omega, p3, p4, p5⟩, by omega, p7⟩, ?_⟩
    have f1 : b = (rd1 b).1 :: (rd1 b).2.b := e1
    have f2 : (rd1 b).2.b = (rd2 b).1 :: (rd2 b).2.b := e2
    have f3 : (rd2 b).2.b = (rd3 b).1.flatMap encL ++ (rd3 b).2.b := e3
    have f4 : (rd3 b).2.b = (rd4 b).1.flatMap encL ++ (rd4 b).2.b := e4
    have f5 : (rd4 b).2.b = (rd5 b).1.flatMap sixI ++ (rd5 b).2.b := e5
    have f6 : (rd5 b).2.b = (rd6 b).1 :: (rd6 b).2.b := e6
    have f7 : (rd6 b).2.b = (rd7 b).1.flatMap encN ++ (rd7 b).2.b := e7
    unfold encS enc4 enc3 enc2 enc1 enc0
    dsimp only
    rw [l3, l4, l7]
    conv => rhs; rw [f1, f2, f3, f4, f5, f6, f7, n8]
    simp
theorem readV_no {b : List Nat} (h : (readV b).2.2 = false) : readV b = (⟨[], [], []⟩, [], false) := by
  unfold readV at h ⊢
  split
  · rfl
  · rename_i hw
    rw [if_neg hw] at h
    simp at h
/-- bytes are those of what is read, or are none -/
theorem readV_or (b : List Nat) (hb : ∀ x ∈ b, x < 256) : readV b = (⟨[], [], []⟩, [], false) ∨ ∃ s l, readV b = (s, l, true) ∧ okR s l ∧ encS s l = b := by
  cases h : (readV b).2.2
  · exact .inl (readV_no h)
  · refine .inr ⟨(readV b).1, (readV b).2.1, ?_, ?_⟩
    · rw [← h]
    · exact bytes_read hb (by rw [← h])
end Go.Proofs.Ytcdgaeenfhpnkaa
/- The live question ahead of each statement on stores: its parts. -/
set_option linter.unusedVariables false
set_option linter.unusedSimpArgs false
set_option maxRecDepth 100000
namespace Go.Proofs.Ytcdgaeenfhpnkaa
open Go Go.RowKit
attribute [local go_sem] Oper.semAt_some

def oneS (t : Int) : St := ⟨[⟨true, t, true⟩], [⟨false, 0, false⟩], [7]⟩
def StP (w : World) (s : St) (e : Ending) (w' : World) : Prop := ∃ v : StV, e = .returned (.agg #[.slice v.A1 v.n1 v.c1, .slice v.A2 v.n2 v.c2, .slice v.A3 v.n3 v.c3]) ∧ StO w' w.heap.size v s ∧ Below w.heap.size w w'
theorem own_new (w : World) (e k n : Nat) (cs : List Value) (hc : n ≤ maxLen) (h1 : cs.length = n * k) : (w.alloc (.cells cs.toArray e)).ownsRow w.heap.size e k (.slice (some ⟨w.heap.size, 0, none⟩) n n) n cs :=
  ⟨h1, .inr ⟨w.heap.size, n, cs.toArray, rfl, Nat.le_refl _, heap_alloc_new w _, Nat.le_refl _, hc, by simpa using h1, by rw [← h1]; simp⟩⟩
theorem al_ (w : World) (o : Obj) : Below w.heap.size w (w.alloc o) := (Below.refl _ _).alloc (Nat.le_refl _) _
theorem one_st (t : Int) (w : World) :
    Calls Try.prog 25 #[.int .i64 t] w (StP w (oneS t)) := by
  have hza : (w.alloc (.cells #[.slice none 0 0, .slice none 0 0, .slice none 0 0] 25)).heap.size = w.heap.size + 1 := World.size_alloc _ _
  go_enter Try.func25, Try.ntmps25
  go_wp2_with fail
  obtain ⟨w1, hw1⟩ : ∃ x, x = w.alloc (.cells #[.slice (some ⟨w.heap.size + 1, 0, none⟩) 1 1, .slice (some ⟨w.heap.size + 1 + 1, 0, none⟩) 1 1, .slice (some ⟨w.heap.size + 1 + 1 + 1, 0, none⟩) 1 1] 25) := ⟨_, rfl⟩
  have hz1 : w1.heap.size = w.heap.size + 1 := by rw [hw1]; exact World.size_alloc _ _
  have hb1 : Below w.heap.size w w1 := by rw [hw1]; exact al_ _ _
  have hc1 := heap_alloc_new w (.cells #[.slice (some ⟨w.heap.size + 1, 0, none⟩) 1 1, .slice (some ⟨w.heap.size + 1 + 1, 0, none⟩) 1 1, .slice (some ⟨w.heap.size + 1 + 1 + 1, 0, none⟩) 1 1] 25)
  rw [← hw1] at hc1
  rw [← hw1]
  have o1 := own_new w1 61 3 1 [.bool true, .int .i64 t, .bool true] (by unfold maxLen; omega) rfl
  have b2 := al_ w1 (.cells #[.bool true, .int .i64 t, .bool true] 61)
  obtain ⟨w2, hw2⟩ : ∃ x, x = w1.alloc (.cells #[.bool true, .int .i64 t, .bool true] 61) := ⟨_, rfl⟩
  have hz2 : w2.heap.size = w.heap.size + 1 + 1 := by rw [hw2, World.size_alloc, hz1]
  change (w1.alloc (.cells #[.bool true, .int .i64 t, .bool true] 61)).ownsRow _ _ _ _ _ _ at o1
  rw [← hw2] at b2 o1 ⊢
  have o2 := own_new w2 61 3 1 [.bool false, .int .i64 0, .bool false] (by unfold maxLen; omega) rfl
  have b3 := al_ w2 (.cells #[.bool false, .int .i64 0, .bool false] 61)
  obtain ⟨w3, hw3⟩ : ∃ x, x = w2.alloc (.cells #[.bool false, .int .i64 0, .bool false] 61) := ⟨_, rfl⟩
  have hz3 : w3.heap.size = w.heap.size + 1 + 1 + 1 := by rw [hw3, World.size_alloc, hz2]
  change (w2.alloc (.cells #[.bool false, .int .i64 0, .bool false] 61)).ownsRow _ _ _ _ _ _ at o2
  rw [← hw3] at b3 o2 ⊢
  have o3 := own_new w3 2 1 1 [.int .i64 7] (by unfold maxLen; omega) rfl
  have b4 := al_ w3 (.cells #[.int .i64 7] 2)
  obtain ⟨w4, hw4⟩ : ∃ x, x = w3.alloc (.cells #[.int .i64 7] 2) := ⟨_, rfl⟩
  change (w3.alloc (.cells #[.int .i64 7] 2)).ownsRow _ _ _ _ _ _ at o3
  rw [← hw4] at b4 o3 ⊢
  have p1 := own_below (own_below o1 b3) b4
  have p2 := own_below o2 b4
  rw [hz1] at p1
  rw [hz2] at p2
  rw [hz3] at o3
  have h4 := ((b2.trans ((b3.trans (b4.mono b3.size)).mono b2.size)).block w.heap.size (by omega)).trans hc1
  refine bodyPost_ret (results_cell_row rfl _ _ w.heap.size 25 _ (0, 0) _ rfl h4 Try.underlying25 rfl (by kernel_rfl)) rfl ?_
  refine ⟨⟨some ⟨w.heap.size + 1, 0, none⟩, 1, 1, some ⟨w.heap.size + 1 + 1, 0, none⟩, 1, 1, some ⟨w.heap.size + 1 + 1 + 1, 0, none⟩, 1, 1⟩, rfl, ⟨own_base p1 (by omega), own_base p2 (by omega), own_base o3 (by omega), rfl, rfl, rfl⟩, ?_⟩
  exact hb1.trans ((b2.trans ((b3.trans (b4.mono b3.size)).mono b2.size)).mono hb1.size)
theorem greatState_any (v : StV) (A : Option Addr) (n c : Nat) (w : World) (h1 : v.n1 ≤ 140737488351232) (h2 : v.n2 ≤ 140737488351232) (h3 : v.n3 ≤ 140737488351232) (hn : n ≤ 140737488351232) :
    Calls Try.prog 9 #[.agg #[.slice v.A1 v.n1 v.c1, .slice v.A2 v.n2 v.c2, .slice v.A3 v.n3 v.c3], .slice A n c] w fun e w' => e = .returned (.bool (decide (500 < v.n1 + v.n2 + v.n3 + n))) ∧ Below w.heap.size w w' := by
  obtain ⟨A1, n1, c1, A2, n2, c2, A3, n3, c3⟩ := v
  dsimp only at h1 h2 h3
  go_enter Try.func9, Try.ntmps9
  go_wp2_with fail
  go_ret
  refine ⟨ret_bool2 ?_, (Below.refl _ _).alloc (Nat.le_refl _) _⟩
  rw [decide_eq_decide]
  omega
end Go.Proofs.Ytcdgaeenfhpnkaa
