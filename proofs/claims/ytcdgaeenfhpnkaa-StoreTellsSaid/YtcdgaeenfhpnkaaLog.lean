/- Package log, plain: what a sector tells, records of sectors, what is written. -/
import Derived.Test.YtcdgaeenfhpnkaaCrcMath
set_option linter.unusedVariables false
set_option linter.unusedSimpArgs false
set_option maxRecDepth 100000
namespace Go.Proofs.Ytcdgaeenfhpnkaa
open CrcMath

structure Pc where
  turn : Nat
  which : Nat
  of_ : Nat
  bytes : List Nat
/-- what 62 bytes tell -/
def tellB (b : List Nat) : Option Pc :=
  if b.getD 0 0 ≠ 87 then none
  else if b.getD 1 0 * 256 + b.getD 2 0 = 0 ∨ 8 < b.getD 4 0 ∨ b.getD 4 0 ≤ b.getD 3 0 ∨ b.getD 5 0 = 0 ∨ 56 < b.getD 5 0 then none
  else if b.getD 3 0 + 1 < b.getD 4 0 ∧ b.getD 5 0 ≠ 56 then none
  else if (b.drop (6 + b.getD 5 0)).all (fun x => x == 0) then some ⟨b.getD 1 0 * 256 + b.getD 2 0, b.getD 3 0, b.getD 4 0, (b.drop 6).take (b.getD 5 0)⟩
  else none
/-- what a sector of 64 bytes tells -/
def tellF (s : List Nat) : Option Pc := if opens s then tellB (s.take 62) else none

structure RS where
  out : List (List Nat)
  record : List Nat
  turn : Nat
  taken : Nat
  which : Nat
  of_ : Nat
def RS.of1 (s : RS) (p : Pc) : Nat := if s.which = 0 then p.of_ else s.of_
def RS.turn1 (s : RS) (p : Pc) : Nat := if s.turn = 0 then p.turn else s.turn
def RS.fits (s : RS) (p : Pc) : Prop := p.turn = s.turn1 p ∧ p.which = s.which ∧ p.of_ = s.of1 p
instance (s : RS) (p : Pc) : Decidable (s.fits p) := by unfold RS.fits; infer_instance
/-- a piece more: false: it does not fit -/
def RS.step (s : RS) (p : Pc) : RS × Bool :=
  if s.fits p then
    (if s.which + 1 = s.of1 p then ⟨s.out ++ [s.record ++ p.bytes], [], s.turn1 p, s.taken + s.of1 p, 0, s.of1 p⟩
     else ⟨s.out, s.record ++ p.bytes, s.turn1 p, s.taken, s.which + 1, s.of1 p⟩, true)
  else (⟨s.out, s.record, s.turn1 p, s.taken, s.which, s.of1 p⟩, false)
/-- the pieces of sectors, up to the first that tells none -/
def told : List (List Nat) → List Pc
  | [] => []
  | s :: r => match tellF s with | none => [] | some p => p :: told r
def RS.steps : RS → List Pc → RS
  | s, [] => s
  | s, p :: r => if (s.step p).2 then RS.steps (s.step p).1 r else (s.step p).1
def RS.zero : RS := ⟨[], [], 0, 0, 0, 0⟩
def recsF (L : List (List Nat)) : RS := RS.zero.steps (told L)

/-- the 62 bytes of a piece -/
def encP (turn i of_ : Nat) (c : List Nat) : List Nat := [87, turn / 256, turn % 256, i, of_, c.length] ++ c ++ List.replicate (56 - c.length) 0
def secP (turn i of_ : Nat) (c : List Nat) : List Nat := seal_ (encP turn i of_ c)
def needsN (b : List Nat) : Nat := (b.length + 55) / 56
def chunkN (b : List Nat) (i : Nat) : List Nat := (b.drop (56 * i)).take 56
def piecesOf (turn : Nat) (b : List Nat) : List (List Nat) := (List.range (needsN b)).map fun i => secP turn i (needsN b) (chunkN b i)

theorem encP_len (turn i of_ : Nat) (c : List Nat) (h : c.length ≤ 56) : (encP turn i of_ c).length = 62 := by simp [encP]; omega
theorem encP_lt (turn i of_ : Nat) (c : List Nat) (ht : turn < 65536) (hi : i < 256) (ho : of_ < 256) (h : c.length ≤ 56) (hc : ∀ x ∈ c, x < 256) : ∀ x ∈ encP turn i of_ c, x < 256 := by
  intro x hx
  simp only [encP, List.mem_append, List.mem_cons, List.mem_replicate, List.not_mem_nil, or_false] at hx
  rcases hx with ((rfl | rfl | rfl | rfl | rfl | rfl) | hx) | ⟨_, rfl⟩
  all_goals first | omega | exact hc x hx
theorem secP_len (turn i of_ : Nat) (c : List Nat) (h : c.length ≤ 56) : (secP turn i of_ c).length = 64 := by simp [secP, seal_, encP_len _ _ _ _ h]
theorem tell_enc (turn i of_ : Nat) (c : List Nat) (ht : 0 < turn) (ht2 : turn < 65536) (ho : of_ ≤ 8) (hi : i < of_) (hc1 : 0 < c.length) (hc : c.length ≤ 56) (hm : i + 1 < of_ → c.length = 56) :
    tellB (encP turn i of_ c) = some ⟨turn, i, of_, c⟩ := by
  have g0 : (encP turn i of_ c).getD 0 0 = 87 := rfl
  have g1 : (encP turn i of_ c).getD 1 0 = turn / 256 := rfl
  have g2 : (encP turn i of_ c).getD 2 0 = turn % 256 := rfl
  have g3 : (encP turn i of_ c).getD 3 0 = i := rfl
  have g4 : (encP turn i of_ c).getD 4 0 = of_ := rfl
  have g5 : (encP turn i of_ c).getD 5 0 = c.length := rfl
  have d6 : (encP turn i of_ c).drop 6 = c ++ List.replicate (56 - c.length) 0 := rfl
  unfold tellB
  rw [g0, g1, g2, g3, g4, g5]
  have e : turn / 256 * 256 + turn % 256 = turn := by omega
  rw [e, if_neg (by simp), if_neg (by omega), if_neg (by intro h; exact h.2 (hm h.1)), ← List.drop_drop, d6, List.drop_left, if_pos (by rw [List.all_eq_true]; intro x hx; simp [(List.mem_replicate.1 hx).2]), List.take_left]
theorem tell_sec (turn i of_ : Nat) (c : List Nat) (ht : 0 < turn) (ht2 : turn < 65536) (ho : of_ ≤ 8) (hi : i < of_) (hc1 : 0 < c.length) (hc : c.length ≤ 56) (hm : i + 1 < of_ → c.length = 56) (hb : ∀ x ∈ c, x < 256) :
    tellF (secP turn i of_ c) = some ⟨turn, i, of_, c⟩ := by
  unfold tellF secP
  rw [seal_opens _ (encP_lt turn i of_ c ht2 (by omega) (by omega) hc hb), if_pos rfl]
  have : (seal_ (encP turn i of_ c)).take 62 = encP turn i of_ c := by
    unfold seal_
    rw [List.take_append_of_le_length (by rw [encP_len _ _ _ _ hc]; exact Nat.le_refl _), List.take_of_length_le (by rw [encP_len _ _ _ _ hc]; exact Nat.le_refl _)]
  rw [this]
  exact tell_enc turn i of_ c ht ht2 ho hi hc1 hc hm
theorem tell_zeros : tellF (List.replicate 64 0) = none := by
  unfold tellF
  split
  · rfl
  · rfl
end Go.Proofs.Ytcdgaeenfhpnkaa
