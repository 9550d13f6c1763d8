/- Package log, plain: what write leaves on a disk that is up and not cut. -/
import Derived.Test.YtcdgaeenfhpnkaaLogN
set_option linter.unusedVariables false
set_option linter.unusedSimpArgs false
set_option maxRecDepth 100000
namespace Go.Proofs.Ytcdgaeenfhpnkaa
open CrcMath

def putL (L : List (List Nat)) (a : Nat) (xs : List (List Nat)) : List (List Nat) := L.take a ++ xs ++ L.drop (a + xs.length)
theorem putL_set (L : List (List Nat)) (a : Nat) (x : List Nat) (xs : List (List Nat)) (h : a < L.length) : putL (L.set a x) (a + 1) xs = putL L a (x :: xs) := by
  unfold putL
  have e1 : (L.set a x).take (a + 1) = L.take a ++ [x] := by
    rw [List.take_succ_eq_append_getElem (by rw [List.length_set]; exact h), List.take_set_of_le (Nat.le_refl _), List.getElem_set_self]
  have e2 : (L.set a x).drop (a + 1 + xs.length) = L.drop (a + (x :: xs).length) := by
    rw [List.drop_set_of_lt (by omega), List.length_cons]
    congr 1
    omega
  rw [e1, e2]
  simp
theorem write_good (d : DD) (a : Nat) (x : List Nat) (hd : d.down = false) (hc : d.cut = none) (ha : a < d.L.length) (hx : x.length = 64) : d.write (a : Int) x = (0, { d with L := d.L.set a x, writes := d.writes + 1 }) := by
  have hp : pad x = x := by simp [pad, hx]
  rw [DD.write, if_neg (by rw [hd]; simp), if_pos ⟨by omega, by omega, by omega⟩, hc]
  simp only [hp, Int.toNat_natCast]
theorem putL_nil (L : List (List Nat)) (a : Nat) : putL L a [] = L := by simp [putL]
theorem wrF_good (fr turn : Nat) (b : List Nat) (hb : b.length ≤ 448) : ∀ (r k : Nat) (d : DD), d.down = false → d.cut = none → fr + k + r ≤ d.L.length → k + r ≤ needsN b →
    wrF fr turn b d (List.range' k r) = (0, { d with L := putL d.L (fr + k) ((List.range' k r).map fun i => secP turn i (needsN b) (chunkN b i)), writes := d.writes + r })
  | 0, k, d, _, _, _, _ => by simp [wrF, putL_nil]
  | r + 1, k, d, hd, hc, hl, hm => by
    have hx : (secP turn k (needsN b) (chunkN b k)).length = 64 := secP_len _ _ _ _ (chunk_lt b k (by omega)).2.1
    have hw := write_good d (fr + k) _ hd hc (by omega) hx
    have e : ((fr : Int) + (k : Int)) = ((fr + k : Nat) : Int) := by omega
    rw [List.range'_succ, wrF, e, hw, if_pos rfl]
    have ih := wrF_good fr turn b hb r (k + 1) { d with L := d.L.set (fr + k) (secP turn k (needsN b) (chunkN b k)), writes := d.writes + 1 } hd hc (by simp only [List.length_set]; omega) (by omega)
    rw [ih]
    have h2 := putL_set d.L (fr + k) (secP turn k (needsN b) (chunkN b k)) ((List.range' (k + 1) r).map fun i => secP turn i (needsN b) (chunkN b i)) (by omega)
    simp only [List.map_cons, ← h2, Nat.add_assoc, Nat.add_comm 1 r]
theorem LP.fresh (m : Int) : LP (DD.fresh m) 0 1 0 [] := by
  have hz : ∀ s ∈ (DD.fresh m).L, s = List.replicate 64 0 := fun s hs => (List.mem_replicate.1 hs).2
  refine ⟨rfl, rfl, by omega, by omega, by omega, fun b hb => by simp at hb, rfl, by omega, by simp, fun i s hs _ p hp => ?_, fun _ => ⟨rfl, rfl, fun s hs => ?_⟩⟩
  · rw [hz s (List.mem_of_getElem? hs), tell_zeros] at hp; cases hp
  · rw [hz s hs, tell_zeros]
end Go.Proofs.Ytcdgaeenfhpnkaa
