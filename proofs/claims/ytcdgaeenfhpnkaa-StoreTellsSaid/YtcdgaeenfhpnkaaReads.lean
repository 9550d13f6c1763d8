/- Arguments, as they are read, told in my words: slices of bytes. -/
import Derived.Test.YtcdgaeenfhpnkaaBase
import Derived.ProofKit
import Derived.OpenShut
import Derived.ChangeOld
set_option linter.unusedVariables false
set_option linter.unusedSimpArgs false
namespace Go.Proofs.Ytcdgaeenfhpnkaa
open Go Go.RowKit Go.ChangeShapes Go.WideShapes Go.ChangeAt

theorem wf_u8_lt {n : Int} (h : (Lit.int .u8 n).wf = true) : 0 ≤ n ∧ n < 256 := by
  have := bounds_u8 h
  omega

theorem wf_u16_lt {n : Int} (h : (Lit.int .u16 n).wf = true) : 0 ≤ n ∧ n < 65536 := by
  have := bounds_u16 h
  omega

theorem bytes_of_trod {H : Type} {enc : TypeId × Value → H} {P : Program} {W : World} {t e fuel : Nat} {a : Option Addr} {len cap : Nat} {x : DataW H × List MemPlace}
    (ht : P.underlying t = some (.slice e)) (he : P.underlying e = some (.int .u8)) (hc : P.cellsOf e = 1)
    (hf : DataW.trod enc P W 0 (fun _ => true) true fuel t (Value.cells (.slice a len cap)).toList = some x) :
    ∃ l : List Nat, Rd W W.heap.size 1 a len (l.map bv) ∧ (∀ c ∈ l, c < 256) ∧ len ≤ cap ∧ cap ≤ maxLen := by
  rcases open_ints ht he hc hf with ⟨hcs, _⟩ | ⟨x, l, c, zs, hcs, _, hl, hm, hz, _, hcell, hwz⟩
  · simp [Value.cells] at hcs
    obtain ⟨rfl, rfl, rfl⟩ := hcs
    exact ⟨[], Rd.nil_ _ _ _ _, by simp, by omega, by simp [maxLen]⟩
  · simp [Value.cells] at hcs
    obtain ⟨rfl, rfl, rfl⟩ := hcs
    have hz' : zs.length = cap := by simpa using hz
    refine ⟨(zs.take len).map Int.toNat, ?_, ?_, hl, hm⟩
    · refine ⟨by simp; omega, fun hn => ?_⟩
      have h0 := hcell 0 (by omega)
      have hsp : x.spot = none := by
        have := World.cell?_spot h0
        simpa [Addr.add] using this
      obtain ⟨b, off, spot⟩ := x
      subst hsp
      refine ⟨b, off, rfl, ?_, fun j u hu => ?_⟩
      · have := World.block_lt_of_cell? W _ h0
        rwa [addr_add] at this
      · simp only [List.getElem?_map, List.getElem?_take] at hu
        by_cases hj : j < len
        · rw [if_pos hj] at hu
          have hjz : j < zs.length := by omega
          rw [List.getElem?_eq_getElem hjz] at hu
          simp only [Option.map_some, Option.some.injEq] at hu
          have := hcell j hjz
          rw [addr_add] at this
          rw [this, ← hu]
          have hw := wf_u8_lt (hwz _ (List.getElem_mem hjz))
          simp only [bv]
          rw [List.getD_eq_getElem?_getD, List.getElem?_eq_getElem hjz]
          simp only [Option.getD_some]
          rw [Int.toNat_of_nonneg hw.1]
        · rw [if_neg hj] at hu; simp at hu
    · intro c hc
      obtain ⟨z, hz1, rfl⟩ := List.mem_map.1 hc
      have := wf_u8_lt (hwz z (List.mem_of_mem_take hz1))
      omega
end Go.Proofs.Ytcdgaeenfhpnkaa
