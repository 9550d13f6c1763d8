/- A slice of whatever, as it is read, told as a list. -/
import Derived.Test.YtcdgaeenfhpnkaaReads
set_option linter.unusedVariables false
set_option linter.unusedSimpArgs false
set_option maxRecDepth 100000
namespace Go.Proofs.Ytcdgaeenfhpnkaa
open Go Go.RowKit Go.ChangeShapes Go.WideShapes Go.ChangeAt

/-- a slice of n elements of k cells each reads as a list; it lies below block B -/
def RdS {α : Type} (enc : α → List Value) (w : World) (B k : Nat) (A : Option Addr) (n : Nat) (l : List α) : Prop :=
  l.length = n ∧ (0 < n → ∃ b o, A = some ⟨b, o, none⟩ ∧ b < B ∧ ∀ (j : Nat) (r : α), l[j]? = some r → ∀ (i : Nat) (u : Value), (enc r)[i]? = some u → w.cell? ⟨b, o + j * k + i, none⟩ = some u)
theorem RdS.keep {α : Type} {enc : α → List Value} {w w' : World} {B k n : Nat} {A : Option Addr} {l : List α} (h : RdS enc w B k A n l) (hk : ∀ p : Addr, p.block < B → w'.cell? p = w.cell? p) : RdS enc w' B k A n l :=
  ⟨h.1, fun hn => by
    obtain ⟨b, o, e, hb, hc⟩ := h.2 hn
    exact ⟨b, o, e, hb, fun j r hj i u hi => (hk ⟨b, o + j * k + i, none⟩ hb).trans (hc j r hj i u hi)⟩⟩
theorem RdS.below {α : Type} {enc : α → List Value} {w w' : World} {B k n : Nat} {A : Option Addr} {l : List α} (h : RdS enc w B k A n l) (hb : Below B w w') : RdS enc w' B k A n l := h.keep fun p hp => hb.cell (p := p) hp
theorem RdS.more {α : Type} {enc : α → List Value} {w : World} {B B' k n : Nat} {A : Option Addr} {l : List α} (h : RdS enc w B k A n l) (hB : B ≤ B') : RdS enc w B' k A n l :=
  ⟨h.1, fun hn => by
    obtain ⟨b, o, e, hb, hc⟩ := h.2 hn
    exact ⟨b, o, e, by omega, hc⟩⟩
theorem RdS.rd {α : Type} {f : α → Value} {w : World} {B n : Nat} {A : Option Addr} {l : List α} (h : RdS (fun x => [f x]) w B 1 A n l) : Rd w B 1 A n (l.map f) :=
  ⟨by simp [h.1], fun hn => by
    obtain ⟨b, o, e, hb, hc⟩ := h.2 hn
    refine ⟨b, o, e, hb, fun j u hu => ?_⟩
    rw [List.getElem?_map, Option.map_eq_some_iff] at hu
    obtain ⟨x, hx, rfl⟩ := hu
    have := hc j x hx 0 (f x) rfl
    rwa [Nat.mul_one, Nat.add_zero] at this⟩

theorem choose_list {α : Type} (n : Nat) (P : Nat → α → Prop) (h : ∀ i, i < n → ∃ r, P i r) : ∃ l : List α, l.length = n ∧ ∀ (i : Nat) (r : α), l[i]? = some r → P i r := by
  induction n with
  | zero => exact ⟨[], rfl, fun i r hi => by simp at hi⟩
  | succ n ih =>
    obtain ⟨l, hl, hP⟩ := ih (fun i hi => h i (by omega))
    obtain ⟨r, hr⟩ := h n (by omega)
    refine ⟨l ++ [r], by simp [hl], fun i x hi => ?_⟩
    rcases Nat.lt_or_ge i n with hin | hin
    · rw [List.getElem?_append_left (by omega)] at hi
      exact hP i x hi
    · rw [List.getElem?_append_right (by omega)] at hi
      have hlt := (List.getElem?_eq_some_iff.1 hi).1
      simp at hlt
      have e : i = n := by omega
      subst e
      rw [hl, Nat.sub_self] at hi
      simp at hi
      rw [← hi]; exact hr
theorem rows_of_trod {H α : Type} {enc : TypeId × Value → H} {P : Program} {W : World} {t e k fuel : Nat} {A : Option Addr} {len cap : Nat} {x : DataW H × List MemPlace} (f : α → List Value) (ok : α → Prop)
    (ht : P.underlying t = some (.slice e)) (hc : P.cellsOf e = k) (hk : 0 < k) (hf : ∀ r, (f r).length = k)
    (each : ∀ fuel cs x, DataW.trod enc P W 0 (fun _ => true) true fuel e cs = some x → ∃ r, cs = f r ∧ ok r)
    (h : DataW.trod enc P W 0 (fun _ => true) true fuel t (Value.cells (.slice A len cap)).toList = some x) :
    ∃ l : List α, RdS f W W.heap.size k A len l ∧ (∀ r ∈ l, ok r) ∧ len ≤ cap ∧ cap ≤ maxLen := by
  rcases DataW.trod_slice ht h with ⟨h, _⟩ | ⟨a, len', cap', elems, rest, n, _, h, _, _, hlc, hcm, hel, hat, _⟩
  · simp [Value.cells] at h
    obtain ⟨rfl, rfl, rfl⟩ := h
    exact ⟨[], ⟨rfl, fun h => absurd h (by omega)⟩, by simp, by omega, by simp [maxLen]⟩
  · simp [Value.cells] at h
    obtain ⟨rfl, rfl, rfl⟩ := h
    have hev : ∀ i, i < len → ∃ r : α, (∀ (j : Nat) (u : Value), (f r)[j]? = some u → W.cell? ((a.add (i * k)).add j) = some u) ∧ ok r := by
      intro i hi
      have h1 := hat i hi
      rw [List.getElem?_eq_getElem (by omega), hc, Option.bind_eq_some_iff] at h1
      obtain ⟨cs, hcs, hf1⟩ := h1
      obtain ⟨r, rfl, hr⟩ := each _ _ _ hf1
      refine ⟨r, fun j u hj => ?_, hr⟩
      have hs := (World.cells?_some hcs).2.2 j (by have := (List.getElem?_eq_some_iff.1 hj).1; rw [hf] at this; exact this)
      rw [hs]; exact hj
    obtain ⟨l, hl, hP⟩ := choose_list len _ hev
    refine ⟨l, ⟨hl, fun hn => ?_⟩, fun r hr => ?_, hlc, hcm⟩
    · obtain ⟨r0, h0⟩ : ∃ r0, l[0]? = some r0 := ⟨_, List.getElem?_eq_getElem (by omega)⟩
      obtain ⟨u0, hu0⟩ : ∃ u0, (f r0)[0]? = some u0 := ⟨_, List.getElem?_eq_getElem (by rw [hf]; exact hk)⟩
      have hc0 := (hP 0 r0 h0).1 0 _ hu0
      have hsp : a.spot = none := by
        have := World.cell?_spot hc0
        simpa [Addr.add] using this
      obtain ⟨b, off, spot⟩ := a
      subst hsp
      refine ⟨b, off, rfl, ?_, fun j r hj i u hi => ?_⟩
      · have := World.block_lt_of_cell? W _ hc0
        rwa [addr_add, addr_add] at this
      · have hh := (hP j r hj).1 i u hi
        rwa [addr_add, addr_add] at hh
    · obtain ⟨i, hi⟩ := List.mem_iff_getElem?.1 hr
      exact (hP i r hi).2
/-- a slice value from its one cell -/
theorem slice_of_trod {H : Type} {enc : TypeId × Value → H} {P : Program} {W : World} {t e fuel : Nat} {d : Value} {x : DataW H × List MemPlace} (ht : P.underlying t = some (.slice e))
    (h : DataW.trod enc P W 0 (fun _ => true) true fuel t [d] = some x) : ∃ A len cap, d = .slice A len cap := by
  rcases DataW.trod_slice ht h with ⟨h, _⟩ | ⟨a, len, cap, _, _, _, _, h, _⟩
  · simp at h; exact ⟨_, _, _, h⟩
  · simp at h; exact ⟨_, _, _, h⟩
def ivw (n : Int) : List Value := [.int .i64 n]
theorem int_of_trod {H : Type} {enc : TypeId × Value → H} {P : Program} {W : World} {t fuel : Nat} {d : List Value} {x : DataW H × List MemPlace} (ht : P.underlying t = some (.int .i64))
    (h : DataW.trod enc P W 0 (fun _ => true) true fuel t d = some x) : ∃ z : Int, d = ivw z ∧ -9223372036854775808 ≤ z ∧ z ≤ 9223372036854775807 := by
  obtain ⟨z0, e0, _, w0⟩ := DataW.trod_int ht h
  exact ⟨z0, e0, bounds_i64 w0⟩
end Go.Proofs.Ytcdgaeenfhpnkaa
