/- Arguments of the statements on stores, as they are read: states, notes, calls (watchkeeperlaw22.Op). -/
import Derived.Test.YtcdgaeenfhpnkaaPk05
import Derived.Test.YtcdgaeenfhpnkaaPk29
import Derived.SizedLaws
set_option linter.unusedVariables false
set_option linter.unusedSimpArgs false
set_option maxRecDepth 100000
namespace Go.Proofs.Ytcdgaeenfhpnkaa
open Go Go.RowKit Go.ChangeShapes Go.WideShapes Go.ChangeAt

/-- what is read is no more than the form's reach -/
def Sz {H : Type} (P : Program) (t : TypeId) (d : DataW H) : Prop := ∀ n ∈ d.weights P t, n ≤ 140737488351232
theorem xs_at {α β : Type} {xs : List (α × β)} {j : Nat} (h : j < xs.length) : (xs.map (·.1))[j]? = some (xs[j]).1 := by
  rw [List.getElem?_map, List.getElem?_eq_getElem h]; rfl
theorem sz_arg {H : Type} {P : Program} {ts : List TypeId} {ds : List (DataW H)} {j : Nat} {t : TypeId} {d : DataW H} (h : (DataW.weightsEach P ts ds).all (· ≤ reachBytes) = true) (ht : ts[j]? = some t) (hd : ds[j]? = some d) : Sz P t d := fun n hn => by
  have := List.all_eq_true.1 h n (DataW.weights_mem_each ht hd n hn)
  have h2 : n ≤ reachBytes := by simpa using this
  exact h2
theorem weights_all {H : Type} {P : Program} {e : TypeId} : ∀ {l : List (DataW H)} {d : DataW H}, d ∈ l → ∀ n ∈ d.weights P e, n ∈ DataW.weightsAll P e l
  | [], _, h, _, _ => by simp at h
  | y :: l, d, h, n, hn => by
    simp only [DataW.weightsAll, List.mem_append]
    rcases List.mem_cons.1 h with rfl | h
    · exact .inl hn
    · exact .inr (weights_all h n hn)
theorem sz_field {H : Type} {P : Program} {t : TypeId} {fs : Array Field} {parts : List (DataW H)} {j : Nat} {f : Field} {d : DataW H} (hu : P.underlying t = some (.struct fs)) (h : Sz P t (.agg parts)) (hf : fs[j]? = some f) (hd : parts[j]? = some d) : Sz P f.type d := fun n hn => by
  refine h n ?_
  simp only [DataW.weights, hu]
  exact DataW.weights_mem_each (j := j) (by simp [hf]) hd n hn
theorem rows_sized {H α : Type} {enc : TypeId × Value → H} {P : Program} {W : World} {t e k fuel : Nat} {A : Option Addr} {len cap : Nat} {x : DataW H × List MemPlace} (f : α → List Value) (ok : α → Prop)
    (ht : P.underlying t = some (.slice e)) (hc : P.cellsOf e = k) (hk : 0 < k) (hby : 1 ≤ P.bytesOf e) (hf : ∀ r, (f r).length = k)
    (each : ∀ fuel cs x, DataW.trod enc P W 0 (fun _ => true) true fuel e cs = some x → Sz P e x.1 → ∃ r, cs = f r ∧ ok r)
    (h : DataW.trod enc P W 0 (fun _ => true) true fuel t (Value.cells (.slice A len cap)).toList = some x) (hz : Sz P t x.1) :
    ∃ l : List α, RdS f W W.heap.size k A len l ∧ (∀ r ∈ l, ok r) ∧ len ≤ cap ∧ cap ≤ maxLen ∧ len ≤ 140737488351232 := by
  rcases DataW.trod_slice ht h with ⟨h, _⟩ | ⟨a, len', cap', elems, rest, n, _, h, hx, _, hlc, hcm, hel, hat, _⟩
  · simp [Value.cells] at h
    obtain ⟨rfl, rfl, rfl⟩ := h
    exact ⟨[], ⟨rfl, fun h => absurd h (by omega)⟩, by simp, by omega, by simp [maxLen], by omega⟩
  · simp [Value.cells] at h
    obtain ⟨rfl, rfl, rfl⟩ := h
    subst hx
    have hlen : len ≤ 140737488351232 := by
      have h1 := hz ((elems.length + rest.length) * P.bytesOf e) (by simp [DataW.weights, ht])
      have h2 : len * 1 ≤ (elems.length + rest.length) * P.bytesOf e := Nat.mul_le_mul (by omega) hby
      omega
    have hev : ∀ i, i < len → ∃ r : α, (∀ (j : Nat) (u : Value), (f r)[j]? = some u → W.cell? ((a.add (i * k)).add j) = some u) ∧ ok r := by
      intro i hi
      have h1 := hat i hi
      rw [List.getElem?_eq_getElem (by omega), hc, Option.bind_eq_some_iff] at h1
      obtain ⟨cs, hcs, hf1⟩ := h1
      obtain ⟨r, rfl, hr⟩ := each _ _ _ hf1 (fun m hm => hz m (by
        simp only [DataW.weights, ht, List.mem_cons, List.mem_append]
        exact .inr (.inl (weights_all (List.mem_map.2 ⟨_, List.getElem_mem (by omega), rfl⟩) m hm))))
      refine ⟨r, fun j u hj => ?_, hr⟩
      have hs := (World.cells?_some hcs).2.2 j (by have := (List.getElem?_eq_some_iff.1 hj).1; rw [hf] at this; exact this)
      rw [hs]; exact hj
    obtain ⟨l, hl, hP⟩ := choose_list len _ hev
    refine ⟨l, ⟨hl, fun hn => ?_⟩, fun r hr => ?_, hlc, hcm, hlen⟩
    · obtain ⟨r0, h0⟩ : ∃ r0, l[0]? = some r0 := ⟨_, List.getElem?_eq_getElem (by omega)⟩
      obtain ⟨u0, hu0⟩ : ∃ u0, (f r0)[0]? = some u0 := ⟨_, List.getElem?_eq_getElem (by rw [hf]; exact hk)⟩
      have hc0 := (hP 0 r0 h0).1 0 _ hu0
      have hsp : a.spot = none := by
        have := World.cell?_spot hc0
        simpa [Addr.add] using this
      obtain ⟨b, off, spot⟩ := a
      subst hsp
      refine ⟨b, off, rfl, ?_, fun j r hj i u hi => ?_⟩
      · have := World.block_lt_of_cell? W _ hc0
        rwa [addr_add, addr_add] at this
      · have hh := (hP j r hj).1 i u hi
        rwa [addr_add, addr_add] at hh
    · obtain ⟨i, hi⟩ := List.mem_iff_getElem?.1 hr
      exact (hP i r hi).2
theorem cells_int : Try.prog.cellsOf 3 = 1 := by kernel_rfl
theorem cells_i64 : Try.prog.cellsOf 2 = 1 := by kernel_rfl
theorem cells_bool : Try.prog.cellsOf 4 = 1 := by kernel_rfl
theorem cells_lts : Try.prog.cellsOf 22 = 1 := by kernel_rfl
theorem cells_nts : Try.prog.cellsOf 26 = 1 := by kernel_rfl
theorem cells_i64s : Try.prog.cellsOf 23 = 1 := by kernel_rfl
theorem cells_lt : Try.prog.cellsOf 61 = 3 := by kernel_rfl
theorem cells_nt : Try.prog.cellsOf 54 = 3 := by kernel_rfl
theorem cells_st : Try.prog.cellsOf 25 = 3 := by kernel_rfl
theorem cells_op : Try.prog.cellsOf 49 = 7 := by kernel_rfl
theorem by_lt : 1 ≤ Try.prog.bytesOf 61 := of_decide_eq_true (by kernel_rfl)
theorem by_nt : 1 ≤ Try.prog.bytesOf 54 := of_decide_eq_true (by kernel_rfl)
theorem by_i64 : 1 ≤ Try.prog.bytesOf 2 := of_decide_eq_true (by kernel_rfl)
theorem by_nts : 1 ≤ Try.prog.bytesOf 26 := of_decide_eq_true (by kernel_rfl)
theorem by_op : 1 ≤ Try.prog.bytesOf 49 := of_decide_eq_true (by kernel_rfl)
theorem fields_lt : ∃ fs : Array Field, Try.prog.underlying 61 = some (.struct fs) ∧ ∃ f0 f1 f2 : Field, fs = #[f0, f1, f2] ∧ (f0.type = 4 ∧ f0.offset = 0) ∧ (f1.type = 2 ∧ f1.offset = 1) ∧ (f2.type = 4 ∧ f2.offset = 2) :=
  ⟨_, Try.underlying61, _, _, _, rfl, ⟨rfl, rfl⟩, ⟨rfl, rfl⟩, ⟨rfl, rfl⟩⟩
theorem fields_nt : ∃ fs : Array Field, Try.prog.underlying 54 = some (.struct fs) ∧ ∃ f0 f1 f2 : Field, fs = #[f0, f1, f2] ∧ (f0.type = 3 ∧ f0.offset = 0) ∧ (f1.type = 3 ∧ f1.offset = 1) ∧ (f2.type = 2 ∧ f2.offset = 2) :=
  ⟨_, Try.underlying54, _, _, _, rfl, ⟨rfl, rfl⟩, ⟨rfl, rfl⟩, ⟨rfl, rfl⟩⟩
theorem fields_st : ∃ fs : Array Field, Try.prog.underlying 25 = some (.struct fs) ∧ ∃ f0 f1 f2 : Field, fs = #[f0, f1, f2] ∧ (f0.type = 22 ∧ f0.offset = 0) ∧ (f1.type = 22 ∧ f1.offset = 1) ∧ (f2.type = 23 ∧ f2.offset = 2) :=
  ⟨_, Try.underlying25, _, _, _, rfl, ⟨rfl, rfl⟩, ⟨rfl, rfl⟩, ⟨rfl, rfl⟩⟩
theorem fields_op : ∃ fs : Array Field, Try.prog.underlying 49 = some (.struct fs) ∧ ∃ f0 f1 f2 f3 f4 : Field, fs = #[f0, f1, f2, f3, f4] ∧ (f0.type = 3 ∧ f0.offset = 0) ∧ (f1.type = 3 ∧ f1.offset = 1) ∧
    (f2.type = 3 ∧ f2.offset = 2) ∧ (f3.type = 25 ∧ f3.offset = 3) ∧ (f4.type = 26 ∧ f4.offset = 6) :=
  ⟨_, Try.underlying49, _, _, _, _, _, rfl, ⟨rfl, rfl⟩, ⟨rfl, rfl⟩, ⟨rfl, rfl⟩, ⟨rfl, rfl⟩, ⟨rfl, rfl⟩⟩
section
variable {H : Type} {enc : TypeId × Value → H} {W : World}
theorem lt_of_trod {fuel : Nat} {cs : List Value} {x : DataW H × List MemPlace}
    (hf : DataW.trod enc Try.prog W 0 (fun _ => true) true fuel 61 cs = some x) : ∃ r : Lt, cs = r.cells ∧ True := by
  obtain ⟨fs, hu, f0, f1, f2, rfl, ⟨t0, o0⟩, ⟨t1, o1⟩, ⟨t2, o2⟩⟩ := fields_lt
  obtain ⟨xs, n, rfl, rfl, hcl, hxl, hfl⟩ := DataW.trod_struct hu hf
  rw [cells_lt] at hcl
  simp at hxl
  have g0 := hfl 0 f0 rfl
  have g1 := hfl 1 f1 rfl
  have g2 := hfl 2 f2 rfl
  rw [t0, o0, cells_bool, List.getElem?_eq_getElem (by omega)] at g0
  rw [t1, o1, cells_i64, List.getElem?_eq_getElem (by omega)] at g1
  rw [t2, o2, cells_bool, List.getElem?_eq_getElem (by omega)] at g2
  obtain ⟨a, b, c, rfl⟩ : ∃ a b c : Value, cs = [a, b, c] := by
    match cs, hcl with
    | [a, b, c], _ => exact ⟨a, b, c, rfl⟩
  simp at g0 g1 g2
  obtain ⟨s, e0, _⟩ := DataW.trod_bool Try.underlying4 g0
  obtain ⟨z, e1, _⟩ := DataW.trod_int Try.underlying2 g1
  obtain ⟨f, e2, _⟩ := DataW.trod_bool Try.underlying4 g2
  simp at e0 e1 e2
  subst e0 e1 e2
  exact ⟨⟨s, z, f⟩, rfl, trivial⟩
theorem nt_of_trod {fuel : Nat} {cs : List Value} {x : DataW H × List MemPlace}
    (hf : DataW.trod enc Try.prog W 0 (fun _ => true) true fuel 54 cs = some x) : ∃ r : Nt, cs = r.cells ∧ True := by
  obtain ⟨fs, hu, f0, f1, f2, rfl, ⟨t0, o0⟩, ⟨t1, o1⟩, ⟨t2, o2⟩⟩ := fields_nt
  obtain ⟨xs, n, rfl, rfl, hcl, hxl, hfl⟩ := DataW.trod_struct hu hf
  rw [cells_nt] at hcl
  simp at hxl
  have g0 := hfl 0 f0 rfl
  have g1 := hfl 1 f1 rfl
  have g2 := hfl 2 f2 rfl
  rw [t0, o0, cells_int, List.getElem?_eq_getElem (by omega)] at g0
  rw [t1, o1, cells_int, List.getElem?_eq_getElem (by omega)] at g1
  rw [t2, o2, cells_i64, List.getElem?_eq_getElem (by omega)] at g2
  obtain ⟨a, b, c, rfl⟩ : ∃ a b c : Value, cs = [a, b, c] := by
    match cs, hcl with
    | [a, b, c], _ => exact ⟨a, b, c, rfl⟩
  simp at g0 g1 g2
  obtain ⟨s, e0, _⟩ := DataW.trod_int Try.underlying3 g0
  obtain ⟨z, e1, _⟩ := DataW.trod_int Try.underlying3 g1
  obtain ⟨f, e2, _⟩ := DataW.trod_int Try.underlying2 g2
  simp at e0 e1 e2
  subst e0 e1 e2
  exact ⟨⟨s, z, f⟩, rfl, trivial⟩
theorem slice_shape {t e fuel : Nat} {cs : List Value} {x : DataW H × List MemPlace} (hu : Try.prog.underlying t = some (.slice e))
    (hf : DataW.trod enc Try.prog W 0 (fun _ => true) true fuel t cs = some x) : ∃ A n c, cs = (Value.cells (.slice A n c)).toList := by
  rcases DataW.trod_slice hu hf with ⟨h, _⟩ | ⟨a, len, cap, _, _, _, _, h, _⟩
  · exact ⟨none, 0, 0, h⟩
  · exact ⟨some a, len, cap, h⟩
/-- a row of notes: its cells, read -/
theorem nts_of_trod {A : Option Addr} {len cap fuel : Nat} {x : DataW H × List MemPlace}
    (h : DataW.trod enc Try.prog W 0 (fun _ => true) true fuel 26 (Value.cells (.slice A len cap)).toList = some x) (hz : Sz Try.prog 26 x.1) : ∃ l : List Nt, RdS Nt.cells W W.heap.size 3 A len l ∧ (len ≤ cap ∧ cap ≤ maxLen) ∧ len ≤ 140737488351232 := by
  obtain ⟨l, h1, _, h2, h3, h4⟩ := rows_sized Nt.cells (fun _ => True) Try.underlying26 cells_nt (by omega) by_nt (fun _ => rfl) (fun fuel cs x hx _ => nt_of_trod hx) h hz
  exact ⟨l, h1, ⟨h2, h3⟩, h4⟩
theorem lts_of_trod {A : Option Addr} {len cap fuel : Nat} {x : DataW H × List MemPlace}
    (h : DataW.trod enc Try.prog W 0 (fun _ => true) true fuel 22 (Value.cells (.slice A len cap)).toList = some x) (hz : Sz Try.prog 22 x.1) : ∃ l : List Lt, RdS Lt.cells W W.heap.size 3 A len l ∧ (len ≤ cap ∧ cap ≤ maxLen) ∧ len ≤ 140737488351232 := by
  obtain ⟨l, h1, _, h2, h3, h4⟩ := rows_sized Lt.cells (fun _ => True) Try.underlying22 cells_lt (by omega) by_lt (fun _ => rfl) (fun fuel cs x hx _ => lt_of_trod hx) h hz
  exact ⟨l, h1, ⟨h2, h3⟩, h4⟩
theorem i64s_of_trod {A : Option Addr} {len cap fuel : Nat} {x : DataW H × List MemPlace}
    (h : DataW.trod enc Try.prog W 0 (fun _ => true) true fuel 23 (Value.cells (.slice A len cap)).toList = some x) (hz : Sz Try.prog 23 x.1) : ∃ l : List Int, RdS ivw W W.heap.size 1 A len l ∧ (len ≤ cap ∧ cap ≤ maxLen) ∧ len ≤ 140737488351232 := by
  obtain ⟨l, h1, _, h2, h3, h4⟩ := rows_sized ivw (fun _ => True) Try.underlying23 cells_i64 (by omega) by_i64 (fun _ => rfl) (fun fuel cs x hx _ => by
    obtain ⟨z, e, _⟩ := DataW.trod_int Try.underlying2 hx
    exact ⟨z, e, trivial⟩) h hz
  exact ⟨l, h1, ⟨h2, h3⟩, h4⟩
def StV.cells (v : StV) : List Value := [.slice v.A1 v.n1 v.c1, .slice v.A2 v.n2 v.c2, .slice v.A3 v.n3 v.c3]
/-- a state's rows are within reach -/
def StV.fit (v : StV) : Prop := v.n1 ≤ 140737488351232 ∧ v.n2 ≤ 140737488351232 ∧ v.n3 ≤ 140737488351232
theorem st_of_trod {fuel : Nat} {cs : List Value} {x : DataW H × List MemPlace}
    (hf : DataW.trod enc Try.prog W 0 (fun _ => true) true fuel 25 cs = some x) (hz : Sz Try.prog 25 x.1) : ∃ (v : StV) (s : St), cs = v.cells ∧ StR W W.heap.size v s ∧ v.fit := by
  obtain ⟨fs, hu, f0, f1, f2, rfl, ⟨t0, o0⟩, ⟨t1, o1⟩, ⟨t2, o2⟩⟩ := fields_st
  obtain ⟨xs, n, rfl, rfl, hcl, hxl, hfl⟩ := DataW.trod_struct hu hf
  rw [cells_st] at hcl
  simp at hxl
  have g0 := hfl 0 f0 rfl
  have g1 := hfl 1 f1 rfl
  have g2 := hfl 2 f2 rfl
  rw [t0, o0, cells_lts, List.getElem?_eq_getElem (by omega)] at g0
  rw [t1, o1, cells_lts, List.getElem?_eq_getElem (by omega)] at g1
  rw [t2, o2, cells_i64s, List.getElem?_eq_getElem (by omega)] at g2
  obtain ⟨a, b, c, rfl⟩ : ∃ a b c : Value, cs = [a, b, c] := by
    match cs, hcl with
    | [a, b, c], _ => exact ⟨a, b, c, rfl⟩
  simp at g0 g1 g2
  obtain ⟨A1, n1, c1, e1⟩ := slice_shape Try.underlying22 g0
  obtain ⟨A2, n2, c2, e2⟩ := slice_shape Try.underlying22 g1
  obtain ⟨A3, n3, c3, e3⟩ := slice_shape Try.underlying23 g2
  simp [Value.cells] at e1 e2 e3
  subst e1 e2 e3
  have z0 := sz_field hu hz (j := 0) (f := f0) rfl (d := (xs[0]'(by omega)).1) (xs_at (by omega))
  have z1 := sz_field hu hz (j := 1) (f := f1) rfl (d := (xs[1]'(by omega)).1) (xs_at (by omega))
  have z2 := sz_field hu hz (j := 2) (f := f2) rfl (d := (xs[2]'(by omega)).1) (xs_at (by omega))
  rw [t0] at z0
  rw [t1] at z1
  rw [t2] at z2
  obtain ⟨l1, r1, k1, q1⟩ := lts_of_trod g0 z0
  obtain ⟨l2, r2, k2, q2⟩ := lts_of_trod g1 z1
  obtain ⟨l3, r3, k3, q3⟩ := i64s_of_trod g2 z2
  exact ⟨⟨A1, n1, c1, A2, n2, c2, A3, n3, c3⟩, ⟨l1, l2, l3⟩, rfl, ⟨r1, r2, r3, k1, k2, k3⟩, q1, q2, q3⟩
theorem nts_rows {A : Option Addr} {len cap : Nat} {d : DataW H} {ps : List MemPlace}
    (h : DataW.Trod enc Try.prog W 0 (fun _ => true) true 26 (.slice A len cap) d ps) (hz : Sz Try.prog 26 d) : ∃ l : List Nt, RdS Nt.cells W W.heap.size 3 A len l ∧ (len ≤ cap ∧ cap ≤ maxLen) ∧ len ≤ 140737488351232 := by
  obtain ⟨fuel, hf⟩ := h
  exact nts_of_trod hf hz
/-- a state that is handed in -/
theorem st_agg {v : Value} {d : DataW H} {ps : List MemPlace} {r : Reach} {base : Nat} (hv : Value.okWide Try.prog W r base 25 v)
    (h : DataW.Trod enc Try.prog W 0 (fun _ => true) true 25 v d ps) (hz : Sz Try.prog 25 d) : ∃ z : StV × St, v = .agg #[.slice z.1.A1 z.1.n1 z.1.c1, .slice z.1.A2 z.1.n2 z.1.c2, .slice z.1.A3 z.1.n3 z.1.c3] ∧ StR W W.heap.size z.1 z.2 ∧ z.1.fit := by
  obtain ⟨fuel, hf⟩ := h
  obtain ⟨fs, hu, _⟩ := fields_st
  obtain ⟨cs, rfl, hcs⟩ := okWide_struct hu hv
  obtain ⟨V, s, e, hs⟩ := st_of_trod hf hz
  have e' : cs.toList = V.cells := e
  refine ⟨(V, s), ?_, hs⟩
  congr 1
  exact Array.toList_inj.1 e'
structure Nsl where
  A : Option Addr
  len : Nat
  cap : Nat
  l : List Nt
def Nsl.cells (r : Nsl) : List Value := [.slice r.A r.len r.cap]
def Nsl.ok (w : World) (B : Nat) (r : Nsl) : Prop := RdS Nt.cells w B 3 r.A r.len r.l ∧ (r.len ≤ r.cap ∧ r.cap ≤ maxLen) ∧ r.len ≤ 140737488351232
def Nss (w : World) (B : Nat) (A : Option Addr) (n : Nat) (l : List Nsl) : Prop := RdS Nsl.cells w B 1 A n l ∧ ∀ r ∈ l, r.ok w B
theorem Nss.below {w w' : World} {B n : Nat} {A : Option Addr} {l : List Nsl} (h : Nss w B A n l) (hb : Below B w w') : Nss w' B A n l :=
  ⟨h.1.below hb, fun r hr => by obtain ⟨h1, h2⟩ := h.2 r hr; exact ⟨h1.below hb, h2⟩⟩
theorem nss_rows {A : Option Addr} {len cap : Nat} {d : DataW H} {ps : List MemPlace}
    (h : DataW.Trod enc Try.prog W 0 (fun _ => true) true 35 (.slice A len cap) d ps) (hz : Sz Try.prog 35 d) : ∃ l : List Nsl, Nss W W.heap.size A len l ∧ (len ≤ cap ∧ cap ≤ maxLen) ∧ len ≤ 140737488351232 := by
  obtain ⟨fuel, hf⟩ := h
  obtain ⟨l, h1, h2, h3, h4, h5⟩ := rows_sized Nsl.cells (fun r => r.ok W W.heap.size) Try.underlying35 cells_nts (by omega) by_nts (fun _ => rfl) (fun fuel cs x hx hz => by
    obtain ⟨A, n, c, rfl⟩ := slice_shape Try.underlying26 hx
    obtain ⟨l, r1, r2, r3⟩ := nts_of_trod hx hz
    exact ⟨⟨A, n, c, l⟩, rfl, r1, r2, r3⟩) hf hz
  exact ⟨l, ⟨h1, h2⟩, ⟨h3, h4⟩, h5⟩
structure Opr where
  what : Int
  at_ : Int
  n : Int
  v : StV
  x : St
  A : Option Addr
  len : Nat
  cap : Nat
  l : List Nt
def Opr.cells (r : Opr) : List Value := [.int .i64 r.what, .int .i64 r.at_, .int .i64 r.n, .slice r.v.A1 r.v.n1 r.v.c1, .slice r.v.A2 r.v.n2 r.v.c2, .slice r.v.A3 r.v.n3 r.v.c3, .slice r.A r.len r.cap]
structure Opr.ok (w : World) (B : Nat) (r : Opr) : Prop where
  x : StR w B r.v r.x
  f : r.v.fit
  l : RdS Nt.cells w B 3 r.A r.len r.l
  k : r.len ≤ r.cap ∧ r.cap ≤ maxLen
  q : r.len ≤ 140737488351232
  w1 : -9223372036854775808 ≤ r.what ∧ r.what ≤ 9223372036854775807
  w2 : -9223372036854775808 ≤ r.at_ ∧ r.at_ ≤ 9223372036854775807
  w3 : -9223372036854775808 ≤ r.n ∧ r.n ≤ 9223372036854775807
theorem Opr.ok.below {w w' : World} {B : Nat} {r : Opr} (h : r.ok w B) (hb : Below B w w') : r.ok w' B :=
  ⟨h.x.below hb, h.f, h.l.below hb, h.k, h.q, h.w1, h.w2, h.w3⟩
def Ops (w : World) (B : Nat) (A : Option Addr) (n : Nat) (l : List Opr) : Prop := RdS Opr.cells w B 7 A n l ∧ ∀ r ∈ l, r.ok w B
theorem Ops.below {w w' : World} {B n : Nat} {A : Option Addr} {l : List Opr} (h : Ops w B A n l) (hb : Below B w w') : Ops w' B A n l :=
  ⟨h.1.below hb, fun r hr => (h.2 r hr).below hb⟩
theorem opr_of_trod {fuel : Nat} {cs : List Value} {x : DataW H × List MemPlace}
    (hf : DataW.trod enc Try.prog W 0 (fun _ => true) true fuel 49 cs = some x) (hz : Sz Try.prog 49 x.1) : ∃ r : Opr, cs = r.cells ∧ r.ok W W.heap.size := by
  obtain ⟨fs, hu, f0, f1, f2, f3, f4, rfl, ⟨t0, o0⟩, ⟨t1, o1⟩, ⟨t2, o2⟩, ⟨t3, o3⟩, ⟨t4, o4⟩⟩ := fields_op
  obtain ⟨xs, n, rfl, rfl, hcl, hxl, hfl⟩ := DataW.trod_struct hu hf
  rw [cells_op] at hcl
  simp at hxl
  have g0 := hfl 0 f0 rfl
  have g1 := hfl 1 f1 rfl
  have g2 := hfl 2 f2 rfl
  have g3 := hfl 3 f3 rfl
  have g4 := hfl 4 f4 rfl
  rw [t0, o0, cells_int, List.getElem?_eq_getElem (by omega)] at g0
  rw [t1, o1, cells_int, List.getElem?_eq_getElem (by omega)] at g1
  rw [t2, o2, cells_int, List.getElem?_eq_getElem (by omega)] at g2
  rw [t3, o3, cells_st, List.getElem?_eq_getElem (by omega)] at g3
  rw [t4, o4, cells_nts, List.getElem?_eq_getElem (by omega)] at g4
  obtain ⟨a, b, c, d, e, f, g, rfl⟩ : ∃ a b c d e f g : Value, cs = [a, b, c, d, e, f, g] := by
    match cs, hcl with
    | [a, b, c, d, e, f, g], _ => exact ⟨a, b, c, d, e, f, g, rfl⟩
  simp at g0 g1 g2 g3 g4
  obtain ⟨z0, e0, p0, q0⟩ := int_of_trod Try.underlying3 g0
  obtain ⟨z1, e1, p1, q1⟩ := int_of_trod Try.underlying3 g1
  obtain ⟨z2, e2, p2, q2⟩ := int_of_trod Try.underlying3 g2
  have z3 := sz_field hu hz (j := 3) (f := f3) rfl (d := (xs[3]'(by omega)).1) (xs_at (by omega))
  have z4 := sz_field hu hz (j := 4) (f := f4) rfl (d := (xs[4]'(by omega)).1) (xs_at (by omega))
  rw [t3] at z3
  rw [t4] at z4
  obtain ⟨V, s, e3, r3, f3⟩ := st_of_trod g3 z3
  obtain ⟨A, n, c, e4⟩ := slice_shape Try.underlying26 g4
  simp [ivw, Value.cells, StV.cells] at e0 e1 e2 e3 e4
  obtain ⟨rfl, rfl, rfl⟩ := e3
  subst e0 e1 e2 e4
  obtain ⟨l, r4, k4, q4⟩ := nts_of_trod g4 z4
  exact ⟨⟨z0, z1, z2, V, s, A, n, c, l⟩, rfl, r3, f3, r4, k4, q4, ⟨p0, q0⟩, ⟨p1, q1⟩, ⟨p2, q2⟩⟩
theorem ops_rows {A : Option Addr} {len cap : Nat} {d : DataW H} {ps : List MemPlace}
    (h : DataW.Trod enc Try.prog W 0 (fun _ => true) true 46 (.slice A len cap) d ps) (hz : Sz Try.prog 46 d) : ∃ l : List Opr, Ops W W.heap.size A len l ∧ (len ≤ cap ∧ cap ≤ maxLen) ∧ len ≤ 140737488351232 := by
  obtain ⟨fuel, hf⟩ := h
  obtain ⟨l, h1, h2, h3, h4, h5⟩ := rows_sized Opr.cells (fun r => r.ok W W.heap.size) Try.underlying46 cells_op (by omega) by_op (fun _ => rfl) (fun fuel cs x hx hz => opr_of_trod hx hz) hf hz
  exact ⟨l, ⟨h1, h2⟩, ⟨h3, h4⟩, h5⟩
end
end Go.Proofs.Ytcdgaeenfhpnkaa
