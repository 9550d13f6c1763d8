/- Words on memory that all walks of this seat use: slices that read as lists, rows that the call owns, blocks known whole; laws for copy, append and make over them. -/
import Derived.Test.YtcdgaeenfhpnkaaRows
import Derived.WalkKit
import Derived.Deep.LoopGhost
import Derived.Deep.MidRow
import Derived.Deep.WholeRow
import Derived.Deep.Draws
import Derived.Deep.RegionHeld3
import Derived.Deep.AppendLies
import Derived.Maps.AppendAt
import Derived.OwnWalk
import Derived.BigQuiet
import Derived.Deep.QuietTactic
import Derived.Laws.CopyOwn
import Derived.Laws.AppendOwnNone
import Derived.WalkLawsBesides
import Derived.WalkSpells
import Derived.Lib.Hide
import Derived.Lib.SlBytesConst
import Derived.KernelRfl
import Derived.Outline
set_option linter.unusedVariables false
set_option linter.unusedSimpArgs false
namespace Go.Proofs.Ytcdgaeenfhpnkaa
open Go Go.RowKit

/-- a byte as a value -/
def bv (c : Nat) : Value := .int .u8 (c : Int)

theorem bv_one (l : List Nat) : ∀ u ∈ l.map bv, u.oneCell' = true := by
  intro u hu
  obtain ⟨c, _, rfl⟩ := List.mem_map.1 hu
  rfl

/-- a slice of n elements, of so many cells each, reads as the cells xs; it lies below block B -/
def Rd (w : World) (B size : Nat) (A : Option Addr) (n : Nat) (xs : List Value) : Prop :=
  xs.length = n * size ∧ (0 < n → ∃ b o, A = some ⟨b, o, none⟩ ∧ b < B ∧ ∀ j u, xs[j]? = some u → w.cell? ⟨b, o + j, none⟩ = some u)

theorem addr_add (b o j : Nat) : (⟨b, o, none⟩ : Addr).add j = ⟨b, o + j, none⟩ := by unfold Addr.add; split <;> simp_all

section
variable {w w' : World} {B B' n size : Nat} {A : Option Addr} {xs : List Value}
theorem Rd.nil_ (w : World) (B size : Nat) (A : Option Addr) : Rd w B size A 0 [] := ⟨by simp, fun h => absurd h (by omega)⟩
theorem Rd.keep (h : Rd w B size A n xs) (hk : ∀ p : Addr, p.block < B → w'.cell? p = w.cell? p) : Rd w' B size A n xs :=
  ⟨h.1, fun hn => by
    obtain ⟨b, o, e, hb, hc⟩ := h.2 hn
    exact ⟨b, o, e, hb, fun j u hu => (hk ⟨b, o + j, none⟩ hb).trans (hc j u hu)⟩⟩
theorem Rd.below (h : Rd w B size A n xs) (hb : Below B w w') : Rd w' B size A n xs := h.keep fun p hp => hb.cell (p := p) hp
theorem Rd.more (h : Rd w B size A n xs) (hB : B ≤ B') : Rd w B' size A n xs :=
  ⟨h.1, fun hn => by
    obtain ⟨b, o, e, hb, hc⟩ := h.2 hn
    exact ⟨b, o, e, by omega, hc⟩⟩
theorem Rd.alloc (h : Rd w B size A n xs) (hB : B ≤ w.heap.size) (o : Obj) : Rd (w.alloc o) B size A n xs :=
  h.keep fun p hp => World.cell?_alloc_lt w o p (by omega)
theorem Rd.grown (h : Rd w B size A n xs) {row : Option Nat} (hg : w.grownBy w' row) (hB : B ≤ w.heap.size) (hr : ∀ g, row = some g → B ≤ g) : Rd w' B size A n xs :=
  h.keep fun p hp => World.cell?_of_block (hg.block p.block (by omega) (fun e => by have := hr _ e.symm; omega))
theorem Rd.take_ (h : Rd w B size A n xs) {k : Nat} (hk : k ≤ n) : Rd w B size A k (xs.take (k * size)) :=
  ⟨by
    have := h.1
    have h2 : k * size ≤ n * size := Nat.mul_le_mul_right _ hk
    rw [List.length_take]; omega, fun hn => by
    obtain ⟨b, o, e, hb, hc⟩ := h.2 (by omega)
    refine ⟨b, o, e, hb, fun j u hu => hc j u ?_⟩
    rw [List.getElem?_take] at hu
    split at hu
    · exact hu
    · cases hu⟩
theorem Rd.of_own {base : Nat} {e : TypeId} {c : Nat} (h : w.ownsRow base e size (.slice A n c) n xs) : Rd w w.heap.size size A n xs := by
  refine ⟨h.1, fun hn => ?_⟩
  rcases h.2 with ⟨hv, h0⟩ | ⟨g, cap, cur, hv, _, hg, _⟩
  · omega
  · have hA : A = some ⟨g, 0, none⟩ := by injection hv
    subst hA
    exact ⟨g, 0, rfl, (Array.getElem?_eq_some_iff.1 hg).1, fun j u hu => by
      have := h.cells (g := g) rfl j u hu
      rwa [addr_add] at this⟩
end

/-- what is owned starts at the head of its block -/
theorem own_shape {w : World} {base : Nat} {e : TypeId} {size n : Nat} {v : Value} {xs : List Value} (h : w.ownsRow base e size v n xs) :
    ∃ A c, v = .slice A n c := by
  rcases h.2 with ⟨hv, hx⟩ | ⟨g, cap, cur, hv, hb, hg, hl, _⟩
  · subst hx; exact ⟨_, _, hv⟩
  · exact ⟨_, _, hv⟩

section
variable {P : Program} (w : World)
theorem run_app (base : Nat) (t ty e : TypeId) (i : TypeInfo) (z : Value) (size bytes : Nat) (ht : P.underlying t = some (.slice e)) (hi : P.info? e = some i) (hz : i.zero = some z)
    (hsize : i.size = size) (hby : i.bytes = bytes) (hzs : z.cells.size = size) (hsz : 0 < size)
    (v : Value) (n : Nat) (xs : List Value) (hown : w.ownsRow base e size v n xs)
    (B : Nat) (A : Option Addr) (m c : Nat) (news : List Value) (hr : Rd w B size A m news) (h1 : ∀ u ∈ news, u.oneCell' = true)
    (h63 : n + m ≤ maxLen) (hbytes : (n + m) * bytes ≤ 140737488355328) (hbase : base ≤ w.heap.size) :
    ∃ v' w', (Builtin.append_ #[t, t] ty #[v, .slice A m c]).run P w = .ok v' w' ∧ w'.ownsRow base e size v' (n + m) (xs ++ news) ∧ w.grownBy w' v.ownBlock ∧
      (v'.ownBlock = v.ownBlock ∨ v'.ownBlock = some w.heap.size) := by
  cases A with
  | some ad =>
    have hcells : ∀ j u, news[j]? = some u → w.cell? (ad.add j) = some u := by
      intro j u hu
      have hm : 0 < m := by
        rcases Nat.eq_zero_or_pos m with h0 | h0
        · have := hr.1; rw [h0, Nat.zero_mul] at this
          rw [List.eq_nil_of_length_eq_zero this] at hu; simp at hu
        · exact h0
      obtain ⟨b, o, e', _, hc⟩ := hr.2 hm
      injection e' with e'
      subst e'
      rw [addr_add]; exact hc j u hu
    obtain ⟨v', w', hrun, h2, h3, _, h5⟩ := run_append_own_at (P := P) w base t ty e i z size bytes ht hi hz hsize hby hzs hsz v n xs hown ad m c news hr.1 hcells h1 h63 hbytes hbase
    exact ⟨v', w', hrun, h2, h3, h5⟩
  | none =>
    have hm : m = 0 := by
      rcases Nat.eq_zero_or_pos m with h0 | h0
      · exact h0
      · obtain ⟨b, o, h, _⟩ := hr.2 h0; cases h
    subst hm
    have hn : news = [] := List.eq_nil_of_length_eq_zero (by simpa using hr.1)
    subst hn
    refine ⟨v, w, ?_, by simpa using hown, World.grownBy.refl w _, .inl rfl⟩
    rcases hown.2 with ⟨rfl, rfl⟩ | ⟨g, cap, cur, rfl, _, _, hnc, _⟩
    · simp [Builtin.append_, run_underlying ht, sizeOf, typeInfo, hi, Builtin.lenOf, Builtin.firstCells]
    · simp [Builtin.append_, run_underlying ht, sizeOf, typeInfo, hi, Builtin.lenOf, Builtin.firstCells, hnc, storeCells]

theorem wp_app {o : Oper} {a : Act} {K : Act → World → Prop} {Q : Exit → Act → World → Prop} (s x : Operand) (t : TypeId)
    (ho : o.op = .call { callee := .builtin .append, args := #[s, x], argTypes := #[t, t] })
    (base : Nat) (e : TypeId) (i : TypeInfo) (z : Value) (size bytes : Nat) (ht : P.underlying t = some (.slice e)) (hi : P.info? e = some i) (hz : i.zero = some z)
    (hsize : i.size = size) (hby : i.bytes = bytes) (hzs : z.cells.size = size) (hsz : 0 < size)
    (v : Value) (n : Nat) (xs : List Value) (hs : a.eval s = v) (hown : w.ownsRow base e size v n xs)
    (B : Nat) (A : Option Addr) (m c : Nat) (news : List Value) (hx : a.eval x = .slice A m c) (hr : Rd w B size A m news) (h1 : ∀ u ∈ news, u.oneCell' = true)
    (h63 : n + m ≤ maxLen) (hbytes : (n + m) * bytes ≤ 140737488355328) (hbase : base ≤ w.heap.size)
    (h : ∀ v' w', w'.ownsRow base e size v' (n + m) (xs ++ news) → w.grownBy w' v.ownBlock → (v'.ownBlock = v.ownBlock ∨ v'.ownBlock = some w.heap.size) → K (a.put o.dst v') w') : o.wp P a w K Q := by
  obtain ⟨v', w', hrun, h2, h3, h4⟩ := run_app (P := P) w base t o.type e i z size bytes ht hi hz hsize hby hzs hsz v n xs hown B A m c news hr h1 h63 hbytes hbase
  unfold Oper.wp execOp
  simp only [ho, resolve, invoke, builtin, Sem.run_bind, Sem.run_pure, Result.andThen_ok, List.map_toArray, List.map_cons, List.map_nil, hs, hx, hrun]
  exact h v' w' h2 h3 h4

theorem wpList_app {ops : Array Oper} {rest : List Oper} {o : Oper} {a : Act} {Q : Exit → Act → World → Prop} (hgd : o.guard = none) (s x : Operand) (t : TypeId)
    (ho : o.op = .call { callee := .builtin .append, args := #[s, x], argTypes := #[t, t] })
    (base : Nat) (e : TypeId) (i : TypeInfo) (z : Value) (size bytes : Nat) (ht : P.underlying t = some (.slice e)) (hi : P.info? e = some i) (hz : i.zero = some z)
    (hsize : i.size = size) (hby : i.bytes = bytes) (hzs : z.cells.size = size) (hsz : 0 < size)
    (v : Value) (n : Nat) (xs : List Value) (hs : a.eval s = v) (hown : w.ownsRow base e size v n xs)
    (B : Nat) (A : Option Addr) (m c : Nat) (news : List Value) (hx : a.eval x = .slice A m c) (hr : Rd w B size A m news) (h1 : ∀ u ∈ news, u.oneCell' = true)
    (h63 : n + m ≤ maxLen) (hbytes : (n + m) * bytes ≤ 140737488355328) (hbase : base ≤ w.heap.size)
    (h : ∀ v' w', w'.ownsRow base e size v' (n + m) (xs ++ news) → w.grownBy w' v.ownBlock → (v'.ownBlock = v.ownBlock ∨ v'.ownBlock = some w.heap.size) → wpList P ops Q rest (a.put o.dst v') w') : wpList P ops Q (o :: rest) a w :=
  wpList_plain hgd fun _ hK => wp_app w s x t ho base e i z size bytes ht hi hz hsize hby hzs hsz v n xs hs hown B A m c news hx hr h1 h63 hbytes hbase fun v' w' h2 h3 h4 => hK _ _ (h v' w' h2 h3 h4)

/-- make: a new row of zeros, with spare room -/
theorem own_make (base e : Nat) (z : Value) (n c : Nat) (hz : z.cells.size = 1) (hz1 : z.cells = #[z]) (hc : c ≤ maxLen) (hnc : n ≤ c) (hb : base ≤ w.heap.size) :
    (w.alloc (.cells (madeCells z.cells (c * 1)) e)).ownsRow base e 1 (.slice (some ⟨w.heap.size, 0, none⟩) n c) n (List.replicate n z) := by
  refine ⟨by simp, .inr ⟨w.heap.size, c, _, rfl, hb, heap_alloc_new w _, hnc, hc, by simp [size_madeCells], ?_⟩⟩
  rw [hz1, toList_madeCells_one]
  rw [List.take_replicate]
  congr 1
  omega
theorem wp_mk {o : Oper} {a : Act} {K : Act → World → Prop} {Q : Exit → Act → World → Prop}
    (l c : Operand) (t : TypeId) (hop : o.op = Op.makeSlice t l c)
    (base : Nat) (e : TypeId) (i : TypeInfo) (z : Value) (h1 : P.underlying t = some (.slice e)) (h2 : P.info? e = some i) (h3 : i.zero = some z) (h4 : i.size = 1) (hz1 : z.cells = #[z])
    (kl kc : IntKind) (L C : Int) (n m : Nat) (hl : a.eval l = .int kl L) (hc : a.eval c = .int kc C) (hL : L = (n : Int)) (hC : C = (m : Int)) (hnm : n ≤ m)
    (b2 : i.bytes * m ≤ 281474976710656) (b3 : m ≤ maxLen) (b4 : base ≤ w.heap.size)
    (hK : ∀ w', w'.ownsRow base e 1 (.slice (some ⟨w.heap.size, 0, none⟩) n m) n (List.replicate n z) → w.grownBy w' none → w'.heap.size = w.heap.size + 1 → K (a.put o.dst (.slice (some ⟨w.heap.size, 0, none⟩) n m)) w') :
    o.wp P a w K Q := by
  subst hL
  subst hC
  have hb : (i.bytes : Int) * (m : Int) ≤ 281474976710656 := by
    have h : ((i.bytes * m : Nat) : Int) ≤ 281474976710656 := by omega
    rwa [Int.natCast_mul] at h
  have h63 : m ≤ 9223372036854775807 := by simp only [maxLen] at b3; omega
  have hrun := run_make (P := P) w t e i z h1 h2 h3 kl kc (n : Int) (m : Int) (by omega) (by omega) hb (by omega)
  simp only [Int.toNat_natCast, h4] at hrun
  unfold Oper.wp
  simp [execOp, hop, hl, hc, hrun, Result.andThen]
  have hown := own_make w base e z n m (by rw [hz1]; rfl) hz1 b3 hnm b4
  rw [Nat.mul_one] at hown
  exact hK _ hown (World.grownBy_alloc w _ none) (by simp)
theorem wpList_mk {ops : Array Oper} {rest : List Oper} {o : Oper} {a : Act} {Q : Exit → Act → World → Prop}
    (hg : o.guard = none) (l c : Operand) (t : TypeId) (hop : o.op = Op.makeSlice t l c)
    (base : Nat) (e : TypeId) (i : TypeInfo) (z : Value) (h1 : P.underlying t = some (.slice e)) (h2 : P.info? e = some i) (h3 : i.zero = some z) (h4 : i.size = 1) (hz1 : z.cells = #[z])
    (kl kc : IntKind) (L C : Int) (n m : Nat) (hl : a.eval l = .int kl L) (hc : a.eval c = .int kc C) (hL : L = (n : Int)) (hC : C = (m : Int)) (hnm : n ≤ m)
    (b2 : i.bytes * m ≤ 281474976710656) (b3 : m ≤ maxLen) (b4 : base ≤ w.heap.size)
    (hK : ∀ w', w'.ownsRow base e 1 (.slice (some ⟨w.heap.size, 0, none⟩) n m) n (List.replicate n z) → w.grownBy w' none → wpList P ops Q rest (a.put o.dst (.slice (some ⟨w.heap.size, 0, none⟩) n m)) w') :
    wpList P ops Q (o :: rest) a w :=
  wpList_plain hg fun K hK' => wp_mk w l c t hop base e i z h1 h2 h3 h4 hz1 kl kc L C n m hl hc hL hC hnm b2 b3 b4 fun w' q1 q2 _ => hK' _ _ (hK w' q1 q2)

/-- copy into a row of the call's own, from its head on -/
theorem wpList_cpy {ops : Array Oper} {rest : List Oper} {o : Oper} {a : Act} {Q : Exit → Act → World → Prop} (hgd : o.guard = none) (d s : Operand) (dT sT : TypeId)
    (ho : o.op = .call { callee := .builtin .copy, args := #[d, s], argTypes := #[dT, sT] }) (e : TypeId) (hu : P.underlying dT = some (.slice e)) (hsz : (P.info? e).map (·.size) = some 1)
    (base g n cap : Nat) (xs : List Value) (hd : a.eval d = .slice (some ⟨g, 0, none⟩) n cap) (hown : w.ownsRow base e 1 (.slice (some ⟨g, 0, none⟩) n cap) n xs)
    (B : Nat) (A : Option Addr) (m c : Nat) (ys : List Value) (hs : a.eval s = .slice A m c) (hr : Rd w B 1 A m ys) (h1 : ∀ u ∈ ys, u.oneCell' = true)
    (h : ∀ w', w'.ownsRow base e 1 (.slice (some ⟨g, 0, none⟩) n cap) n (ys.take n ++ xs.drop m) → w.grownBy w' (some g) → wpList P ops Q rest (a.put o.dst (goInt (Nat.min m n))) w') :
    wpList P ops Q (o :: rest) a w := by
  have hxl := hown.1
  have hyl := hr.1
  by_cases h0 : Nat.min m n = 0
  · refine wpList_copy_nothing hgd d s dT sT ho e hu hsz _ _ _ _ _ _ hd hs h0 ?_
    rw [h0] at h
    refine h w ?_ (World.grownBy.refl w _)
    have : ys.take n ++ xs.drop m = xs := by
      have h0' : min m n = 0 := h0
      rcases Nat.eq_zero_or_pos m with hm | hm
      · subst hm
        rw [List.eq_nil_of_length_eq_zero (l := ys) (by omega)]; simp
      · have hn : n = 0 := by omega
        subst hn
        rw [List.eq_nil_of_length_eq_zero (l := xs) (by omega)]; simp
    rwa [this]
  · have h0' : ¬ min m n = 0 := h0
    obtain ⟨b, off, rfl, hb, hc⟩ := hr.2 (by omega)
    rcases hown.2 with ⟨hv, hn0⟩ | ⟨g', cap', cur, hv, hbg, hg, hncap, hmax, hcs, htake⟩
    · cases hv
    · injection hv with hv1 _ hv2
      injection hv1 with hv1
      injection hv1 with hv1
      subst hv1
      subst hv2
      have hmin : Nat.min m n = min m n := rfl
      have hlen : (ys.take n).length = Nat.min m n := by rw [List.length_take, hmin]; omega
      refine wpList_copy_own hgd d s dT sT ho e hu hsz g 0 n cap ⟨b, off, none⟩ m c hd hs cur e hg (ys.take n) hlen ?_ (by rw [hlen, hmin]; omega) (fun u hu => h1 u (List.mem_of_mem_take hu)) ?_
      · intro j v hj
        rw [addr_add]
        refine hc j v ?_
        rw [List.getElem?_take] at hj
        split at hj
        · exact hj
        · cases hj
      · rw [hlen]
        refine h _ ⟨?_, .inr ⟨g, cap, _, rfl, hbg, setRow_heap w g cur _ e (0, 0) hg, hncap, hmax, ?_, ?_⟩⟩ ⟨rfl, rfl, rfl, by simp, fun k hk hne => setRow_other w g k _ (fun e => hne (by rw [e]))⟩
        · simp only [List.length_append, List.length_take, List.length_drop]; omega
        · simp only [List.size_toArray, List.length_append, List.length_take, List.length_drop, Array.length_toList, hcs]
          rw [hmin]; omega
        · simp only [List.take_zero, List.nil_append]
          rw [List.take_append]
          congr 1
          · rw [List.take_of_length_le]
            rw [List.length_take]; omega
          · rw [← htake]
            rw [List.length_take]
            apply List.ext_getElem?
            intro j
            simp only [List.getElem?_take, List.getElem?_drop]
            have h1' : Nat.min m n = min m n := rfl
            have h2' : min n ys.length = min m n := by omega
            rw [h1', h2']
            simp only [Nat.zero_add]
            rcases Nat.lt_or_ge m n with hmn | hmn
            · have h3' : min m n = m := by omega
              rw [h3']
              by_cases hj : j < n * 1 - m
              · rw [if_pos hj, if_pos (by omega)]
              · rw [if_neg hj, if_neg (by omega)]
            · rw [if_neg (by omega), if_neg (by omega)]
end

theorem own_below {w w' : World} {base : Nat} {e : TypeId} {size n : Nat} {v : Value} {xs : List Value} (h : w.ownsRow base e size v n xs) (hb : Below w.heap.size w w') : w'.ownsRow base e size v n xs :=
  h.kept (row := none) ⟨hb.os, hb.tape, hb.output, hb.size, fun k hk _ => hb.block k hk⟩ (by cases hv : v.ownBlock <;> simp)
/-- what is owned from a block on is owned from every block below on -/
theorem own_base {w : World} {base base' : Nat} {e : TypeId} {size n : Nat} {v : Value} {xs : List Value} (h : w.ownsRow base e size v n xs) (hb : base' ≤ base) : w.ownsRow base' e size v n xs := by
  refine ⟨h.1, ?_⟩
  rcases h.2 with h2 | ⟨g, cap, cur, hv, hg, r⟩
  · exact .inl h2
  · exact .inr ⟨g, cap, cur, hv, by omega, r⟩
theorem rd_new (w : World) (cs : List Value) (e : TypeId) (n c : Nat) (hn : cs.length = n) (fr : Nat × Nat := (0, 0)) : Rd (w.alloc (.cells cs.toArray e fr)) (w.heap.size + 1) 1 (some ⟨w.heap.size, 0, none⟩) n cs :=
  ⟨by omega, fun _ => ⟨w.heap.size, 0, rfl, by omega, fun j u hu => by rw [cell_of_row _ _ _ _ _ _ (heap_alloc_new w _)]; simpa using hu⟩⟩

theorem own_some {w : World} {base : Nat} {e : TypeId} {n c : Nat} {A : Option Addr} {xs : List Value} (h : w.ownsRow base e 1 (.slice A n c) n xs) (hn : 0 < n) :
    n ≤ c ∧ ∃ g, A = some ⟨g, 0, none⟩ ∧ base ≤ g ∧ g < w.heap.size ∧ (∀ j u, xs[j]? = some u → w.cell? ⟨g, j, none⟩ = some u) ∧ (∀ j, w.frozen? ⟨g, j, none⟩ = false) := by
  rcases h.2 with ⟨_, h0⟩ | ⟨g, cap, cur, hv, hb, hg, hnc, _⟩
  · omega
  · injection hv with h1 h2 h3
    subst h1
    subst h3
    refine ⟨hnc, g, rfl, hb, (Array.getElem?_eq_some_iff.1 hg).1, fun j u hu => ?_, fun j => frozen_of_row w g j cur e hg⟩
    have := h.cells (g := g) rfl j u hu
    rw [addr_add, Nat.zero_add] at this
    exact this
theorem own_cap {w : World} {base : Nat} {e : TypeId} {size n c : Nat} {A : Option Addr} {xs : List Value} (h : w.ownsRow base e size (.slice A n c) n xs) : n ≤ c := by
  rcases h.2 with ⟨hv, h0⟩ | ⟨g, cap, cur, hv, hb, hg, hnc, _⟩
  · omega
  · injection hv with h1 h2 h3
    subst h3
    exact hnc
theorem own_len {w : World} {base : Nat} {e : TypeId} {n : Nat} {v : Value} {xs : List Value} (h : w.ownsRow base e 1 v n xs) : n = xs.length := by have := h.1; omega

/-! ### a region that draws its order: one operation taken first, the frame written out -/
theorem startH {P : Program} {ops : Array Oper} {Q : Exit → Act → World → Prop} {id : Nat} {a : Act} {w : World} (S : World → Prop) (n : Nat) (L : Array Bool) (hn : ops.size = n) (hL : Array.replicate n false = L) (hm : P.follows .mixedOrders = true) (hS : S w.drew)
    (h : S w.drew → wpAnyH P .any ops (NoPanic Q) S n L a w.drew) : (Code.region id ops true).wp P Q a w := by
  subst hn
  subst hL
  exact wp_region_noPanic (wp_region_held_drew hm hS h)
theorem takeH {P : Program} {ops : Array Oper} {Q : Exit → Act → World → Prop} {md : Region.Mode} {S : World → Prop} (i d : Nat) (L : Array Bool) {oi : Oper} {v : Value} {fuel : Nat} {listed : Array Bool} {l : List Value} {ds : List Deferred} {w : World}
    (hi : ops[i]? = some oi) (hd : oi.dst = some d) (hL : listed.setIfInBounds i true = L) (hs : Region.noSelect ops = true) (hf : Region.free md ops listed i = true) (hr : (Region.ready md ops listed).contains i = true)
    (hQ : ∀ c a w, Q (.panic c) (a.put oi.dst v) w → Q (.panic c) a w) (hy : YieldsIf P ops S oi v ⟨l.toArray, ds⟩) (hS : S w)
    (h : wpAnyH P md ops Q S fuel L ⟨(l.set d v).toArray, ds⟩ w) : wpAnyH P md ops Q S (fuel + 1) listed ⟨l.toArray, ds⟩ w := by
  subst hL
  refine wpAnyH_take hi hs hf hr hQ hy hS ?_
  rw [hd]
  simpa [Act.put] using h
theorem branchH {P : Program} {ops : Array Oper} {Q : Exit → Act → World → Prop} {md : Region.Mode} {S : World → Prop} (i d : Nat) (L : Array Bool) {o : Oper} {fuel : Nat} {listed : Array Bool} {l : List Value} {ds : List Deferred} {w : World}
    (hr : Region.ready md ops listed = [i]) (ho : ops[i]? = some o) (hd : o.dst = some d) (hL : listed.setIfInBounds i true = L) (hg : Region.wanted o (yielded ops l.toArray) = true)
    (h : ∀ K' : Act → World → Prop, Shut (∀ v w, S w → (S w → wpAnyH P md ops Q S fuel L ⟨(l.set d v).toArray, ds⟩ w) → K' (Act.put ⟨l.toArray, ds⟩ (some d) v) w) → Oper.wp P o ⟨l.toArray, ds⟩ w K' Q) :
    wpAnyH P md ops Q S (fuel + 1) listed ⟨l.toArray, ds⟩ w := by
  subst hL
  refine wpAnyH_ready hr (by simp) (AllReadyH.cons ho (fun K hK => ?_) AllReadyH.nil)
  rw [if_pos hg]
  refine h K fun v w hS hW => hK.out _ _ hS fun hS' => ?_
  have := hW hS'
  simpa [Act.put] using this

/-! the same, shorter -/
theorem sk {P : Program} {ops : Array Oper} {Q : Exit → Act → World → Prop} {id : Nat} {a : Act} {w : World} (S : World → Prop) (n : Nat) (hS : S w.drew)
    (h : S w.drew → wpAnyH P .any ops (NoPanic Q) S n (Array.replicate n false) a w.drew) (hn : ops.size = n := by rfl) (hm : P.follows .mixedOrders = true := by kernel_rfl) : (Code.region id ops true).wp P Q a w := startH S n _ hn rfl hm hS h
theorem tk {P : Program} {ops : Array Oper} {Q : Exit → Act → World → Prop} {md : Region.Mode} {S : World → Prop} (i d : Nat) {oi : Oper} {v : Value} {fuel : Nat} {listed : Array Bool} {l l' : List Value} {ds : List Deferred} {w : World}
    (hS : S w) (h : wpAnyH P md ops Q S fuel (listed.setIfInBounds i true) ⟨l'.toArray, ds⟩ w)
    (hi : ops[i]? = some oi := by rfl) (hd : oi.dst = some d := by rfl) (hs : Region.noSelect ops = true := by kernel_rfl) (hf : Region.free md ops listed i = true := by kernel_rfl) (hr : (Region.ready md ops listed).contains i = true := by kernel_rfl)
    (hQ : ∀ c a w, Q (.panic c) (a.put oi.dst v) w → Q (.panic c) a w := by exact fun _ _ _ h => h) (hy1 : Region.wanted oi (yielded ops l.toArray) = true := by rfl)
    (hy2 : ∀ w', S w' → (execOp (Act.mk l.toArray ds).eval oi).run P w' = .ok (.value v) w' := by (intro w' hSw; (try dsimp only at hSw); go_simp; (try with_reducible rfl)))
    (hl : l.set d v = l' := by (simp only [List.set_cons_zero, List.set_cons_succ]; try rfl)) : wpAnyH P md ops Q S (fuel + 1) listed ⟨l.toArray, ds⟩ w := by
  subst hl
  exact takeH i d _ hi hd rfl hs hf hr hQ (.inl ⟨hy1, hy2⟩) hS h
theorem tn {P : Program} {ops : Array Oper} {Q : Exit → Act → World → Prop} {md : Region.Mode} {S : World → Prop} (i d : Nat) {oi : Oper} {fuel : Nat} {listed : Array Bool} {l l' : List Value} {ds : List Deferred} {w : World}
    (hS : S w) (h : wpAnyH P md ops Q S fuel (listed.setIfInBounds i true) ⟨l'.toArray, ds⟩ w)
    (hi : ops[i]? = some oi := by rfl) (hd : oi.dst = some d := by rfl) (hs : Region.noSelect ops = true := by kernel_rfl) (hf : Region.free md ops listed i = true := by kernel_rfl) (hr : (Region.ready md ops listed).contains i = true := by kernel_rfl)
    (hQ : ∀ c a w, Q (.panic c) (a.put oi.dst undef) w → Q (.panic c) a w := by exact fun _ _ _ h => h) (hy1 : Region.wanted oi (yielded ops l.toArray) = false := by rfl)
    (hl : l.set d undef = l' := by (simp only [List.set_cons_zero, List.set_cons_succ]; try rfl)) : wpAnyH P md ops Q S (fuel + 1) listed ⟨l.toArray, ds⟩ w := by
  subst hl
  exact takeH i d _ hi hd rfl hs hf hr hQ (.inr ⟨hy1, rfl⟩) hS h
theorem bk {P : Program} {ops : Array Oper} {Q : Exit → Act → World → Prop} {md : Region.Mode} {S : World → Prop} (i d : Nat) {o : Oper} {fuel : Nat} {listed : Array Bool} {l : List Value} {ds : List Deferred} {w : World}
    (h : ∀ K' : Act → World → Prop, Shut (∀ v w, S w → (S w → wpAnyH P md ops Q S fuel (listed.setIfInBounds i true) ⟨(l.set d v).toArray, ds⟩ w) → K' (Act.put ⟨l.toArray, ds⟩ (some d) v) w) → Oper.wp P o ⟨l.toArray, ds⟩ w K' Q)
    (hr : Region.ready md ops listed = [i] := by kernel_rfl) (ho : ops[i]? = some o := by rfl) (hd : o.dst = some d := by rfl) (hg : Region.wanted o (yielded ops l.toArray) = true := by rfl) : wpAnyH P md ops Q S (fuel + 1) listed ⟨l.toArray, ds⟩ w := branchH i d _ hr ho hd rfl hg h
theorem consH {P : Program} {ops : Array Oper} {Q : Exit → Act → World → Prop} {md : Region.Mode} {S : World → Prop} (i d : Nat) (L : Array Bool) {o : Oper} {fuel : Nat} {listed : Array Bool} {l : List Value} {ds : List Deferred} {w : World} {rs : List Nat}
    (ho : ops[i]? = some o) (hd : o.dst = some d) (hL : listed.setIfInBounds i true = L) (hg : Region.wanted o (yielded ops l.toArray) = true)
    (h : ∀ K' : Act → World → Prop, Shut (∀ v w, S w → (S w → wpAnyH P md ops Q S fuel L ⟨(l.set d v).toArray, ds⟩ w) → K' (Act.put ⟨l.toArray, ds⟩ (some d) v) w) → Oper.wp P o ⟨l.toArray, ds⟩ w K' Q)
    (more : AllReadyH P md ops Q S fuel listed ⟨l.toArray, ds⟩ w rs) :
    AllReadyH P md ops Q S fuel listed ⟨l.toArray, ds⟩ w (i :: rs) := by
  subst hL
  refine AllReadyH.cons ho (fun K hK => ?_) more
  rw [if_pos hg]
  refine h K fun v w hS hW => hK.out _ _ hS fun hS' => ?_
  have := hW hS'
  simpa [Act.put] using this
theorem ret_bool {b : Bool} (h : b = true) : Ending.returned (.bool b) = .returned (.bool true) := by rw [h]
theorem own_stored {w : World} {base : Nat} {e : TypeId} {size n c g : Nat} {xs : List Value} (h : w.ownsRow base e size (.slice (some ⟨g, 0, none⟩) n c) n xs) (j : Nat) (u : Value) :
    (w.setCell ⟨g, j, none⟩ u).ownsRow base e size (.slice (some ⟨g, 0, none⟩) n c) n (xs.set j u) := (h.stored j u).1

/-! ### a slice of bytes to a string -/
def bstr (l : List Nat) : ByteArray := ⟨(l.map UInt8.ofNat).toArray⟩
theorem foldl_push (l : List Nat) : ∀ s : ByteArray, (l.map (fun c : Nat => (c : Int))).foldl (fun r n => r.push (UInt8.ofNat n.toNat)) s = ⟨s.data ++ (l.map UInt8.ofNat).toArray⟩ := by
  induction l with
  | nil => intro s; cases s; simp
  | cons c l ih =>
    intro s
    simp only [List.map_cons, List.foldl_cons]
    rw [ih]
    cases s
    simp [ByteArray.push]
theorem run_str {P : Program} {w : World} {B : Nat} {A : Option Addr} {n c : Nat} {l : List Nat} (hr : Rd w B 1 A n (l.map bv)) (src dst e : TypeId)
    (hs : P.underlying src = some (.slice e)) (he : P.underlying e = some (.int .u8)) (hd : P.underlying dst = some .string) :
    (convert src dst (.slice A n c)).run P w = .ok (.string (bstr l)) w := by
  rw [run_convert_bytes_string w src dst e A n c hs he hd]
  have hn : l.length = n := by have := hr.1; simpa using this
  by_cases h0 : n = 0
  · subst h0
    rw [List.eq_nil_of_length_eq_zero hn]
    cases A with
    | none => simp [Conv.bytesToString, bstr, Sem.run_pure]; rfl
    | some ad =>
      have := run_bytesToString (P := P) w ad 0 c [] (by simpa using run_loadCells_list (P := P) w ad [] (by simp))
      rw [this]; rfl
  · obtain ⟨b, o, rfl, _, hc⟩ := hr.2 (by omega)
    have hl := run_loadCells_list (P := P) w ⟨b, o, none⟩ (l.map bv) (fun j u hu => by rw [addr_add]; exact hc j u hu)
    have := run_bytesToString (P := P) w ⟨b, o, none⟩ n c (l.map (fun c : Nat => (c : Int))) (by
      have e : (l.map bv) = (l.map (fun c : Nat => (c : Int))).map (Value.int .u8) := by rw [List.map_map]; rfl
      rw [← e]
      have hl' : (l.map bv).length = n := by simpa using hn
      rw [hl'] at hl
      exact hl)
    rw [this, foldl_push]
    simp [bstr, ByteArray.empty, ByteArray.emptyWithCapacity]
    rfl
theorem bstr_toList (l : List Nat) : (bstr l).toList = l.map UInt8.ofNat := by
  rw [ByteArray.toList_eq]; simp [bstr]
theorem bstr_size (l : List Nat) : (bstr l).size = l.length := by simp [bstr, ByteArray.size]
end Go.Proofs.Ytcdgaeenfhpnkaa
