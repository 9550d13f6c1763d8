/- An ear (package rtu) as words on memory; its methods. -/
import Derived.Test.YtkajhobgelaigaaRtu
import Derived.Test.YtkajhobgelaigaaFrames
import Derived.StillTailTactics
import Derived.IntWalk
set_option linter.unusedVariables false
set_option linter.unusedSimpArgs false
set_option maxRecDepth 100000
namespace Go.Proofs.Ytkajhobgelaigaa
open Go Go.RowKit CrcMath

/-- what was heard since the last silence: h; H: the row in which it stands -/
structure HE (w : World) (U : Nat → Prop) (p : Nat) (h : List Nat) : Prop where
  up : ¬ U p
  old : ∀ k, U k → k < w.heap.size
  hb : ∀ c ∈ h, c < 256
  hp : ∃ H : List Nat, H.length = 256 ∧ (∀ c ∈ H, c < 256) ∧ H.take (min h.length 256) = h.take 256 ∧ w.heap[p]? = some (.cells (H.map bv ++ [Value.int .i64 (min h.length 257 : Nat)]).toArray 50)
def silL (h : List Nat) : Nat × List Nat × Nat × Bool := if h = [] then (0, [], 0, false) else ((getL h).1, (getL h).2.1, (getL h).2.2, true)
def SilPost (U : Nat → Prop) (p : Nat) (w : World) (r : Nat × List Nat × Nat × Bool) (e : Ending) (w' : World) : Prop :=
  ∃ A n c, e = .returned (.tuple #[.int .u8 r.1, .slice A n c, .int .i64 r.2.2.1, .bool r.2.2.2]) ∧ Rd w' w'.heap.size 1 A n (r.2.1.map bv) ∧ HE w' U p [] ∧ Kept U w w'

def earZ : Array Value := Array.replicate 256 (.int .u8 0) ++ #[.int .i64 0]
theorem ear_zero (w : World) : (zeroValue 50).run Try.prog w = .ok (.agg earZ) w := by kernel_rfl
theorem earZ_is : earZ = ((List.replicate 256 0).map bv ++ [Value.int .i64 0]).toArray := by
  unfold earZ
  apply Array.ext'
  simp [bv]
theorem enew_any (U : Nat → Prop) (w : World) (hU : ∀ k, U k → k < w.heap.size) :
    Calls Try.prog 14 #[] w fun e w' => e = .returned (.pointer (some ⟨w.heap.size, 0, none⟩)) ∧ HE w' U w.heap.size [] ∧ Below w.heap.size w w' := by
  have HU := Lib.hid hU
  clear hU
  have hz := ear_zero w
  go_enter Try.func14, Try.ntmps14
  go_wp2_with fail
  go_ret
  have hn := heap_alloc_new w (.cells earZ 50)
  have hs : (w.alloc (.cells earZ 50)).heap.size = w.heap.size + 1 := World.size_alloc _ _
  refine ⟨rfl, ⟨fun h => by have := HU.out _ h; omega, fun k h => by have := HU.out _ h; omega, by simp, List.replicate 256 0, by simp, fun c hc => by have := (List.mem_replicate.1 hc).2; omega, by simp, ?_⟩, (Below.refl _ _).alloc (Nat.le_refl _) _⟩
  rw [hn, earZ_is]; rfl
theorem HE.below {w w' : World} {U : Nat → Prop} {p : Nat} {h : List Nat} (H : HE w U p h) (hb : Below w.heap.size w w') : HE w' U p h := by
  obtain ⟨R, h1, h2, h3, h4⟩ := H.hp
  exact ⟨H.up, fun k hk => Nat.lt_of_lt_of_le (H.old k hk) hb.size, H.hb, R, h1, h2, h3, by rw [hb.block _ (Array.getElem?_eq_some_iff.1 h4).1]; exact h4⟩
theorem row_many {w : World} {p : Nat} {R : List Nat} {m : Nat} (hR : R.length = 256) (h : w.heap[p]? = some (.cells (R.map bv ++ [Value.int .i64 (m : Nat)]).toArray 50)) : w.cell? ⟨p, 256, none⟩ = some (.int .i64 (m : Int)) := by
  rw [cell_of_row w p 256 _ _ _ h]
  simp [List.getElem?_append_right, hR]
theorem emany_any (U : Nat → Prop) (p : Nat) (h : List Nat) (w : World) (hH : HE w U p h) :
    Calls Try.prog 21 #[.pointer (some ⟨p, 0, none⟩)] w fun e w' => e = .returned (.int .i64 (min h.length 257 : Nat)) ∧ w' = w := by
  obtain ⟨R, h1, h2, h3, h4⟩ := hH.hp
  have c1 := row_many h1 h4
  obtain ⟨m, hm⟩ : ∃ m, m = min h.length 257 := ⟨_, rfl⟩
  rw [← hm] at c1
  rw [← hm]
  clear h4 hm
  go_enter Try.func21, Try.ntmps21
  go_wp2_with fail
  go_ret
  exact ⟨rfl, rfl⟩
theorem set_last (R : List Nat) (m m' : Nat) (hR : R.length = 256) : (R.map bv ++ [Value.int .i64 (m : Nat)]).toArray.setIfInBounds 256 (.int .i64 (m' : Int)) = (R.map bv ++ [Value.int .i64 (m' : Nat)]).toArray := by
  apply Array.ext'
  simp only [Array.toList_setIfInBounds]
  rw [List.set_append_right _ _ (by simp [hR])]
  simp [hR]
theorem wpList_cpy_at {P : Program} {w : World} {ops : Array Oper} {rest : List Oper} {o : Oper} {a : Act} {Q : Exit → Act → World → Prop} (hgd : o.guard = none) (d s : Operand) (dT sT : TypeId)
    (ho : o.op = .call { callee := .builtin .copy, args := #[d, s], argTypes := #[dT, sT] }) (elem : TypeId) (hu : P.underlying dT = some (.slice elem)) (hsz : (P.info? elem).map (·.size) = some 1)
    (g off dLen dCap : Nat) (ad : Addr) (sLen sCap : Nat) (hd : a.eval d = .slice (some ⟨g, off, none⟩) dLen dCap) (hs : a.eval s = .slice (some ad) sLen sCap)
    (cur : Array Value) (t : TypeId) (hg : w.heap[g]? = some (.cells cur t (0, 0))) (cs : List Value) (hn : cs.length = Nat.min sLen dLen)
    (hsrc : ∀ j v, cs[j]? = some v → w.cell? (ad.add j) = some v) (hfit : off + cs.length ≤ cur.size) (h1 : ∀ v ∈ cs, v.oneCell' = true)
    (row : List Value) (hrow : row = cur.toList.take off ++ (cs ++ cur.toList.drop (off + cs.length)))
    (h : wpList P ops Q rest (a.put o.dst (goInt cs.length)) (w.setRow g row.toArray)) : wpList P ops Q (o :: rest) a w := by
  subst hrow
  refine wpList_plain hgd fun K hK => ?_
  have hrun := run_copy_row (P := P) w dT sT o.type elem g off dLen dCap ad sLen sCap cur t cs hu hsz hg hn hsrc hfit h1
  unfold Oper.wp
  simp [execOp, ho, resolve, invoke, builtin, hd, hs, hrun, Result.andThen]
  exact hK _ _ h
theorem hear_splice (R h b : List Nat) (k m n : Nat) (hR : R.length = 256) (hk : k = h.length) (hk2 : k ≤ 256) (hn : b.length = n) (hm : m = min n (256 - k)) (hc : ∀ c ∈ R, c < 256) (hb : ∀ c ∈ b, c < 256) (ht : R.take k = h) :
    ∃ R' : List Nat, R'.length = 256 ∧ (∀ c ∈ R', c < 256) ∧ R'.take (min (h ++ b).length 256) = (h ++ b).take 256 ∧ R' = R.take k ++ (b.take m ++ R.drop (k + m)) := by
  refine ⟨_, ?_, fun c hcc => ?_, ?_, rfl⟩
  · simp [hR]; omega
  · rcases List.mem_append.1 hcc with h1 | h1
    · exact hc c (List.mem_of_mem_take h1)
    · rcases List.mem_append.1 h1 with h1 | h1
      · exact hb c (List.mem_of_mem_take h1)
      · exact hc c (List.mem_of_mem_drop h1)
  · rw [ht, ← List.append_assoc, List.length_append]
    have hl : (h ++ b.take m).length = min (h.length + b.length) 256 := by simp; omega
    rw [← hl, List.take_left' rfl, List.take_append, List.take_of_length_le (l := h) (i := 256) (by omega)]
    congr 1
    rw [hm, hk, hn.symm]
    rcases Nat.le_total b.length (256 - h.length) with h1 | h1
    · rw [Nat.min_eq_left h1, List.take_of_length_le (Nat.le_refl _), List.take_of_length_le h1]
    · rw [Nat.min_eq_right h1]
theorem hear_close {w w3 : World} {U : Nat → Prop} {p m : Nat} {h b R : List Nat} (hH : HE w U p h) (hK : Kept U w w3) (hb : ∀ c ∈ b, c < 256)
    (hR : R.length = 256 ∧ (∀ c ∈ R, c < 256) ∧ R.take (min (h ++ b).length 256) = (h ++ b).take 256) (hg : w3.heap[p]? = some (.cells (R.map bv ++ [Value.int .i64 (m : Nat)]).toArray 50)) (v : Int) (hv : v = ((min (h.length + b.length) 257 : Nat) : Int)) :
    HE (w3.setCell ⟨p, 256, none⟩ (.int .i64 v)) U p (h ++ b) ∧ Kept U w (w3.setCell ⟨p, 256, none⟩ (.int .i64 v)) := by
  refine ⟨⟨hH.up, fun k hk => ?_, fun c hc => ?_, R, hR.1, hR.2.1, hR.2.2, ?_⟩, hK.setCell (p := ⟨p, 256, none⟩) hH.up _⟩
  · have := hH.old k hk; have := hK.size; simp [World.setCell]; omega
  · rcases List.mem_append.1 hc with h1 | h1
    · exact hH.hb c h1
    · exact hb c h1
  · rw [heap_set_same (j := 256) (.int .i64 v) hg, hv, set_last R _ _ hR.1, List.length_append]
/-- where an ear's row begins to be written -/
theorem hear_pos (U : Nat → Prop) (p : Nat) (h : List Nat) (w : World) (A : Option Addr) (n c : Nat) (b : List Nat) (hH : HE w U p h) (hr : Rd w w.heap.size 1 A n (b.map bv)) (hb : ∀ c ∈ b, c < 256) (hn : n ≤ 9223372036854775000) (h1 : 1 ≤ n) (h2 : h.length < 256) :
    Calls Try.prog 19 #[.pointer (some ⟨p, 0, none⟩), .slice A n c] w fun e w' => e = .returned (.tuple #[]) ∧ HE w' U p (h ++ b) ∧ Kept U w w' := by
  have hbl : b.length = n := by have := hr.1; simpa using this
  obtain ⟨R, r1, r2, r3, r4⟩ := hH.hp
  obtain ⟨k, hk⟩ : ∃ k, k = h.length := ⟨_, rfl⟩
  obtain ⟨m, hm⟩ : ∃ m, m = min n (256 - k) := ⟨_, rfl⟩
  rw [← hk, show min k 256 = k by omega, List.take_of_length_le (l := h) (i := 256) (by omega)] at r3
  rw [← hk, show min k 257 = k by omega] at r4
  obtain ⟨R', q1, q2, q3, q4⟩ := hear_splice R h b k m n r1 hk (by omega) hbl hm r2 hb r3
  have c1 := row_many r1 r4
  have k1 : (0 : Int) ≤ (k : Int) := by omega
  have k2 : (k : Int) < 256 := by omega
  have k3 : (k : Int) ≤ 256 := by omega
  have k4 : k ≤ 256 := by omega
  have k5 : ((256 : Int) < (k : Int)) = False := eq_false (by omega)
  have k6 : (256 = k) = False := eq_false (by omega)
  have n1 : (n : Int) ≤ 9223372036854775000 := by omega
  obtain ⟨bs, o, rfl, hbs, hsrc⟩ := hr.2 (by omega)
  obtain ⟨cs, hcs⟩ : ∃ cs, cs = (b.take m).map bv := ⟨_, rfl⟩
  have hcl : Hid (cs.length = Nat.min n (256 - k)) := by show _ = min n (256 - k); rw [hcs]; simp; omega
  have hsr : Hid (∀ W : World, W.heap = w.heap → ∀ j v, cs[j]? = some v → W.cell? ((⟨bs, o, none⟩ : Addr).add j) = some v) := by
    intro W hW j v hj
    rw [addr_add, show W.cell? ⟨bs, o + j, none⟩ = w.cell? ⟨bs, o + j, none⟩ from World.cell?_of_block (by rw [hW])]
    refine hsrc j v ?_
    rw [hcs, List.map_take, List.getElem?_take] at hj
    split at hj
    · exact hj
    · cases hj
  have hfit : Hid (k + cs.length ≤ (R.map bv ++ [Value.int .i64 (k : Nat)]).toArray.size) := by
    show _ ≤ _
    rw [hcs]; simp [r1]; omega
  have h1c : ∀ v ∈ cs, v.oneCell' = true := by rw [hcs]; exact bv_one _
  have hrow : Hid ((R'.map bv ++ [Value.int .i64 (k : Nat)]) = (R.map bv ++ [Value.int .i64 (k : Nat)]).toArray.toList.take k ++ (cs ++ (R.map bv ++ [Value.int .i64 (k : Nat)]).toArray.toList.drop (k + cs.length))) := by
    show _ = _
    have hl : cs.length = m := by rw [hcs]; simp; omega
    rw [hl, q4, hcs]
    have e1 : (R.map bv ++ [Value.int .i64 (k : Nat)]).take k = (R.take k).map bv := by
      rw [List.take_append_of_le_length (by simp; omega), List.map_take]
    have e2 : (R.map bv ++ [Value.int .i64 (k : Nat)]).drop (k + m) = (R.drop (k + m)).map bv ++ [Value.int .i64 (k : Nat)] := by
      rw [List.drop_append_of_le_length (by simp; omega), List.map_drop]
    rw [e1, e2]
    simp [List.append_assoc]
  have Hr4 := Lib.hid r4
  have Hq := Lib.hid (And.intro q1 (And.intro q2 q3))
  have HH := Lib.hid hH
  have Hk := Lib.hid hk
  have Hbl := Lib.hid hbl
  have Hcl := hcl
  clear hH hr hsrc r1 r2 r3 r4 q1 q2 q3 q4 hcs hk hm hbl
  go_enter Try.func19, Try.ntmps19
  go_wp2_with fail
  go_still_tail 10, (by kernel_rfl)
  change wpList _ _ _ _ _ w.drew
  have Hg : Hid (w.drew.heap[p]? = some (.cells (R.map bv ++ [Value.int .i64 (k : Nat)]).toArray 50)) := Hr4.out
  refine wpList_cpy_at rfl (.tmp 12) (.tmp 13) 22 22 rfl 5 Try.underlying22 (by kernel_rfl) p k (256 - k) (256 - k) ⟨bs, o, none⟩ n c rfl rfl _ 50 Hg.out cs Hcl.out (hsr.out _ rfl) hfit.out h1c _ hrow.out ?_
  obtain ⟨w3, hw3⟩ : ∃ W, W = w.drew.setRow p (R'.map bv ++ [Value.int .i64 (k : Nat)]).toArray := ⟨_, rfl⟩
  have hg3 : w3.heap[p]? = some (.cells (R'.map bv ++ [Value.int .i64 (k : Nat)]).toArray 50) := by
    rw [hw3]; exact setRow_heap w.drew p _ _ _ _ Hg.out
  have hK3 : Kept U w w3 := by rw [hw3]; exact ((Kept.refl U w).drew).setRow HH.out.up _
  have c3 := row_many Hq.out.1 hg3
  have f3 := frozen_of_row w3 p 256 _ _ hg3
  rw [← hw3]
  have Hg3 := Lib.hid hg3
  clear hw3 hg3 Hg hsr hfit hrow c1
  go_wp2_with fail
  all_goals
    go_end0
    exact ⟨rfl, hear_close HH.out hK3 hb Hq.out Hg3.out _ (by have := Hk.out; have := Hbl.out; omega)⟩
set_option maxHeartbeats 1000000 in
theorem hear_zero (U : Nat → Prop) (p : Nat) (h : List Nat) (w : World) (A : Option Addr) (n c : Nat) (b : List Nat) (hH : HE w U p h) (hbl : b.length = n) (hb : ∀ c ∈ b, c < 256) (hn : n ≤ 9223372036854775000) (h1 : ¬ (1 ≤ n ∧ h.length < 256)) :
    Calls Try.prog 19 #[.pointer (some ⟨p, 0, none⟩), .slice A n c] w fun e w' => e = .returned (.tuple #[]) ∧ HE w' U p (h ++ b) ∧ Kept U w w' := by
  obtain ⟨R, r1, r2, r3, r4⟩ := hH.hp
  obtain ⟨k, hk⟩ : ∃ k, k = h.length := ⟨_, rfl⟩
  have hq : R.length = 256 ∧ (∀ c ∈ R, c < 256) ∧ R.take (min (h ++ b).length 256) = (h ++ b).take 256 := by
    refine ⟨r1, r2, ?_⟩
    by_cases h2 : h.length < 256
    · have : b = [] := List.eq_nil_of_length_eq_zero (by omega)
      subst this
      simpa using r3
    · rw [List.length_append, show min (h.length + b.length) 256 = min h.length 256 by omega, r3, List.take_append_of_le_length (by omega)]
  have Hq := Lib.hid hq
  have HH := Lib.hid hH
  have Hk := Lib.hid hk
  have Hbl := Lib.hid hbl
  have c1 := row_many r1 r4
  have n1 : (n : Int) ≤ 9223372036854775000 := by omega
  have f3 := frozen_of_row w p 256 _ _ r4
  have Hg3 := Lib.hid r4
  rw [← hk] at c1
  clear hq hH r1 r2 r3 r4 hbl
  by_cases h2 : k < 256
  · obtain rfl : n = 0 := by omega
    rw [show min k 257 = k by omega] at c1
    have k1 : (0 : Int) ≤ (k : Int) := by omega
    have k3 : (k : Int) ≤ 256 := by omega
    have k4 : k ≤ 256 := by omega
    have k5 : ((256 : Int) < (k : Int)) = False := eq_false (by omega)
    have k6 : (256 = k) = False := eq_false (by omega)
    clear h1 hk
    go_enter Try.func19, Try.ntmps19
    go_wp2_with fail
    go_still_tail 10, (by kernel_rfl)
    change wpList _ _ _ _ _ w.drew
    refine wpList_copy_nothing rfl (.tmp 12) (.tmp 13) 22 22 rfl 5 Try.underlying22 (by kernel_rfl) _ _ _ _ _ _ rfl rfl (Nat.zero_min _) ?_
    go_wp2_with fail
    go_end0
    have hc := hear_close HH.out (Kept.refl U w) hb Hq.out Hg3.out (k : Int) (by have := Hk.out; have := Hbl.out; omega)
    exact ⟨rfl, hc.1.below ⟨rfl, rfl, rfl, Nat.le_refl _, fun _ _ => rfl⟩, hc.2.drew⟩
  · obtain ⟨mm, hmm, hm2⟩ : ∃ mm, mm = min k 257 ∧ (mm = 256 ∨ mm = 257) := ⟨_, rfl, by omega⟩
    rw [← hmm] at c1
    have Hmm := Lib.hid hmm
    clear h1 hk hmm
    rcases hm2 with rfl | rfl
    all_goals
      go_enter Try.func19, Try.ntmps19
      go_wp2_with fail
      go_still_tail 10, (by kernel_rfl)
      change wpList _ _ _ _ _ w.drew
      refine wpList_copy_nothing rfl (.tmp 12) (.tmp 13) 22 22 rfl 5 Try.underlying22 (by kernel_rfl) _ _ _ _ _ _ rfl rfl (Nat.min_zero _) ?_
      go_wp2_with fail
      all_goals
        go_end0
        have hc := fun (v : Int) hv => hear_close HH.out (Kept.refl U w) hb Hq.out Hg3.out v hv
        refine ⟨rfl, (hc _ ?_).1.below ⟨rfl, rfl, rfl, Nat.le_refl _, fun _ _ => rfl⟩, (hc _ ?_).2.drew⟩
        all_goals (have := Hk.out; have := Hbl.out; have := Hmm.out; omega)
/-- Hear, of anything -/
theorem hear_any (U : Nat → Prop) (p : Nat) (h : List Nat) (w : World) (A : Option Addr) (n c : Nat) (b : List Nat) (hH : HE w U p h) (hr : Rd w w.heap.size 1 A n (b.map bv)) (hb : ∀ c ∈ b, c < 256) (hn : n ≤ 9223372036854775000) :
    Calls Try.prog 19 #[.pointer (some ⟨p, 0, none⟩), .slice A n c] w fun e w' => e = .returned (.tuple #[]) ∧ HE w' U p (h ++ b) ∧ Kept U w w' := by
  by_cases h1 : 1 ≤ n ∧ h.length < 256
  · exact hear_pos U p h w A n c b hH hr hb hn h1.1 h1.2
  · exact hear_zero U p h w A n c b hH (by have := hr.1; simpa using this) hb hn h1
set_option maxHeartbeats 1000000 in
theorem sil_any (U : Nat → Prop) (p : Nat) (h : List Nat) (w : World) (hH : HE w U p h) :
    Calls Try.prog 17 #[.pointer (some ⟨p, 0, none⟩)] w (SilPost U p w (silL h)) := by
  obtain ⟨R, r1, r2, r3, r4⟩ := hH.hp
  obtain ⟨k, hk⟩ : ∃ k, k = min h.length 257 := ⟨_, rfl⟩
  have c1 := row_many r1 r4
  have f1 := frozen_of_row w p 256 _ _ r4
  rw [← hk] at c1
  by_cases h0 : h = []
  · have e : silL h = (0, [], 0, false) := by rw [silL, if_pos h0]
    subst h0
    rw [e]
    obtain rfl : k = 0 := by rw [hk]; rfl
    clear hk r4
    go_enter Try.func17, Try.ntmps17
    go_wp2_with fail
    refine bodyPost_ret (v := .tuple #[.int .u8 0, .slice none 0 0, .int .i64 0, .bool false]) (by simp [results, Try.results17, go_sem]) rfl ?_
    exact ⟨none, 0, 0, rfl, Rd.nil_ _ _ _ _, hH, Kept.refl _ _⟩
  · have hl1 : 1 ≤ h.length := by
      rcases h with _ | _
      · exact absurd rfl h0
      · simp
    have hzero : HE (w.setCell ⟨p, 256, none⟩ (.int .i64 0)) U p [] := by
      refine ⟨hH.up, fun k hk => by have := hH.old k hk; simp [World.setCell]; omega, by simp, R, r1, r2, by simp, ?_⟩
      rw [heap_set_same (j := 256) (.int .i64 0) r4]
      have := set_last R (min h.length 257) 0 r1
      rw [show (.int .i64 0 : Value) = .int .i64 ((0 : Nat) : Int) from rfl, this]
      rfl
    have hK1 : Kept U w (w.setCell ⟨p, 256, none⟩ (.int .i64 0)) := (Kept.refl U w).setCell (p := ⟨p, 256, none⟩) hH.up _
    have Hz := Lib.hid hzero
    by_cases h2 : 256 < h.length
    · have e : silL h = (0, [], 22, true) := by rw [silL, if_neg h0, getL, if_pos h2]
      rw [e]
      obtain rfl : k = 257 := by omega
      clear hk r4 hzero h0 hl1
      go_enter Try.func17, Try.ntmps17
      go_wp2_with fail
      refine bodyPost_ret (v := .tuple #[.int .u8 0, .slice none 0 0, .int .i64 22, .bool true]) (by simp [results, Try.results17, go_sem]) rfl ?_
      exact ⟨none, 0, 0, rfl, Rd.nil_ _ _ _ _, Hz.out, hK1⟩
    · have e : silL h = ((getL h).1, (getL h).2.1, (getL h).2.2, true) := by rw [silL, if_neg h0]
      rw [e]
      have hkl : k = h.length := by omega
      have k0 : ((k : Int) == 0) = false := by rw [beq_eq_false_iff_ne]; omega
      have k1 : (k : Int) ≤ 256 := by omega
      have k2 : (0 : Int) ≤ (k : Int) := by omega
      have k3 : k ≤ 256 := by omega
      have hRk : R.take k = h := by
        rw [show min h.length 256 = k by omega, List.take_of_length_le (l := h) (i := 256) (by omega)] at r3
        exact r3
      have hrd : Rd (w.setCell ⟨p, 256, none⟩ (.int .i64 0)) (w.setCell ⟨p, 256, none⟩ (.int .i64 0)).heap.size 1 (some ⟨p, 0, none⟩) k (h.map bv) := by
        refine ⟨by simp; omega, fun _ => ⟨p, 0, rfl, by have := (Array.getElem?_eq_some_iff.1 r4).1; simp [World.setCell]; omega, fun j u hu => ?_⟩⟩
        have hj : j < h.length := by
          have := (List.getElem?_eq_some_iff.1 hu).1
          simpa using this
        rw [Nat.zero_add, cell_of_row _ p j _ _ _ (heap_set_same (j := 256) (.int .i64 0) r4), show (.int .i64 0 : Value) = .int .i64 ((0 : Nat) : Int) from rfl, set_last R _ _ r1]
        rw [← hRk, List.map_take, List.getElem?_take] at hu
        split at hu
        · rw [List.getElem?_toArray, List.getElem?_append_left (by simp; omega)]; exact hu
        · cases hu
      have Hrd := Lib.hid hrd
      have Hk := Lib.hid hkl
      have Hb := Lib.hid hH.hb
      obtain ⟨g, hg⟩ : ∃ g, g = getL h := ⟨_, rfl⟩
      rw [← hg]
      have Hg := Lib.hid hg
      clear hk r4 hzero h0 hl1 h2 r3 hRk hrd hkl hg e
      go_enter Try.func17, Try.ntmps17
      go_wp2_with (first
        | (go_at_call 10; (with_reducible refine (get_any (some ⟨p, 0, none⟩) k 256 _ h _ Hrd.out (Nat.le_refl _) Hb.out k3 (by omega)).mono ?_)
           rintro e w2 ⟨A2, n2, c2, he, hr2, _, _, hb2⟩
           rw [← Hg.out] at he hr2
           subst he))
      refine bodyPost_ret (v := .tuple #[.int .u8 g.1, .slice A2 n2 c2, .int .i64 g.2.2, .bool true]) (by simp [results, Try.results17, go_sem]) rfl ?_
      exact ⟨_, _, _, rfl, hr2, Hz.out.below hb2, hK1.trans (Kept.of hb2 Hz.out.old)⟩
end Go.Proofs.Ytkajhobgelaigaa
