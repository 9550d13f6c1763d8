/- The document's reader of a record: what it reads, in plain Lean; six bytes; latches. -/
import Derived.Test.YtcdgaeenfhpnkaaPk31
set_option linter.unusedVariables false
set_option linter.unusedSimpArgs false
set_option maxRecDepth 100000
namespace Go.Proofs.Ytcdgaeenfhpnkaa
open Go Go.RowKit
attribute [local go_sem] Oper.semAt_some

/-- the number of six bytes -/
def ofSix (l : List Nat) : Nat := l.foldl (fun a x => 256 * a + x) 0
theorem ofSix_six (t : Nat) (h : t < 281474976710656) : ofSix (six t) = t := by
  simp only [ofSix, six, List.foldl_cons, List.foldl_nil]
  omega
def latAt (b : List Nat) (i : Nat) : Lt := latchOf (b.getD (7 * i) 0) (ofSix ((b.drop (7 * i + 1)).take 6))
def lats (b : List Nat) (many : Nat) : List Lt := (List.range many).map (latAt b)
def timAt (b : List Nat) (fr i : Nat) : Int := ofSix ((b.drop (fr + 6 * i)).take 6)
def ntAt (b : List Nat) (fr i : Nat) : Nt := noteOf (b.getD (fr + 8 * i) 0) (b.getD (fr + 8 * i + 1) 0) (ofSix ((b.drop (fr + 8 * i + 2)).take 6))
def refC (b : List Nat) : Nat := b.getD 0 0
def refE (b : List Nat) : Nat := b.getD 1 0
def refAt (b : List Nat) : Nat := 2 + 7 * (refC b + refE b) + 6 * refC b
def refN (b : List Nat) : Nat := b.getD (refAt b) 0
def refOk (b : List Nat) : Prop := 3 ≤ b.length ∧ refC b ≤ 8 ∧ refE b ≤ 8 ∧ refAt b + 1 ≤ b.length ∧ b.length = refAt b + 1 + 8 * refN b
def refSt (b : List Nat) : St := ⟨lats (b.drop 2) (refC b), lats (b.drop (2 + 7 * refC b)) (refE b), (List.range (refC b)).map (timAt b (2 + 7 * (refC b + refE b)))⟩
def refNt (b : List Nat) : List Nt := (List.range (refN b)).map (ntAt b (refAt b + 1))
theorem flat_drop {α : Type} (f : α → List Nat) (k : Nat) (hk : ∀ a, (f a).length = k) : ∀ (i : Nat) (l : List α), (l.flatMap f).drop (k * i) = (l.drop i).flatMap f
  | 0, l => by simp
  | i + 1, [] => by simp
  | i + 1, a :: l => by
    rw [List.flatMap_cons, List.drop_succ_cons, ← flat_drop f k hk i l, Nat.mul_succ, Nat.add_comm, ← List.drop_drop]
    congr 1
    rw [List.drop_append_of_le_length (by rw [hk]; exact Nat.le_refl _), List.drop_of_length_le (by rw [hk]; exact Nat.le_refl _), List.nil_append]
/-- what stands at place i of rows of one length -/
theorem flat_at {α : Type} {f : α → List Nat} {k : Nat} (hk : ∀ a, (f a).length = k) {l : List α} {i : Nat} {a : α} (h : l[i]? = some a) (rest : List Nat) : ∃ t, (l.flatMap f ++ rest).drop (k * i) = f a ++ t := by
  have hi := (List.getElem?_eq_some_iff.1 h).1
  have hlen : (l.flatMap f).length = k * l.length := by
    clear h hi
    induction l with
    | nil => simp
    | cons a l ih => rw [List.flatMap_cons, List.length_append, hk, ih, List.length_cons, Nat.mul_succ, Nat.add_comm]
  refine ⟨(l.drop (i + 1)).flatMap f ++ rest, ?_⟩
  rw [List.drop_append_of_le_length (by rw [hlen]; exact Nat.mul_le_mul_left _ (by omega)), flat_drop f k hk, List.drop_eq_getElem_cons hi, List.flatMap_cons, List.append_assoc]
  congr 2
  exact (List.getElem?_eq_some_iff.1 h).2
theorem map_range_eq {α : Type} {l : List α} {n : Nat} {g : Nat → α} (hn : l.length = n) (h : ∀ i a, l[i]? = some a → g i = a) : (List.range n).map g = l := by
  apply List.ext_getElem?
  intro i
  rw [List.getElem?_map]
  by_cases hi : i < n
  · rw [List.getElem?_range hi]
    have := List.getElem?_eq_getElem (l := l) (i := i) (by omega)
    rw [this]
    simp only [Option.map_some, Option.some.injEq]
    exact h i _ this
  · rw [List.getElem?_eq_none (by simp; omega), List.getElem?_eq_none (by omega)]
    rfl
theorem take_six (t : Nat) (r : List Nat) : (six t ++ r).take 6 = six t := rfl
theorem getD_drop (b : List Nat) (i j : Nat) : b.getD (i + j) 0 = (b.drop i).getD j 0 := by
  rw [List.getD_eq_getElem?_getD, List.getD_eq_getElem?_getD, List.getElem?_drop]
theorem latAt_enc {C : List Lt} {rest : List Nat} {i : Nat} {x : Lt} (h : C[i]? = some x) (hx : okL x) : latAt (C.flatMap encL ++ rest) i = x := by
  obtain ⟨t, ht⟩ := flat_at (f := encL) (k := 7) (fun _ => rfl) h rest
  unfold latAt
  rw [← List.drop_drop, ← Nat.add_zero (7 * i), getD_drop, Nat.add_zero, ht]
  obtain ⟨s, z, f⟩ := x
  have hz : okT z := by
    unfold okL at hx
    cases s
    · simp only [Bool.false_eq_true, if_false, Lt.mk.injEq] at hx
      rw [hx.2.1]; unfold okT; omega
    · simpa using hx
  have e0 : ((z.toNat : Nat) : Int) = z := by have := hz.1; omega
  show latchOf (b2 s + 2 * b2 f) (ofSix (six z.toNat)) = _
  rw [ofSix_six _ (by have := hz.2; omega)]
  unfold latchOf
  rw [e0]
  cases s <;> cases f <;> rfl
theorem timAt_enc {T : List Int} {pre rest : List Nat} {i : Nat} {x : Int} (h : T[i]? = some x) (hx : okT x) : timAt (pre ++ (T.flatMap sixI ++ rest)) pre.length i = x := by
  obtain ⟨t, ht⟩ := flat_at (f := sixI) (k := 6) (fun _ => rfl) h rest
  unfold timAt
  rw [← List.drop_drop, List.drop_left, ht]
  show ((ofSix (six x.toNat) : Nat) : Int) = x
  rw [ofSix_six _ (by have := hx.2; omega)]
  have := hx.1
  omega
theorem ntAt_enc {l : List Nt} {pre rest : List Nat} {i : Nat} {x : Nt} (h : l[i]? = some x) (hx : okN x) : ntAt (pre ++ (l.flatMap encN ++ rest)) pre.length i = x := by
  obtain ⟨t, ht⟩ := flat_at (f := encN) (k := 8) (fun _ => rfl) h rest
  have hd : (pre ++ (l.flatMap encN ++ rest)).drop (pre.length + 8 * i) = encN x ++ t := by
    rw [← List.drop_drop, List.drop_left, ht]
  unfold ntAt
  rw [← List.drop_drop, hd, getD_drop _ _ 1, hd, ← Nat.add_zero (pre.length + 8 * i), getD_drop, hd]
  obtain ⟨k, o, z⟩ := x
  obtain ⟨h1, h2, h3, h4, h5⟩ := hx
  dsimp only at h1 h2 h3 h4 h5
  have e0 : ((z.toNat : Nat) : Int) = z := by have := h5.1; omega
  have e1 : ((k.toNat : Nat) : Int) = k := by omega
  have e2 : ((o.toNat : Nat) : Int) = o := by omega
  show noteOf k.toNat o.toNat (ofSix (six z.toNat)) = _
  rw [ofSix_six _ (by have := h5.2; omega)]
  unfold noteOf
  rw [e0, e1, e2]
theorem flat_len' {α : Type} {f : α → List Nat} {k : Nat} (hk : ∀ a, (f a).length = k) : ∀ l : List α, (l.flatMap f).length = k * l.length
  | [] => by simp
  | a :: l => by rw [List.flatMap_cons, List.length_append, hk, flat_len' hk l, List.length_cons, Nat.mul_succ, Nat.add_comm]
/-- what the document's reader makes of a record's bytes -/
theorem ref_enc {s : St} {l : List Nt} (h : okR s l) : refOk (encS s l) ∧ refSt (encS s l) = s ∧ refNt (encS s l) = l := by
  obtain ⟨⟨h1, h2, h3, h4, h5, h6⟩, h7, h8⟩ := h
  obtain ⟨C, E, T⟩ := s
  dsimp only at h1 h2 h3 h4 h5 h6
  obtain ⟨b, hb⟩ : ∃ b, b = encS ⟨C, E, T⟩ l := ⟨_, rfl⟩
  have e0 : b = [C.length, E.length] ++ (C.flatMap encL ++ (E.flatMap encL ++ (T.flatMap sixI ++ ([l.length] ++ (l.flatMap encN ++ []))))) := by
    rw [hb]; unfold encS enc4 enc3 enc2 enc1 enc0; simp
  have lC : (C.flatMap encL).length = 7 * C.length := flat_len' (f := encL) (k := 7) (fun _ => rfl) C
  have lE : (E.flatMap encL).length = 7 * E.length := flat_len' (f := encL) (k := 7) (fun _ => rfl) E
  have lT : (T.flatMap sixI).length = 6 * C.length := by rw [flat_len' (f := sixI) (k := 6) (fun _ => rfl), h2]
  have lN : (l.flatMap encN).length = 8 * l.length := flat_len' (f := encN) (k := 8) (fun _ => rfl) l
  rw [← hb]
  have c1 : refC b = C.length := by rw [e0]; rfl
  have c2 : refE b = E.length := by rw [e0]; rfl
  have e1 : b = ([C.length, E.length] ++ (C.flatMap encL ++ E.flatMap encL)) ++ (T.flatMap sixI ++ ([l.length] ++ (l.flatMap encN ++ []))) := by rw [e0]; simp
  have e2 : b = ([C.length, E.length] ++ (C.flatMap encL ++ (E.flatMap encL ++ T.flatMap sixI))) ++ ([l.length] ++ (l.flatMap encN ++ [])) := by rw [e0]; simp
  have e3 : b = ([C.length, E.length] ++ (C.flatMap encL ++ (E.flatMap encL ++ (T.flatMap sixI ++ [l.length])))) ++ (l.flatMap encN ++ []) := by rw [e0]; simp
  have a1 : refAt b = ([C.length, E.length] ++ (C.flatMap encL ++ (E.flatMap encL ++ T.flatMap sixI))).length := by
    unfold refAt; rw [c1, c2]; simp only [List.length_append, lC, lE, lT, List.length_cons, List.length_nil]; omega
  have c3 : refN b = l.length := by
    unfold refN
    rw [a1, ← Nat.add_zero (List.length _), getD_drop]
    conv => lhs; rw [e2]
    rw [List.drop_left]; rfl
  have lb : b.length = refAt b + 1 + 8 * l.length := by
    rw [e2, List.length_append, ← e2, ← a1]
    simp only [List.length_append, lN, List.length_cons, List.length_nil]; omega
  refine ⟨⟨by rw [lb]; unfold refAt; omega, by omega, by omega, by omega, by rw [lb, c3]⟩, ?_, ?_⟩
  · unfold refSt
    rw [c1, c2]
    congr 1
    · refine map_range_eq rfl fun i a hi => ?_
      have : b.drop 2 = C.flatMap encL ++ (E.flatMap encL ++ (T.flatMap sixI ++ ([l.length] ++ (l.flatMap encN ++ [])))) := by rw [e0]; rfl
      rw [this]
      exact latAt_enc hi (h4 a (List.mem_of_getElem? hi))
    · refine map_range_eq rfl fun i a hi => ?_
      have : b.drop (2 + 7 * C.length) = E.flatMap encL ++ (T.flatMap sixI ++ ([l.length] ++ (l.flatMap encN ++ []))) := by
        rw [e0, ← List.drop_drop]
        show (C.flatMap encL ++ _).drop _ = _
        rw [← lC, List.drop_left]
      rw [this]
      exact latAt_enc hi (h5 a (List.mem_of_getElem? hi))
    · refine map_range_eq h2 fun i a hi => ?_
      have hp : 2 + 7 * (C.length + E.length) = ([C.length, E.length] ++ (C.flatMap encL ++ E.flatMap encL)).length := by
        simp only [List.length_append, lC, lE, List.length_cons, List.length_nil]; omega
      rw [hp, e1]
      exact timAt_enc hi (h6 a (List.mem_of_getElem? hi))
  · unfold refNt
    rw [c3]
    refine map_range_eq rfl fun i a hi => ?_
    have hp : refAt b + 1 = ([C.length, E.length] ++ (C.flatMap encL ++ (E.flatMap encL ++ (T.flatMap sixI ++ [l.length])))).length := by
      rw [a1]; simp only [List.length_append, List.length_cons, List.length_nil]; omega
    rw [hp, e3]
    exact ntAt_enc hi (h8 a (List.mem_of_getElem? hi))
/-- the document's reader reads what the program's does -/
theorem ref_yes {b : List Nat} (h : refOk b) (he : bytesF (refSt b) (refNt b) = b) : readV b = (refSt b, refNt b, true) := by
  by_cases hok : okR (refSt b) (refNt b)
  · have e : bytesF (refSt b) (refNt b) = encS (refSt b) (refNt b) := if_pos hok
    have := read_bytes hok
    rwa [← e, he] at this
  · have e : bytesF (refSt b) (refNt b) = [] := if_neg hok
    rw [e] at he
    have := h.1
    rw [← he] at this
    simp at this
theorem ref_no {b : List Nat} (hb : ∀ x ∈ b, x < 256) (h : ¬ (refOk b ∧ bytesF (refSt b) (refNt b) = b)) : readV b = (⟨[], [], []⟩, [], false) := by
  rcases readV_or b hb with h1 | ⟨s, l, h1, h2, h3⟩
  · exact h1
  · exfalso
    obtain ⟨k1, k2, k3⟩ := ref_enc h2
    rw [h3] at k1 k2 k3
    refine h ⟨k1, ?_⟩
    rw [k2, k3]
    have e : bytesF s l = encS s l := if_pos h2
    rw [e, h3]
theorem Rd.piece {w : World} {B n : Nat} {g o : Nat} {l : List Nat} (h : Rd w B 1 (some ⟨g, o, none⟩) n (l.map bv)) (i m : Nat) (him : i + m ≤ n) : Rd w B 1 (some ⟨g, o + i, none⟩) m (((l.drop i).take m).map bv) := by
  have hl : l.length = n := by have := h.1; simpa using this
  refine ⟨by simp; omega, fun hp => ?_⟩
  obtain ⟨b, o', e, hb, hc⟩ := h.2 (by omega)
  injection e with e
  injection e with e1 e2
  subst e1 e2
  refine ⟨g, o + i, rfl, hb, fun j u hu => ?_⟩
  rw [List.map_take, List.getElem?_take] at hu
  split at hu
  · rw [List.map_drop, List.getElem?_drop] at hu
    have := hc (i + j) u hu
    rwa [← Nat.add_assoc] at this
  · cases hu
theorem rd_piece {w : World} {B n : Nat} {A A' : Option Addr} {l : List Nat} (h : Rd w B 1 A n (l.map bv)) (i m : Nat) (him : i + m ≤ n) (hA : A' = A.map (fun x => x.add i) ∨ m = 0) : Rd w B 1 A' m (((l.drop i).take m).map bv) := by
  rcases Nat.eq_zero_or_pos m with rfl | hm
  · rw [List.take_zero]; exact Rd.nil_ _ _ _ _
  · obtain ⟨g, o, rfl, _, _⟩ := h.2 (by omega)
    rcases hA with rfl | h0
    · have := h.piece i m him
      rwa [show ((some (⟨g, o, none⟩ : Addr)).map (fun x => x.add i)) = some ⟨g, o + i, none⟩ by rw [Option.map_some, addr_add]]
    · omega
theorem ofSix_foldl : ∀ (l : List Nat) (a : Nat), (∀ x ∈ l, x < 256) → l.foldl (fun a x => 256 * a + x) a < (a + 1) * 256 ^ l.length
  | [], a, _ => by simp
  | x :: l, a, h => by
    rw [List.foldl_cons, List.length_cons, Nat.pow_succ]
    have h1 := ofSix_foldl l (256 * a + x) (fun y hy => h y (List.mem_cons_of_mem _ hy))
    have h2 := h x (by simp)
    have h3 : (256 * a + x + 1) * 256 ^ l.length ≤ ((a + 1) * 256) * 256 ^ l.length := Nat.mul_le_mul_right _ (by omega)
    have h4 : ((a + 1) * 256) * 256 ^ l.length = (a + 1) * (256 ^ l.length * 256) := by rw [Nat.mul_assoc, Nat.mul_comm 256]
    omega
theorem ofSix_take {l : List Nat} {j x : Nat} (hj : l[j]? = some x) : ofSix (l.take (j + 1)) = 256 * ofSix (l.take j) + x := by
  unfold ofSix
  rw [List.take_add_one, hj, List.foldl_append]
  rfl
theorem ofSix_lt {l : List Nat} (h : ∀ x ∈ l, x < 256) (j : Nat) (hj : j ≤ 5) : ofSix (l.take j) < 1099511627776 := by
  have h1 := ofSix_foldl (l.take j) 0 (fun x hx => h x (List.mem_of_mem_take hx))
  have h2 : 256 ^ (l.take j).length ≤ 256 ^ 5 := Nat.pow_le_pow_right (by omega) (by rw [List.length_take]; omega)
  have h3 : (256 : Nat) ^ 5 = 1099511627776 := by decide
  unfold ofSix
  omega
set_option maxHeartbeats 4000000 in
theorem unsix_any (A : Option Addr) (c B : Nat) (l : List Nat) (w : World) (hl : l.length = 6) (hr : Rd w B 1 A 6 (l.map bv)) (hb : ∀ x ∈ l, x < 256) :
    Calls Try.prog 37 #[.slice A 6 c] w fun e w' => e = .returned (.int .i64 (ofSix l)) ∧ w' = w := by
  obtain ⟨g, o, rfl, hg, hc⟩ := hr.2 (by omega)
  have Hc := Lib.hid hc
  have Hl := Lib.hid hl
  have Hb := Lib.hid hb
  clear hr hc hl hb
  go_enter Try.func37, Try.ntmps37
  go_wp2_with fail
  go_loopg [3, 4] 6 (fun qq v i wr => ∃ j : Nat, qq + j = 6 ∧ v = .int .i64 (ofSix (l.take j)) ∧ i = .int .i64 j ∧ wr = w)
  case atStart => exact ⟨0, by omega, rfl, rfl, rfl⟩
  case round =>
    obtain ⟨j, hj, rfl, rfl, hw⟩ := hrel
    obtain rfl := hw.symm
    by_cases hlt : j < 6
    · have hi0 : (0 : Int) ≤ (j : Int) := by omega
      have hi1 : (j : Int) < 6 := by omega
      obtain ⟨x, hx⟩ : ∃ x, l[j]? = some x := ⟨_, List.getElem?_eq_getElem (by have := Hl.out; omega)⟩
      have hx256 := Hb.out x (List.mem_of_getElem? hx)
      have c0 := Hc.out j (bv x) (by rw [List.getElem?_map, hx]; rfl)
      unfold bv at c0
      obtain ⟨m, hm⟩ : ∃ m, m = ofSix (l.take j) := ⟨_, rfl⟩
      have hmlt : m < 1099511627776 := by rw [hm]; exact ofSix_lt Hb.out j (by omega)
      have Hnx : Hid (ofSix (l.take (j + 1)) = 256 * m + x) := by rw [hm]; exact ofSix_take hx
      rw [← hm]
      clear hm hx
      go_wp2_with fail
      go_roundg (gk - 1)
      case measure => omega
      case rel => exact ⟨j + 1, by omega, by rw [Hnx.out]; go_num, by go_num, rfl⟩
    · obtain rfl : j = 6 := by omega
      have hi0 : ¬ (6 : Int) < 6 := by omega
      have Hfin : Hid (l.take 6 = l) := List.take_of_length_le (by have := Hl.out; omega)
      clear hlt hj
      go_wp2_with fail
      go_ret
      rw [Hfin.out]
      exact ⟨rfl, rfl⟩
theorem own_blk' {W : World} {base e k n : Nat} {v : Value} {xs : List Value} (h : W.ownsRow base e k v n xs) : ∀ g, v.ownBlock = some g → base ≤ g ∧ g < W.heap.size := by
  intro g hg
  rcases h.2 with ⟨rfl, _⟩ | ⟨g', cap, cur, rfl, hb, hc, _⟩
  · simp [Value.ownBlock] at hg
  · simp [Value.ownBlock] at hg
    subst hg
    exact ⟨hb, (Array.getElem?_eq_some_iff.1 hc).1⟩
theorem mod_eq (x : Nat) : ((x : Int) % 2 == 1) = decide (x % 2 = 1) := by
  rw [Bool.eq_iff_iff, beq_iff_eq, decide_eq_true_eq]; omega
theorem div_eq (x : Nat) : ((x : Int) / 2 % 2 == 1) = decide (x / 2 % 2 = 1) := by
  rw [Bool.eq_iff_iff, beq_iff_eq, decide_eq_true_eq]; omega
theorem lat_cells (x t : Nat) : [Value.bool ((x : Int) % 2 == 1), .int .i64 t, .bool ((x : Int) / 2 % 2 == 1)] = (latchOf x t).cells := by
  rw [mod_eq, div_eq]; rfl
/-- latches are made -/
theorem lats_next (l : List Nat) (j : Nat) : (lats l (j + 1)).flatMap Lt.cells = (lats l j).flatMap Lt.cells ++ (latAt l j).cells := by
  unfold lats
  rw [List.range_succ, List.map_append, List.flatMap_append]
  simp

def LtsPost (w : World) (l : List Lt) (e : Ending) (w' : World) : Prop :=
  ∃ A c, e = .returned (.slice A l.length c) ∧ w'.ownsRow w.heap.size 61 3 (.slice A l.length c) l.length (l.flatMap Lt.cells) ∧ Below w.heap.size w w'
theorem lats_len (l : List Nat) (j : Nat) : (lats l j).length = j := by unfold lats; simp
set_option maxHeartbeats 8000000 in
theorem unlatches_any (A : Option Addr) (n c B many : Nat) (l : List Nat) (w : World) (hr : Rd w B 1 A n (l.map bv)) (hB : B ≤ w.heap.size) (hb : ∀ x ∈ l, x < 256) (hm : many ≤ 8) (hn : 7 * many ≤ n) (hnc : n ≤ c) (hcm : c ≤ maxLen) :
    Calls Try.prog 36 #[.slice A n c, .int .i64 many] w (LtsPost w (lats l many)) := by
  have hll : l.length = n := by have := hr.1; simpa using this
  have hn63 : n ≤ 9223372036854775807 := by unfold maxLen at hcm; omega
  have hc63 : c ≤ 9223372036854775807 := by unfold maxLen at hcm; omega
  obtain ⟨i0, hi, hz0, hz1, hz2⟩ := info_parts info_lt
  have Hr := Lib.hid hr
  have Hb := Lib.hid hb
  have Hll := Lib.hid hll
  clear hr hb hll
  go_enter Try.func36, Try.ntmps36
  go_wp2_with fail
  go_loopg [5, 6] many (fun qq v i wr => ∃ (j co : Nat) (Ao : Option Addr), qq + j = many ∧ v = .slice Ao j co ∧ i = .int .i64 j ∧ wr.ownsRow w.heap.size 61 3 (.slice Ao j co) j ((lats l j).flatMap Lt.cells) ∧ Below w.heap.size w wr)
  case atStart => exact ⟨0, 0, none, by omega, rfl, rfl, World.ownsRow_nil _ _ _ _, Below.refl _ _⟩
  case round =>
    obtain ⟨j, co, Ao, hj, rfl, rfl, hown, hbel⟩ := hrel
    have Hown := Lib.hid hown
    have Hbel := Lib.hid hbel
    clear hown hbel
    by_cases hlt : j < many
    · have hi0 : (0 : Int) ≤ (j : Int) := by omega
      have hi1 : (j : Int) < (many : Int) := by omega
      have hi2 : (j : Int) ≤ 7 := by omega
      have hi3 : 7 * (j : Int) + 7 ≤ (n : Int) := by omega
      have hi4 : (n : Int) ≤ (c : Int) := by omega
      have hrr := Hr.out.below (Hbel.out.mono hB)
      obtain ⟨g, o, rfl, hgB, hc⟩ := hrr.2 (by omega)
      obtain ⟨x, hx⟩ : ∃ x, l[7 * j]? = some x := ⟨_, List.getElem?_eq_getElem (by have := Hll.out; omega)⟩
      have hx256 := Hb.out x (List.mem_of_getElem? hx)
      have c0 := hc (7 * j) (bv x) (by rw [List.getElem?_map, hx]; rfl)
      unfold bv at c0
      have Hx : Hid (l.getD (7 * j) 0 = x) := by show _ = _; rw [List.getD_eq_getElem?_getD, hx]; rfl
      have Hpc := Lib.hid (hrr.piece (7 * j + 1) 6 (by omega))
      obtain ⟨sx, hsx⟩ : ∃ sx, sx = (l.drop (7 * j + 1)).take 6 := ⟨_, rfl⟩
      have Hsx := Lib.hid hsx
      have hsl : sx.length = 6 := by rw [hsx, List.length_take, List.length_drop, Hll.out]; omega
      have hsb : ∀ y ∈ sx, y < 256 := fun y hy => Hb.out y (List.mem_of_mem_drop (List.mem_of_mem_take (hsx ▸ hy)))
      have Hsl := Lib.hid (And.intro hsl hsb)
      clear hc hrr hx hsl hsb hsx
      go_wp2_with (first
        | (go_at_call 37; (with_reducible refine (unsix_any _ _ B sx _ Hsl.out.1 (by rw [Hsx.out]; exact Hpc.out) Hsl.out.2).mono ?_)
           rintro e w2 ⟨rfl, hw2⟩
           obtain rfl := hw2.symm
           have hlit := own_new wr 61 3 1 [.bool ((x : Int) % 2 == 1), .int .i64 (ofSix sx), .bool ((x : Int) / 2 % 2 == 1)] (by unfold maxLen; omega) rfl
           have Hlit := Lib.hid (Rd.of_own hlit)
           have Hce : Hid ([Value.bool ((x : Int) % 2 == 1), .int .i64 (ofSix sx), .bool ((x : Int) / 2 % 2 == 1)] = (latAt l j).cells) := by
             show _ = _
             unfold latAt
             rw [Hx.out, ← Hsx.out]
             exact lat_cells x (ofSix sx)
           clear hlit)
        | (at_builtin
           refine wpList_app _ rfl (.tmp 18) (.tmp 36) 22 rfl w.heap.size 61 i0 (.agg #[.bool false, .int .i64 0, .bool false]) 3 24 Try.underlying22 hi hz0 hz1 hz2 rfl (by omega) (.slice Ao j co) j ((lats l j).flatMap Lt.cells) rfl (own_below Hown.out (al_ wr _)) _ (some ⟨wr.heap.size, 0, none⟩) 1 1 _ rfl Hlit.out (fun u hu => by simp at hu; rcases hu with rfl | rfl | rfl <;> rfl) ?g1 ?g2 ?g3 ?_
           case g1 => unfold maxLen; omega
           case g2 => omega
           case g3 => exact Nat.le_trans Hbel.out.size (al_ wr _).size
           intro v' w3 hown3 hg3 hat3
           rw [Hce.out, ← lats_next] at hown3
           obtain ⟨A3, c3, rfl⟩ := own_shape hown3
           have HB3 : Hid (Below w.heap.size w w3) := (Hbel.out.trans ((al_ wr _).mono Hbel.out.size)).grown hg3 (Nat.le_trans Hbel.out.size (al_ wr _).size) (fun q hq => (own_blk' Hown.out q hq).1)
           have HO3 := Lib.hid hown3
           clear hown3 hg3 hat3 Hlit Hce))
      go_roundg (gk - 1)
      case measure => omega
      case rel => exact ⟨j + 1, _, _, by omega, rfl, by go_num, HO3.out, HB3.out⟩
    · obtain rfl : j = many := by omega
      have hi0 : ¬ (j : Int) < (j : Int) := by omega
      clear hlt hj
      go_wp2_with fail
      go_ret
      refine ⟨Ao, co, ?_, ?_, Hbel.out⟩
      · rw [lats_len]; rfl
      · rw [lats_len]; exact Hown.out
end Go.Proofs.Ytcdgaeenfhpnkaa
/- The document's reader of a record, walked. -/
set_option linter.unusedVariables false
set_option linter.unusedSimpArgs false
set_option maxRecDepth 100000
namespace Go.Proofs.Ytcdgaeenfhpnkaa
open Go Go.RowKit
attribute [local go_sem] Oper.semAt_some

theorem bstr_inj {a b : List Nat} (ha : ∀ x ∈ a, x < 256) (hb : ∀ x ∈ b, x < 256) (h : bstr a = bstr b) : a = b := by
  unfold bstr at h
  injection h with h
  have h' : a.map UInt8.ofNat = b.map UInt8.ofNat := by simpa using h
  clear h
  induction a generalizing b with
  | nil => cases b with
    | nil => rfl
    | cons y b => simp at h'
  | cons x a ih => cases b with
    | nil => simp at h'
    | cons y b =>
      simp only [List.map_cons, List.cons.injEq] at h'
      have h1 := ha x (by simp)
      have h2 := hb y (by simp)
      have h3 : x = y := by
        have := congrArg UInt8.toNat h'.1
        simp only [UInt8.toNat_ofNat'] at this
        omega
      rw [h3, ih (fun z hz => ha z (List.mem_cons_of_mem _ hz)) (fun z hz => hb z (List.mem_cons_of_mem _ hz)) h'.2]
theorem ref_fin {fn : Func} {tmps : Array Value} {w w' : World} {p u v : Tmp} {b : List Nat} (hf : fn.results = #[.cell p 25, .tmp u, .tmp v]) (hp : tmps.getD p undef = .pointer (some ⟨w.heap.size, 0, none⟩)) (hu : tmps.getD u undef = .slice none 0 0) (hv : tmps.getD v undef = .bool false)
    (hx : w'.heap[w.heap.size]? = some (.cells #[.slice none 0 0, .slice none 0 0, .slice none 0 0] 25)) (hb : Below w.heap.size w w') (hr : readV b = (⟨[], [], []⟩, [], false)) :
    bodyPost Try.prog fn (ReadP w (readV b)) .ret ⟨tmps, []⟩ w' := by
  refine bodyPost_ret (results_ctt hf _ _ w.heap.size #[.slice none 0 0, .slice none 0 0, .slice none 0 0] hp (run_loadVar_row _ w.heap.size 25 25 _ (0, 0) _ hx Try.underlying25 rfl (by kernel_rfl))) rfl ?_
  rw [hr]
  dsimp only
  rw [hu, hv]
  exact ⟨zV, none, 0, 0, rfl, StO.nil_ _ _, World.ownsRow_nil _ _ _ _, rfl, hb⟩
set_option maxHeartbeats 4000000 in
theorem ref_short (A : Option Addr) (n c B : Nat) (b : List Nat) (w : World) (hr : Rd w B 1 A n (b.map bv)) (hb : ∀ x ∈ b, x < 256) (hn : n < 3) :
    Calls Try.prog 11 #[.slice A n c] w (ReadP w (readV b)) := by
  have hll : b.length = n := by have := hr.1; simpa using this
  have Hno : Hid (readV b = (⟨[], [], []⟩, [], false)) := ref_no hb (fun h => by have := h.1.1; omega)
  have hnI : (n : Int) < 3 := by omega
  clear hr hll
  go_enter Try.func11, Try.ntmps11
  go_wp2_with fail
  exact ref_fin rfl rfl rfl rfl (heap_alloc_keep _ (heap_alloc_new w _)) ((al_ w _).trans ((al_ _ _).mono (by rw [World.size_alloc]; omega))) Hno.out
theorem bytes_at {A : Option Addr} {n B : Nat} {b : List Nat} {w : World} (hr : Rd w B 1 A n (b.map bv)) (hn : 0 < n) : ∃ g o, A = some ⟨g, o, none⟩ ∧ g < B ∧ ∀ (i x : Nat), b[i]? = some x → ∀ w', Below B w w' → w'.cell? ⟨g, o + i, none⟩ = some (.int .u8 x) := by
  obtain ⟨g, o, rfl, hg, hc⟩ := hr.2 hn
  refine ⟨g, o, rfl, hg, fun i x hx w' hw => ?_⟩
  have h0 := hc i (bv x) (by rw [List.getElem?_map, hx]; rfl)
  exact (hw.cell (p := ⟨g, o + i, none⟩) hg).trans h0
set_option maxHeartbeats 8000000 in
theorem ref_bad (A : Option Addr) (n c : Nat) (b : List Nat) (w : World) (hr : Rd w w.heap.size 1 A n (b.map bv)) (hb : ∀ x ∈ b, x < 256) (hn : 3 ≤ n) (hn2 : n ≤ 3000) (hno : ¬ refOk b) :
    Calls Try.prog 11 #[.slice A n c] w (ReadP w (readV b)) := by
  have hll : b.length = n := by have := hr.1; simpa using this
  have Hno : Hid (readV b = (⟨[], [], []⟩, [], false)) := ref_no hb (fun h => hno h.1)
  obtain ⟨g, o, rfl, hgl, hby⟩ := bytes_at hr (by omega)
  have get : ∀ i, i < n → b[i]? = some (b.getD i 0) := fun i hi => by rw [List.getD_eq_getElem?_getD, List.getElem?_eq_getElem (by omega)]; rfl
  have lt : ∀ i, i < n → b.getD i 0 < 256 := fun i hi => hb _ (List.mem_of_getElem? (get i hi))
  have c0 := hby 0 _ (get 0 (by omega)) w (Below.refl _ _)
  have c1 := hby 1 _ (get 1 (by omega)) w (Below.refl _ _)
  rw [Nat.add_zero] at c0
  obtain ⟨k, hk⟩ : ∃ k, k = refC b := ⟨_, rfl⟩
  obtain ⟨e, he⟩ : ∃ e, e = refE b := ⟨_, rfl⟩
  have l0 : k < 256 := by rw [hk]; exact lt 0 (by omega)
  have l1 : e < 256 := by rw [he]; exact lt 1 (by omega)
  have hnI : 3 ≤ (n : Int) := by omega
  have hnJ : (n : Int) ≤ 3000 := by omega
  have c0' : w.cell? ⟨g, o, none⟩ = some (.int .u8 k) := by rw [hk]; exact c0
  have c1' : w.cell? ⟨g, o + 1, none⟩ = some (.int .u8 e) := by rw [he]; exact c1
  obtain ⟨at_, hat⟩ : ∃ a, a = refAt b := ⟨_, rfl⟩
  have hat2 : at_ = 2 + 7 * (k + e) + 6 * k := by rw [hat, hk, he]; rfl
  have cases4 : 8 < (k : Int) ∨ ¬ 8 < (k : Int) ∧ 8 < (e : Int) ∨ ¬ 8 < (k : Int) ∧ ¬ 8 < (e : Int) ∧ (n : Int) < (at_ : Int) + 1 ∨
      ¬ 8 < (k : Int) ∧ ¬ 8 < (e : Int) ∧ ¬ (n : Int) < (at_ : Int) + 1 := by omega
  rcases cases4 with h1 | ⟨h1, h2⟩ | ⟨h1, h2, h3⟩ | ⟨h1, h2, h3⟩
  · clear c0 c1 get lt hby hk he hat hno hr hll hat2 hn2 hnJ
    go_enter Try.func11, Try.ntmps11
    go_wp2_with fail
    exact ref_fin rfl rfl rfl rfl (heap_alloc_keep _ (heap_alloc_new w _)) ((al_ w _).trans ((al_ _ _).mono (by rw [World.size_alloc]; omega))) Hno.out
  · clear c0 c1 get lt hby hk he hat hno hr hll hat2 hn2 hnJ
    go_enter Try.func11, Try.ntmps11
    go_wp2_with fail
    exact ref_fin rfl rfl rfl rfl (heap_alloc_keep _ (heap_alloc_new w _)) ((al_ w _).trans ((al_ _ _).mono (by rw [World.size_alloc]; omega))) Hno.out
  · have ha2 : 2 + 7 * ((k : Int) + (e : Int)) + 6 * (k : Int) = (at_ : Int) := by omega
    clear c0 c1 get lt hby hk he hat hno hr hll hat2
    go_enter Try.func11, Try.ntmps11
    go_wp2_with fail
    exact ref_fin rfl rfl rfl rfl (heap_alloc_keep _ (heap_alloc_new w _)) ((al_ w _).trans ((al_ _ _).mono (by rw [World.size_alloc]; omega))) Hno.out
  · have hax : at_ < n := by omega
    have ca := hby at_ _ (get at_ hax) w (Below.refl _ _)
    obtain ⟨m, hm⟩ : ∃ m, m = refN b := ⟨_, rfl⟩
    have lm : m < 256 := by rw [hm]; unfold refN; rw [← hat]; exact lt at_ hax
    have ca' : w.cell? ⟨g, o + at_, none⟩ = some (.int .u8 m) := by rw [hm]; unfold refN; rw [← hat]; exact ca
    have hne : (n : Int) ≠ at_ + 1 + 8 * m := fun h => hno ⟨by omega, by omega, by omega, by omega, by omega⟩
    have ha2 : 2 + 7 * ((k : Int) + (e : Int)) + 6 * (k : Int) = (at_ : Int) := by omega
    have h4 : (at_ : Int) + 1 ≤ n := by omega
    have hne2 : ((n : Int) != (at_ : Int) + 1 + 8 * (m : Int)) = true := by rw [bne_iff_ne]; exact hne
    clear c0 c1 ca get lt hby hk he hat hm hno hr hll h3 hat2 hne
    go_enter Try.func11, Try.ntmps11
    go_wp2_with fail
    exact ref_fin rfl rfl rfl rfl (heap_alloc_keep _ (heap_alloc_new w _)) ((al_ w _).trans ((al_ _ _).mono (by rw [World.size_alloc]; omega))) Hno.out
end Go.Proofs.Ytcdgaeenfhpnkaa
