/- CrcZero, walked: the sum of what is sealed is 0; sums of bytes that are alike in length, and of their xor, come to that of zeros. -/
import Derived.Test.YtdbibnojeefbpaaCrcHead
import Derived.BigRegion
set_option linter.unusedVariables false
set_option linter.unusedSimpArgs false
set_option maxRecDepth 100000
namespace Go.Proofs.Ytdbibnojeefbpaa
open Go Go.RowKit CrcMath

set_option maxHeartbeats 2000000 in
theorem zero_great (A B : Option Addr) (n c m d : Nat) (w : World) (hn : 9000 < n) (hm : 9000 < m) (hn2 : n ≤ 9223372036854775807) (hm2 : m ≤ 9223372036854775807) :
    Calls Try.prog 6 #[.slice A n c, .slice B m d] w fun e w' => e = .returned (.bool true) ∧ Below w.heap.size w w' := by
  go_enter Try.func6, Try.ntmps6
  go_wp2_with (go_at_call 9; (with_reducible refine (head_any _).mono ?_); rintro e w1 ⟨rfl, hb1⟩)
  all_goals
    go_ret
    exact ⟨rfl, hb1⟩

def Xor (la lb : List Nat) (n : Nat) : List Nat := List.zipWith (· ^^^ ·) (la.take n) (lb.take n)
theorem xor_len (la lb : List Nat) (n : Nat) (ha : n ≤ la.length) (hb : n ≤ lb.length) : (Xor la lb n).length = n := by simp [Xor]; omega
theorem xor_step (la lb : List Nat) (n j x y : Nat) (ha : n ≤ la.length) (hb : n ≤ lb.length) (hj : j < n) (hx : la[j]? = some x) (hy : lb[j]? = some y) :
    (((Xor la lb n).take j).map bv ++ List.replicate (n - j) (Value.int .u8 0)).set j (bv (x ^^^ y)) = ((Xor la lb n).take (j + 1)).map bv ++ List.replicate (n - (j + 1)) (Value.int .u8 0) := by
  have hl := xor_len la lb n ha hb
  have hg : (Xor la lb n)[j]? = some (x ^^^ y) := by
    unfold Xor
    rw [List.getElem?_zipWith, List.getElem?_take, List.getElem?_take, if_pos hj, if_pos hj, hx, hy]
  apply List.ext_getElem?
  intro i
  rw [List.getElem?_set]
  by_cases e : j = i
  · subst e
    rw [if_pos rfl, if_pos (by simp; omega), List.getElem?_append_left (by simp; omega)]
    simp [hg]
  · rw [if_neg e]
    by_cases hi : i < j
    · rw [List.getElem?_append_left (by simp; omega), List.getElem?_append_left (by simp; omega)]
      simp [List.getElem?_take, hi, show i < j + 1 by omega]
    · rw [List.getElem?_append_right (by simp; omega), List.getElem?_append_right (by simp; omega)]
      simp only [List.length_map, List.length_take, List.getElem?_replicate]
      by_cases hi2 : i < n
      · rw [if_pos (by omega), if_pos (by omega)]
      · rw [if_neg (by omega), if_neg (by omega)]

theorem zip_self (l : List Nat) : List.zipWith (· ^^^ ·) l l = List.replicate l.length 0 := by
  induction l with
  | nil => rfl
  | cons a l ih => simp only [List.zipWith_cons_cons, Nat.xor_self, ih, List.length_cons, List.replicate_succ]
theorem zip_back : ∀ (a b : List Nat), a.length = b.length → List.zipWith (· ^^^ ·) (List.zipWith (· ^^^ ·) a b) a = b := by
  intro a
  induction a with
  | nil => intro b h; have : b = [] := List.eq_nil_of_length_eq_zero (by simpa using h.symm); subst this; rfl
  | cons x a ih =>
    intro b h
    cases b with
    | nil => simp at h
    | cons y b =>
      simp only [List.zipWith_cons_cons]
      rw [ih b (by simpa using h), Nat.xor_comm x y, Nat.xor_assoc, Nat.xor_self, Nat.xor_zero]
theorem sum_three (a b : List Nat) (n : Nat) (ha : a.length = n) (hb : b.length = n) : (sum (List.zipWith (· ^^^ ·) a b) ^^^ sum a) ^^^ sum b = sum (List.replicate n 0) := by
  have hlen : (List.zipWith (· ^^^ ·) a b).length = n := by simp; omega
  have h1 := crc_xor (List.zipWith (· ^^^ ·) a b) a 65535 65535 (by omega)
  have h2 := crc_xor (List.zipWith (· ^^^ ·) (List.zipWith (· ^^^ ·) a b) a) b (65535 ^^^ 65535) 65535 (by simp; omega)
  unfold sum
  rw [← h1, ← h2, zip_back a b (by omega), zip_self, hb]
  simp

set_option maxHeartbeats 8000000 in
theorem zero_a (A B : Option Addr) (n c nb d : Nat) (la lb : List Nat) (w : World) (hra : Rd w w.heap.size 1 A n (la.map bv)) (hba : ∀ c ∈ la, c < 256) (hca : n ≤ c)
    (hrb : Rd w w.heap.size 1 B nb (lb.map bv)) (hbb : ∀ c ∈ lb, c < 256) (hcb : nb ≤ d) (hn : n ≤ 9000) (hna : n ≤ n) (hnb : n ≤ nb) (hstrict : True) (hle : n ≤ 9223372036854775807) (hle2 : nb ≤ 9223372036854775807) :
    Calls Try.prog 6 #[.slice A n c, .slice B nb d] w fun e w' => e = .returned (.bool true) ∧ Below w.heap.size w w' := by
  have hla : la.length = n := by have := hra.1; simpa using this
  have hlb : lb.length = nb := by have := hrb.1; simpa using this
  have h0 : ¬ (9000 : Int) < (n : Int) := by omega
  obtain ⟨i0, hi, hz0, hz1, hz2⟩ := info_parts info_u8
  go_enter Try.func6, Try.ntmps6
  go_wp2_with (first
    | (go_at_call 9; (with_reducible refine (head_any _).mono ?_)
       rintro e w1 ⟨rfl, hb1⟩
       have hsz1 := hb1.size)
    | (with_reducible refine wpList_mk _ rfl (.tmp 18) (.tmp 18) 22 rfl w.heap.size 5 i0 (.int .u8 0) Try.underlying22 hi hz0 hz1 rfl .i64 .i64 _ _ n n rfl rfl rfl rfl ?e2 ?e3 ?e4 hsz1 ?_))
  case e2 => exact Nat.le_refl _
  case e3 => rw [hz2]; omega
  case e4 => unfold maxLen; omega
  intro w2 hown2 hg2
  have hb2 : Below w.heap.size w w2 := hb1.grown hg2 hsz1 (by simp)
  have hb12 : Below w1.heap.size w1 w2 := (Below.refl _ _).grown hg2 (Nat.le_refl _) (by simp)
  have hown2' : w2.ownsRow w1.heap.size 5 1 (.slice (some ⟨w1.heap.size, 0, none⟩) n n) n (List.replicate n (.int .u8 0)) := by
    obtain ⟨q1, q2⟩ := hown2
    refine ⟨q1, ?_⟩
    rcases q2 with q2 | ⟨g, cap, cur, hv, hg, r⟩
    · exact .inl q2
    · refine .inr ⟨g, cap, cur, hv, ?_, r⟩
      injection hv with hv
      injection hv with hv
      injection hv with hv
      omega
  clear hg2 hb12 hown2
  go_wp2_with fail
  go_loopg [8] n (fun k i wr => ∃ j : Nat, k + j = n ∧ i = .int .i64 j ∧ wr.ownsRow w1.heap.size 5 1 (.slice (some ⟨w1.heap.size, 0, none⟩) n n) n (((Xor la lb n).take j).map bv ++ List.replicate (n - j) (.int .u8 0)) ∧ Below w.heap.size w wr)
  case atStart => exact ⟨0, by omega, rfl, by simpa using hown2', hb2⟩
  case round =>
    obtain ⟨j, hj, rfl, hown, hbr⟩ := hrel
    by_cases hlt : j < n
    · obtain ⟨_, g, hgg, hgb, hgl, hcell, hfr⟩ := own_some hown (by omega)
      injection hgg with hgg
      injection hgg with hgg
      subst hgg
      obtain ⟨ba, oa, rfl, hba2, hca2⟩ := (hra.below hbr).2 (by omega)
      obtain ⟨bb, ob, rfl, hbb2, hcb2⟩ := (hrb.below hbr).2 (by omega)
      obtain ⟨x, hx⟩ : ∃ x, la[j]? = some x := ⟨_, List.getElem?_eq_getElem (by omega)⟩
      obtain ⟨y, hy⟩ : ∃ y, lb[j]? = some y := ⟨_, List.getElem?_eq_getElem (by omega)⟩
      have hxx := hba _ (List.mem_of_getElem? hx)
      have hyy := hbb _ (List.mem_of_getElem? hy)
      have hcx : wr.cell? ⟨ba, oa + j, none⟩ = some (.int .u8 (x : Int)) := hca2 j (bv x) (by rw [List.getElem?_map, hx]; rfl)
      have hcy : wr.cell? ⟨bb, ob + j, none⟩ = some (.int .u8 (y : Int)) := hcb2 j (bv y) (by rw [List.getElem?_map, hy]; rfl)
      have hcz : wr.cell? ⟨w1.heap.size, j, none⟩ = some (.int .u8 0) := hcell j (.int .u8 0) (by
        rw [List.getElem?_append_right (by simp; omega)]
        simp only [List.length_map, List.length_take, List.getElem?_replicate]
        have := xor_len la lb n (by omega) (by omega)
        rw [if_pos (by omega)])
      have hfz := hfr j
      obtain ⟨z, hz⟩ : ∃ z, z = x ^^^ y := ⟨_, rfl⟩
      have f0 : bits .xor .u8 (x : Int) (y : Int) = (z : Int) := by rw [hz]; exact u8_xor_nat x y hxx hyy
      have hown' := own_stored hown j (bv z)
      rw [hz, xor_step la lb n j x y (by omega) (by omega) hlt hx hy, ← hz] at hown'
      have hbr' := hbr.setCell (p := ⟨w1.heap.size, j, none⟩) hsz1 (bv z)
      have hj0 : (0 : Int) ≤ (j : Int) := by omega
      have hj1 : (j : Int) < (n : Int) := by omega
      have hj2 : (j : Int) < (n : Int) := by omega
      have hj3 : (j : Int) < (nb : Int) := by omega
      clear hx hy hz hcell hfr hown hbr hca2 hcb2 hra hrb
      unfold bv at hown' hbr'
      go_wp2_with fail
      go_region
      all_goals
        go_wp2_with fail
        go_roundg (n - (j + 1))
        case measure => omega
        case rel => exact ⟨j + 1, by omega, by go_num, hown', hbr'.drew⟩
    · obtain rfl : j = n := by omega
      have hxl := xor_len la lb j (by omega) (by omega)
      rw [Nat.sub_self, List.replicate_zero, List.append_nil, List.take_of_length_le (by omega)] at hown
      have hraw : Rd wr wr.heap.size 1 A j ((la.take j).map bv) := by
        have := ((hra.below hbr).more hbr.size).take_ (k := j) (by omega)
        rwa [Nat.mul_one, ← List.map_take] at this
      have hrbw : Rd wr wr.heap.size 1 B j ((lb.take j).map bv) := by
        have := ((hrb.below hbr).more hbr.size).take_ (k := j) (by omega)
        rwa [Nat.mul_one, ← List.map_take] at this
      have hrx : Rd wr wr.heap.size 1 (some ⟨w1.heap.size, 0, none⟩) j ((Xor la lb j).map bv) := Rd.of_own hown
      have hta : ∀ c ∈ la.take j, c < 256 := fun c hc => hba c (List.mem_of_mem_take hc)
      have htb : ∀ c ∈ lb.take j, c < 256 := fun c hc => hbb c (List.mem_of_mem_take hc)
      have htx : ∀ c ∈ Xor la lb j, c < 256 := by
        intro c hc
        obtain ⟨i, hi1, rfl⟩ := List.mem_iff_getElem.1 hc
        simp only [Xor, List.getElem_zipWith]
        exact Nat.xor_lt_two_pow (n := 8) (hta _ (List.getElem_mem _)) (htb _ (List.getElem_mem _))
      obtain ⟨sx, hsx⟩ : ∃ s, s = sum (Xor la lb j) := ⟨_, rfl⟩
      obtain ⟨sa, hsa⟩ : ∃ s, s = sum (la.take j) := ⟨_, rfl⟩
      obtain ⟨sb, hsb⟩ : ∃ s, s = sum (lb.take j) := ⟨_, rfl⟩
      obtain ⟨sz, hsz⟩ : ∃ s, s = sum (List.replicate j 0) := ⟨_, rfl⟩
      have hsxl : sx < 65536 := by rw [hsx]; exact sum_lt _ htx
      have hsal : sa < 65536 := by rw [hsa]; exact sum_lt _ hta
      have hsbl : sb < 65536 := by rw [hsb]; exact sum_lt _ htb
      obtain ⟨t1, ht1⟩ : ∃ t, t = sx ^^^ sa := ⟨_, rfl⟩
      have ht1l : t1 < 65536 := by rw [ht1]; exact xor_lt _ _ hsxl hsal
      have g1 : bits .xor .u16 (sx : Int) (sa : Int) = (t1 : Int) := by rw [ht1]; exact u16_xor_nat _ _ hsxl hsal
      have hfin : t1 ^^^ sb = sz := by
        rw [ht1, hsx, hsa, hsb, hsz]
        exact sum_three (la.take j) (lb.take j) j (by simp; omega) (by simp; omega)
      have g2 : bits .xor .u16 (t1 : Int) (sb : Int) = (sz : Int) := by rw [← hfin]; exact u16_xor_nat _ _ ht1l hsbl
      have hb0z : ∀ c ∈ List.replicate j 0, c < 256 := by intro c hc; simp at hc; omega
      have hzr : List.replicate j (Value.int .u8 0) = (List.replicate j 0).map bv := by simp [bv]
      have Hs := Lib.hid (And.intro hsx (And.intro hsa (And.intro hsb hsz)))
      have hj0 : (0 : Int) ≤ (j : Int) := by omega
      have hj2 : (j : Int) ≤ (c : Int) := by omega
      have hj3 : (j : Int) ≤ (d : Int) := by omega
      have hjj : j ≤ 9223372036854775807 := by omega
      have hcj : j ≤ c := by omega
      have hdj : j ≤ d := by omega
      clear hsx hsa hsb hsz ht1 hfin hown hown2' hb1 hb2 hra hrb
      go_wp2_with fail
      refine startH (fun w' => Below wr.heap.size wr w') 28 #[false, false, false, false, false, false, false, false, false, false, false, false, false, false, false, false, false, false, false, false, false, false, false, false, false, false, false, false] rfl rfl (by kernel_rfl) ?_ (fun hHeld => ?_)
      · (first | exact (Below.refl _ _).drew | assumption)
      refine takeH 0 37 #[true, false, false, false, false, false, false, false, false, false, false, false, false, false, false, false, false, false, false, false, false, false, false, false, false, false, false, false] (v := ?_) rfl rfl rfl (by kernel_rfl) (by kernel_rfl) (by kernel_rfl) (fun _ _ _ h => h) (Or.inl ⟨by rfl, ?_⟩) hHeld ?_
      rotate_left
      · (intro w' hSw; (try dsimp only at hSw); go_simp; (try with_reducible rfl))
      simp only [List.set_cons_zero, List.set_cons_succ]
      refine takeH 1 38 #[true, true, false, false, false, false, false, false, false, false, false, false, false, false, false, false, false, false, false, false, false, false, false, false, false, false, false, false] (v := ?_) rfl rfl rfl (by kernel_rfl) (by kernel_rfl) (by kernel_rfl) (fun _ _ _ h => h) (Or.inl ⟨by rfl, ?_⟩) hHeld ?_
      rotate_left
      · (intro w' hSw; (try dsimp only at hSw); go_simp; (try with_reducible rfl))
      simp only [List.set_cons_zero, List.set_cons_succ]
      refine takeH 2 39 #[true, true, true, false, false, false, false, false, false, false, false, false, false, false, false, false, false, false, false, false, false, false, false, false, false, false, false, false] (v := ?_) rfl rfl rfl (by kernel_rfl) (by kernel_rfl) (by kernel_rfl) (fun _ _ _ h => h) (Or.inl ⟨by rfl, ?_⟩) hHeld ?_
      rotate_left
      · (intro w' hSw; (try dsimp only at hSw); go_simp; (try with_reducible rfl))
      simp only [List.set_cons_zero, List.set_cons_succ]
      refine takeH 3 40 #[true, true, true, true, false, false, false, false, false, false, false, false, false, false, false, false, false, false, false, false, false, false, false, false, false, false, false, false] (v := ?_) rfl rfl rfl (by kernel_rfl) (by kernel_rfl) (by kernel_rfl) (fun _ _ _ h => h) (Or.inl ⟨by rfl, ?_⟩) hHeld ?_
      rotate_left
      · (intro w' hSw; (try dsimp only at hSw); go_simp; (try with_reducible rfl))
      simp only [List.set_cons_zero, List.set_cons_succ]
      refine takeH 4 41 #[true, true, true, true, true, false, false, false, false, false, false, false, false, false, false, false, false, false, false, false, false, false, false, false, false, false, false, false] (v := ?_) rfl rfl rfl (by kernel_rfl) (by kernel_rfl) (by kernel_rfl) (fun _ _ _ h => h) (Or.inl ⟨by rfl, ?_⟩) hHeld ?_
      rotate_left
      · (intro w' hSw; (try dsimp only at hSw); go_simp; (try with_reducible rfl))
      simp only [List.set_cons_zero, List.set_cons_succ]
      refine branchH 5 42 #[true, true, true, true, true, true, false, false, false, false, false, false, false, false, false, false, false, false, false, false, false, false, false, false, false, false, false, false] (by kernel_rfl) rfl rfl rfl (by rfl) (fun K hK => ?_)
      go_simp
      (go_at_call 14; (with_reducible refine (seal_any _ j _ wr.heap.size (la.take j) _ (hraw.below hHeld) hHeld.size hta (by omega)).mono ?_))
      rintro e wn ⟨A5, c5, rfl, hown5, hbn⟩
      have hr5 := Rd.of_own hown5
      have hHn := hHeld.trans (hbn.mono hHeld.size)
      refine hK.out _ _ ?_ (fun hHeld' => ?_)
      · (first | exact (Below.refl _ _).drew | assumption)
      clear hK K hHeld
      have hHeld := hHeld'
      clear hHeld'
      simp only [List.set_cons_zero, List.set_cons_succ]
      refine branchH 6 43 #[true, true, true, true, true, true, true, false, false, false, false, false, false, false, false, false, false, false, false, false, false, false, false, false, false, false, false, false] (by kernel_rfl) rfl rfl rfl (by rfl) (fun K hK => ?_)
      go_simp
      (go_at_call 12; (with_reducible refine (sum_any _ (j + 2) _ _ (seal_ (la.take j)) _ hr5 (Nat.le_refl _) (mem_seal _ hta) (by omega)).mono ?_))
      rintro e wn2 ⟨he, hbn2⟩
      rw [sum_seal _ hta] at he
      subst he
      have hHn2 := hHeld.trans (hbn2.mono hHeld.size)
      clear hHn hbn hr5 hown5
      refine hK.out _ _ ?_ (fun hHeld' => ?_)
      · (first | exact (Below.refl _ _).drew | assumption)
      clear hK K hHeld
      have hHeld := hHeld'
      clear hHeld'
      simp only [List.set_cons_zero, List.set_cons_succ]
      refine takeH 7 44 #[true, true, true, true, true, true, true, true, false, false, false, false, false, false, false, false, false, false, false, false, false, false, false, false, false, false, false, false] (v := ?_) rfl rfl rfl (by kernel_rfl) (by kernel_rfl) (by kernel_rfl) (fun _ _ _ h => h) (Or.inl ⟨by rfl, ?_⟩) hHeld ?_
      rotate_left
      · (intro w' hSw; (try dsimp only at hSw); go_simp; (try with_reducible rfl))
      simp only [List.set_cons_zero, List.set_cons_succ]
      refine takeH 8 45 #[true, true, true, true, true, true, true, true, true, false, false, false, false, false, false, false, false, false, false, false, false, false, false, false, false, false, false, false] (v := ?_) rfl rfl rfl (by kernel_rfl) (by kernel_rfl) (by kernel_rfl) (fun _ _ _ h => h) (Or.inl ⟨by rfl, ?_⟩) hHeld ?_
      rotate_left
      · (intro w' hSw; (try dsimp only at hSw); go_simp; (try with_reducible rfl))
      simp only [List.set_cons_zero, List.set_cons_succ]
      refine takeH 9 46 #[true, true, true, true, true, true, true, true, true, true, false, false, false, false, false, false, false, false, false, false, false, false, false, false, false, false, false, false] (v := ?_) rfl rfl rfl (by kernel_rfl) (by kernel_rfl) (by kernel_rfl) (fun _ _ _ h => h) (Or.inl ⟨by rfl, ?_⟩) hHeld ?_
      rotate_left
      · (intro w' hSw; (try dsimp only at hSw); go_simp; (try with_reducible rfl))
      simp only [List.set_cons_zero, List.set_cons_succ]
      refine takeH 10 47 #[true, true, true, true, true, true, true, true, true, true, true, false, false, false, false, false, false, false, false, false, false, false, false, false, false, false, false, false] (v := ?_) rfl rfl rfl (by kernel_rfl) (by kernel_rfl) (by kernel_rfl) (fun _ _ _ h => h) (Or.inl ⟨by rfl, ?_⟩) hHeld ?_
      rotate_left
      · (intro w' hSw; (try dsimp only at hSw); go_simp; (try with_reducible rfl))
      simp only [List.set_cons_zero, List.set_cons_succ]
      refine takeH 12 49 #[true, true, true, true, true, true, true, true, true, true, true, false, true, false, false, false, false, false, false, false, false, false, false, false, false, false, false, false] (v := ?_) rfl rfl rfl (by kernel_rfl) (by kernel_rfl) (by kernel_rfl) (fun _ _ _ h => h) (Or.inl ⟨by rfl, ?_⟩) hHeld ?_
      rotate_left
      · (intro w' hSw; (try dsimp only at hSw); go_simp; (try with_reducible rfl))
      simp only [List.set_cons_zero, List.set_cons_succ]
      refine takeH 13 50 #[true, true, true, true, true, true, true, true, true, true, true, false, true, true, false, false, false, false, false, false, false, false, false, false, false, false, false, false] (v := ?_) rfl rfl rfl (by kernel_rfl) (by kernel_rfl) (by kernel_rfl) (fun _ _ _ h => h) (Or.inl ⟨by rfl, ?_⟩) hHeld ?_
      rotate_left
      · (intro w' hSw; (try dsimp only at hSw); go_simp; (try with_reducible rfl))
      simp only [List.set_cons_zero, List.set_cons_succ]
      refine takeH 14 51 #[true, true, true, true, true, true, true, true, true, true, true, false, true, true, true, false, false, false, false, false, false, false, false, false, false, false, false, false] (v := ?_) rfl rfl rfl (by kernel_rfl) (by kernel_rfl) (by kernel_rfl) (fun _ _ _ h => h) (Or.inl ⟨by rfl, ?_⟩) hHeld ?_
      rotate_left
      · (intro w' hSw; (try dsimp only at hSw); go_simp; (try with_reducible rfl))
      simp only [List.set_cons_zero, List.set_cons_succ]
      refine takeH 17 54 #[true, true, true, true, true, true, true, true, true, true, true, false, true, true, true, false, false, true, false, false, false, false, false, false, false, false, false, false] (v := ?_) rfl rfl rfl (by kernel_rfl) (by kernel_rfl) (by kernel_rfl) (fun _ _ _ h => h) (Or.inl ⟨by rfl, ?_⟩) hHeld ?_
      rotate_left
      · (intro w' hSw; (try dsimp only at hSw); go_simp; (try with_reducible rfl))
      simp only [List.set_cons_zero, List.set_cons_succ]
      refine takeH 18 55 #[true, true, true, true, true, true, true, true, true, true, true, false, true, true, true, false, false, true, true, false, false, false, false, false, false, false, false, false] (v := ?_) rfl rfl rfl (by kernel_rfl) (by kernel_rfl) (by kernel_rfl) (fun _ _ _ h => h) (Or.inl ⟨by rfl, ?_⟩) hHeld ?_
      rotate_left
      · (intro w' hSw; (try dsimp only at hSw); go_simp; (try with_reducible rfl))
      simp only [List.set_cons_zero, List.set_cons_succ]
      refine takeH 19 56 #[true, true, true, true, true, true, true, true, true, true, true, false, true, true, true, false, false, true, true, true, false, false, false, false, false, false, false, false] (v := ?_) rfl rfl rfl (by kernel_rfl) (by kernel_rfl) (by kernel_rfl) (fun _ _ _ h => h) (Or.inl ⟨by rfl, ?_⟩) hHeld ?_
      rotate_left
      · (intro w' hSw; (try dsimp only at hSw); go_simp; (try with_reducible rfl))
      simp only [List.set_cons_zero, List.set_cons_succ]
      refine takeH 22 59 #[true, true, true, true, true, true, true, true, true, true, true, false, true, true, true, false, false, true, true, true, false, false, true, false, false, false, false, false] (v := ?_) rfl rfl rfl (by kernel_rfl) (by kernel_rfl) (by kernel_rfl) (fun _ _ _ h => h) (Or.inl ⟨by rfl, ?_⟩) hHeld ?_
      rotate_left
      · (intro w' hSw; (try dsimp only at hSw); go_simp; (try with_reducible rfl))
      simp only [List.set_cons_zero, List.set_cons_succ]
      refine wpAnyH_ready (rs := [11, 23]) (by kernel_rfl) (by simp) ?_
      refine (consH 11 48 #[true, true, true, true, true, true, true, true, true, true, true, true, true, true, true, false, false, true, true, true, false, false, true, false, false, false, false, false] rfl rfl rfl (by rfl) (fun K hK => ?_) (consH 23 60 #[true, true, true, true, true, true, true, true, true, true, true, false, true, true, true, false, false, true, true, true, false, false, true, true, false, false, false, false] rfl rfl rfl (by rfl) (fun K hK => ?_) AllReadyH.nil))
      · go_simp
        (go_at_call 12; (with_reducible refine (sum_any _ j _ wr.heap.size (Xor la lb j) _ (hrx.below hHeld) hHeld.size htx hjj).mono ?_))
        rintro e wn ⟨he, hbn⟩
        rw [← Hs.out.1] at he
        subst he
        have hHn := hHeld.trans (hbn.mono hHeld.size)
        first | (have hz2 := (hzz.below hbn).more hbn.size; clear hzz; have hzz := hz2; clear hz2) | skip
        refine hK.out _ _ ?_ (fun hHeld' => ?_)
        · (first | exact (Below.refl _ _).drew | assumption)
        clear hK K hHeld
        have hHeld := hHeld'
        clear hHeld'
        simp only [List.set_cons_zero, List.set_cons_succ]
        refine wpAnyH_ready (rs := [15, 23]) (by kernel_rfl) (by simp) ?_
        refine (consH 15 52 #[true, true, true, true, true, true, true, true, true, true, true, true, true, true, true, true, false, true, true, true, false, false, true, false, false, false, false, false] rfl rfl rfl (by rfl) (fun K hK => ?_) (consH 23 60 #[true, true, true, true, true, true, true, true, true, true, true, true, true, true, true, false, false, true, true, true, false, false, true, true, false, false, false, false] rfl rfl rfl (by rfl) (fun K hK => ?_) AllReadyH.nil))
        · go_simp
          (go_at_call 12; (with_reducible refine (sum_any _ j _ wr.heap.size (la.take j) _ (hraw.below hHeld) hHeld.size hta hjj).mono ?_))
          rintro e wn ⟨he, hbn⟩
          rw [← Hs.out.2.1] at he
          subst he
          have hHn := hHeld.trans (hbn.mono hHeld.size)
          first | (have hz2 := (hzz.below hbn).more hbn.size; clear hzz; have hzz := hz2; clear hz2) | skip
          refine hK.out _ _ ?_ (fun hHeld' => ?_)
          · (first | exact (Below.refl _ _).drew | assumption)
          clear hK K hHeld
          have hHeld := hHeld'
          clear hHeld'
          simp only [List.set_cons_zero, List.set_cons_succ]
          refine takeH 16 53 #[true, true, true, true, true, true, true, true, true, true, true, true, true, true, true, true, true, true, true, true, false, false, true, false, false, false, false, false] (v := ?_) rfl rfl rfl (by kernel_rfl) (by kernel_rfl) (by kernel_rfl) (fun _ _ _ h => h) (Or.inl ⟨by rfl, ?_⟩) hHeld ?_
          rotate_left
          · (intro w' hSw; (try dsimp only at hSw); go_simp; (try with_reducible rfl))
          simp only [List.set_cons_zero, List.set_cons_succ]
          refine wpAnyH_ready (rs := [20, 23]) (by kernel_rfl) (by simp) ?_
          refine (consH 20 57 #[true, true, true, true, true, true, true, true, true, true, true, true, true, true, true, true, true, true, true, true, true, false, true, false, false, false, false, false] rfl rfl rfl (by rfl) (fun K hK => ?_) (consH 23 60 #[true, true, true, true, true, true, true, true, true, true, true, true, true, true, true, true, true, true, true, true, false, false, true, true, false, false, false, false] rfl rfl rfl (by rfl) (fun K hK => ?_) AllReadyH.nil))
          · go_simp
            (go_at_call 12; (with_reducible refine (sum_any _ j _ wr.heap.size (lb.take j) _ (hrbw.below hHeld) hHeld.size htb hjj).mono ?_))
            rintro e wn ⟨he, hbn⟩
            rw [← Hs.out.2.2.1] at he
            subst he
            have hHn := hHeld.trans (hbn.mono hHeld.size)
            first | (have hz2 := (hzz.below hbn).more hbn.size; clear hzz; have hzz := hz2; clear hz2) | skip
            refine hK.out _ _ ?_ (fun hHeld' => ?_)
            · (first | exact (Below.refl _ _).drew | assumption)
            clear hK K hHeld
            have hHeld := hHeld'
            clear hHeld'
            simp only [List.set_cons_zero, List.set_cons_succ]
            refine takeH 21 58 #[true, true, true, true, true, true, true, true, true, true, true, true, true, true, true, true, true, true, true, true, true, true, true, false, false, false, false, false] (v := ?_) rfl rfl rfl (by kernel_rfl) (by kernel_rfl) (by kernel_rfl) (fun _ _ _ h => h) (Or.inl ⟨by rfl, ?_⟩) hHeld ?_
            rotate_left
            · (intro w' hSw; (try dsimp only at hSw); go_simp; (try with_reducible rfl))
            simp only [List.set_cons_zero, List.set_cons_succ]
            refine branchH 23 60 #[true, true, true, true, true, true, true, true, true, true, true, true, true, true, true, true, true, true, true, true, true, true, true, true, false, false, false, false] (by kernel_rfl) rfl rfl rfl (by rfl) (fun K hK => ?_)
            refine wp_mk _ (.tmp 59) (.tmp 59) 22 rfl wr.heap.size 5 i0 (.int .u8 0) Try.underlying22 hi hz0 hz1 rfl .i64 .i64 _ _ j j rfl rfl rfl rfl (Nat.le_refl _) (by rw [hz2]; omega) (by unfold maxLen; omega) hHeld.size ?_
            intro wn hownz hgn hsn
            have hHn := hHeld.grown hgn hHeld.size (by simp)
            have hzz := Rd.of_own hownz
            rw [hzr] at hzz
            clear hownz hgn
            refine hK.out _ _ ?_ (fun hHeld' => ?_)
            · (first | exact (Below.refl _ _).drew | assumption)
            clear hK K hHeld
            have hHeld := hHeld'
            clear hHeld'
            simp only [List.set_cons_zero, List.set_cons_succ]
            refine branchH 24 61 #[true, true, true, true, true, true, true, true, true, true, true, true, true, true, true, true, true, true, true, true, true, true, true, true, true, false, false, false] (by kernel_rfl) rfl rfl rfl (by rfl) (fun K hK => ?_)
            go_simp
            (go_at_call 12; (with_reducible refine (sum_any _ j _ _ (List.replicate j 0) _ hzz (Nat.le_refl _) hb0z hjj).mono ?_))
            rintro e wn3 ⟨he, hbn3⟩
            rw [← Hs.out.2.2.2] at he
            subst he
            have hHn3 := hHeld.trans (hbn3.mono hHeld.size)
            refine hK.out _ _ ?_ (fun hHeld' => ?_)
            · (first | exact (Below.refl _ _).drew | assumption)
            clear hK K hHeld
            have hHeld := hHeld'
            clear hHeld'
            simp only [List.set_cons_zero, List.set_cons_succ]
            refine takeH 25 62 #[true, true, true, true, true, true, true, true, true, true, true, true, true, true, true, true, true, true, true, true, true, true, true, true, true, true, false, false] (v := ?_) rfl rfl rfl (by kernel_rfl) (by kernel_rfl) (by kernel_rfl) (fun _ _ _ h => h) (Or.inl ⟨by rfl, ?_⟩) hHeld ?_
            rotate_left
            · (intro w' hSw; (try dsimp only at hSw); go_simp; (try with_reducible rfl))
            simp only [List.set_cons_zero, List.set_cons_succ]
            refine takeH 26 63 #[true, true, true, true, true, true, true, true, true, true, true, true, true, true, true, true, true, true, true, true, true, true, true, true, true, true, true, false] (v := ?_) rfl rfl rfl (by kernel_rfl) (by kernel_rfl) (by kernel_rfl) (fun _ _ _ h => h) (Or.inl ⟨by rfl, ?_⟩) hHeld ?_
            rotate_left
            · (intro w' hSw; (try dsimp only at hSw); go_simp; (try with_reducible rfl))
            simp only [List.set_cons_zero, List.set_cons_succ]
            refine takeH 27 4 #[true, true, true, true, true, true, true, true, true, true, true, true, true, true, true, true, true, true, true, true, true, true, true, true, true, true, true, true] (v := ?_) rfl rfl rfl (by kernel_rfl) (by kernel_rfl) (by kernel_rfl) (fun _ _ _ h => h) (Or.inl ⟨by rfl, ?_⟩) hHeld ?_
            rotate_left
            · (intro w' hSw; (try dsimp only at hSw); go_simp; (try with_reducible rfl))
            simp only [List.set_cons_zero, List.set_cons_succ]
            refine wpAnyH_done (by kernel_rfl) ?_ _
            refine NoPanic.normal ?_
            go_wp2_with fail
            go_ret
            exact ⟨rfl, hbr.trans (hHeld.mono hbr.size)⟩
          · refine wp_mk _ (.tmp 59) (.tmp 59) 22 rfl wr.heap.size 5 i0 (.int .u8 0) Try.underlying22 hi hz0 hz1 rfl .i64 .i64 _ _ j j rfl rfl rfl rfl (Nat.le_refl _) (by rw [hz2]; omega) (by unfold maxLen; omega) hHeld.size ?_
            intro wn hownz hgn hsn
            have hHn := hHeld.grown hgn hHeld.size (by simp)
            have hzz := Rd.of_own hownz
            rw [hzr] at hzz
            clear hownz hgn
            refine hK.out _ _ ?_ (fun hHeld' => ?_)
            · (first | exact (Below.refl _ _).drew | assumption)
            clear hK K hHeld
            have hHeld := hHeld'
            clear hHeld'
            simp only [List.set_cons_zero, List.set_cons_succ]
            refine branchH 20 57 #[true, true, true, true, true, true, true, true, true, true, true, true, true, true, true, true, true, true, true, true, true, false, true, true, false, false, false, false] (by kernel_rfl) rfl rfl rfl (by rfl) (fun K hK => ?_)
            go_simp
            (go_at_call 12; (with_reducible refine (sum_any _ j _ wr.heap.size (lb.take j) _ (hrbw.below hHeld) hHeld.size htb hjj).mono ?_))
            rintro e wn ⟨he, hbn⟩
            rw [← Hs.out.2.2.1] at he
            subst he
            have hHn := hHeld.trans (hbn.mono hHeld.size)
            first | (have hz2 := (hzz.below hbn).more hbn.size; clear hzz; have hzz := hz2; clear hz2) | skip
            refine hK.out _ _ ?_ (fun hHeld' => ?_)
            · (first | exact (Below.refl _ _).drew | assumption)
            clear hK K hHeld
            have hHeld := hHeld'
            clear hHeld'
            simp only [List.set_cons_zero, List.set_cons_succ]
            refine takeH 21 58 #[true, true, true, true, true, true, true, true, true, true, true, true, true, true, true, true, true, true, true, true, true, true, true, true, false, false, false, false] (v := ?_) rfl rfl rfl (by kernel_rfl) (by kernel_rfl) (by kernel_rfl) (fun _ _ _ h => h) (Or.inl ⟨by rfl, ?_⟩) hHeld ?_
            rotate_left
            · (intro w' hSw; (try dsimp only at hSw); go_simp; (try with_reducible rfl))
            simp only [List.set_cons_zero, List.set_cons_succ]
            refine branchH 24 61 #[true, true, true, true, true, true, true, true, true, true, true, true, true, true, true, true, true, true, true, true, true, true, true, true, true, false, false, false] (by kernel_rfl) rfl rfl rfl (by rfl) (fun K hK => ?_)
            go_simp
            (go_at_call 12; (with_reducible refine (sum_any _ j _ _ (List.replicate j 0) _ hzz (Nat.le_refl _) hb0z hjj).mono ?_))
            rintro e wn3 ⟨he, hbn3⟩
            rw [← Hs.out.2.2.2] at he
            subst he
            have hHn3 := hHeld.trans (hbn3.mono hHeld.size)
            refine hK.out _ _ ?_ (fun hHeld' => ?_)
            · (first | exact (Below.refl _ _).drew | assumption)
            clear hK K hHeld
            have hHeld := hHeld'
            clear hHeld'
            simp only [List.set_cons_zero, List.set_cons_succ]
            refine takeH 25 62 #[true, true, true, true, true, true, true, true, true, true, true, true, true, true, true, true, true, true, true, true, true, true, true, true, true, true, false, false] (v := ?_) rfl rfl rfl (by kernel_rfl) (by kernel_rfl) (by kernel_rfl) (fun _ _ _ h => h) (Or.inl ⟨by rfl, ?_⟩) hHeld ?_
            rotate_left
            · (intro w' hSw; (try dsimp only at hSw); go_simp; (try with_reducible rfl))
            simp only [List.set_cons_zero, List.set_cons_succ]
            refine takeH 26 63 #[true, true, true, true, true, true, true, true, true, true, true, true, true, true, true, true, true, true, true, true, true, true, true, true, true, true, true, false] (v := ?_) rfl rfl rfl (by kernel_rfl) (by kernel_rfl) (by kernel_rfl) (fun _ _ _ h => h) (Or.inl ⟨by rfl, ?_⟩) hHeld ?_
            rotate_left
            · (intro w' hSw; (try dsimp only at hSw); go_simp; (try with_reducible rfl))
            simp only [List.set_cons_zero, List.set_cons_succ]
            refine takeH 27 4 #[true, true, true, true, true, true, true, true, true, true, true, true, true, true, true, true, true, true, true, true, true, true, true, true, true, true, true, true] (v := ?_) rfl rfl rfl (by kernel_rfl) (by kernel_rfl) (by kernel_rfl) (fun _ _ _ h => h) (Or.inl ⟨by rfl, ?_⟩) hHeld ?_
            rotate_left
            · (intro w' hSw; (try dsimp only at hSw); go_simp; (try with_reducible rfl))
            simp only [List.set_cons_zero, List.set_cons_succ]
            refine wpAnyH_done (by kernel_rfl) ?_ _
            refine NoPanic.normal ?_
            go_wp2_with fail
            go_ret
            exact ⟨rfl, hbr.trans (hHeld.mono hbr.size)⟩
        · refine wp_mk _ (.tmp 59) (.tmp 59) 22 rfl wr.heap.size 5 i0 (.int .u8 0) Try.underlying22 hi hz0 hz1 rfl .i64 .i64 _ _ j j rfl rfl rfl rfl (Nat.le_refl _) (by rw [hz2]; omega) (by unfold maxLen; omega) hHeld.size ?_
          intro wn hownz hgn hsn
          have hHn := hHeld.grown hgn hHeld.size (by simp)
          have hzz := Rd.of_own hownz
          rw [hzr] at hzz
          clear hownz hgn
          refine hK.out _ _ ?_ (fun hHeld' => ?_)
          · (first | exact (Below.refl _ _).drew | assumption)
          clear hK K hHeld
          have hHeld := hHeld'
          clear hHeld'
          simp only [List.set_cons_zero, List.set_cons_succ]
          refine branchH 15 52 #[true, true, true, true, true, true, true, true, true, true, true, true, true, true, true, true, false, true, true, true, false, false, true, true, false, false, false, false] (by kernel_rfl) rfl rfl rfl (by rfl) (fun K hK => ?_)
          go_simp
          (go_at_call 12; (with_reducible refine (sum_any _ j _ wr.heap.size (la.take j) _ (hraw.below hHeld) hHeld.size hta hjj).mono ?_))
          rintro e wn ⟨he, hbn⟩
          rw [← Hs.out.2.1] at he
          subst he
          have hHn := hHeld.trans (hbn.mono hHeld.size)
          first | (have hz2 := (hzz.below hbn).more hbn.size; clear hzz; have hzz := hz2; clear hz2) | skip
          refine hK.out _ _ ?_ (fun hHeld' => ?_)
          · (first | exact (Below.refl _ _).drew | assumption)
          clear hK K hHeld
          have hHeld := hHeld'
          clear hHeld'
          simp only [List.set_cons_zero, List.set_cons_succ]
          refine takeH 16 53 #[true, true, true, true, true, true, true, true, true, true, true, true, true, true, true, true, true, true, true, true, false, false, true, true, false, false, false, false] (v := ?_) rfl rfl rfl (by kernel_rfl) (by kernel_rfl) (by kernel_rfl) (fun _ _ _ h => h) (Or.inl ⟨by rfl, ?_⟩) hHeld ?_
          rotate_left
          · (intro w' hSw; (try dsimp only at hSw); go_simp; (try with_reducible rfl))
          simp only [List.set_cons_zero, List.set_cons_succ]
          refine branchH 20 57 #[true, true, true, true, true, true, true, true, true, true, true, true, true, true, true, true, true, true, true, true, true, false, true, true, false, false, false, false] (by kernel_rfl) rfl rfl rfl (by rfl) (fun K hK => ?_)
          go_simp
          (go_at_call 12; (with_reducible refine (sum_any _ j _ wr.heap.size (lb.take j) _ (hrbw.below hHeld) hHeld.size htb hjj).mono ?_))
          rintro e wn ⟨he, hbn⟩
          rw [← Hs.out.2.2.1] at he
          subst he
          have hHn := hHeld.trans (hbn.mono hHeld.size)
          first | (have hz2 := (hzz.below hbn).more hbn.size; clear hzz; have hzz := hz2; clear hz2) | skip
          refine hK.out _ _ ?_ (fun hHeld' => ?_)
          · (first | exact (Below.refl _ _).drew | assumption)
          clear hK K hHeld
          have hHeld := hHeld'
          clear hHeld'
          simp only [List.set_cons_zero, List.set_cons_succ]
          refine takeH 21 58 #[true, true, true, true, true, true, true, true, true, true, true, true, true, true, true, true, true, true, true, true, true, true, true, true, false, false, false, false] (v := ?_) rfl rfl rfl (by kernel_rfl) (by kernel_rfl) (by kernel_rfl) (fun _ _ _ h => h) (Or.inl ⟨by rfl, ?_⟩) hHeld ?_
          rotate_left
          · (intro w' hSw; (try dsimp only at hSw); go_simp; (try with_reducible rfl))
          simp only [List.set_cons_zero, List.set_cons_succ]
          refine branchH 24 61 #[true, true, true, true, true, true, true, true, true, true, true, true, true, true, true, true, true, true, true, true, true, true, true, true, true, false, false, false] (by kernel_rfl) rfl rfl rfl (by rfl) (fun K hK => ?_)
          go_simp
          (go_at_call 12; (with_reducible refine (sum_any _ j _ _ (List.replicate j 0) _ hzz (Nat.le_refl _) hb0z hjj).mono ?_))
          rintro e wn3 ⟨he, hbn3⟩
          rw [← Hs.out.2.2.2] at he
          subst he
          have hHn3 := hHeld.trans (hbn3.mono hHeld.size)
          refine hK.out _ _ ?_ (fun hHeld' => ?_)
          · (first | exact (Below.refl _ _).drew | assumption)
          clear hK K hHeld
          have hHeld := hHeld'
          clear hHeld'
          simp only [List.set_cons_zero, List.set_cons_succ]
          refine takeH 25 62 #[true, true, true, true, true, true, true, true, true, true, true, true, true, true, true, true, true, true, true, true, true, true, true, true, true, true, false, false] (v := ?_) rfl rfl rfl (by kernel_rfl) (by kernel_rfl) (by kernel_rfl) (fun _ _ _ h => h) (Or.inl ⟨by rfl, ?_⟩) hHeld ?_
          rotate_left
          · (intro w' hSw; (try dsimp only at hSw); go_simp; (try with_reducible rfl))
          simp only [List.set_cons_zero, List.set_cons_succ]
          refine takeH 26 63 #[true, true, true, true, true, true, true, true, true, true, true, true, true, true, true, true, true, true, true, true, true, true, true, true, true, true, true, false] (v := ?_) rfl rfl rfl (by kernel_rfl) (by kernel_rfl) (by kernel_rfl) (fun _ _ _ h => h) (Or.inl ⟨by rfl, ?_⟩) hHeld ?_
          rotate_left
          · (intro w' hSw; (try dsimp only at hSw); go_simp; (try with_reducible rfl))
          simp only [List.set_cons_zero, List.set_cons_succ]
          refine takeH 27 4 #[true, true, true, true, true, true, true, true, true, true, true, true, true, true, true, true, true, true, true, true, true, true, true, true, true, true, true, true] (v := ?_) rfl rfl rfl (by kernel_rfl) (by kernel_rfl) (by kernel_rfl) (fun _ _ _ h => h) (Or.inl ⟨by rfl, ?_⟩) hHeld ?_
          rotate_left
          · (intro w' hSw; (try dsimp only at hSw); go_simp; (try with_reducible rfl))
          simp only [List.set_cons_zero, List.set_cons_succ]
          refine wpAnyH_done (by kernel_rfl) ?_ _
          refine NoPanic.normal ?_
          go_wp2_with fail
          go_ret
          exact ⟨rfl, hbr.trans (hHeld.mono hbr.size)⟩
      · refine wp_mk _ (.tmp 59) (.tmp 59) 22 rfl wr.heap.size 5 i0 (.int .u8 0) Try.underlying22 hi hz0 hz1 rfl .i64 .i64 _ _ j j rfl rfl rfl rfl (Nat.le_refl _) (by rw [hz2]; omega) (by unfold maxLen; omega) hHeld.size ?_
        intro wn hownz hgn hsn
        have hHn := hHeld.grown hgn hHeld.size (by simp)
        have hzz := Rd.of_own hownz
        rw [hzr] at hzz
        clear hownz hgn
        refine hK.out _ _ ?_ (fun hHeld' => ?_)
        · (first | exact (Below.refl _ _).drew | assumption)
        clear hK K hHeld
        have hHeld := hHeld'
        clear hHeld'
        simp only [List.set_cons_zero, List.set_cons_succ]
        refine branchH 11 48 #[true, true, true, true, true, true, true, true, true, true, true, true, true, true, true, false, false, true, true, true, false, false, true, true, false, false, false, false] (by kernel_rfl) rfl rfl rfl (by rfl) (fun K hK => ?_)
        go_simp
        (go_at_call 12; (with_reducible refine (sum_any _ j _ wr.heap.size (Xor la lb j) _ (hrx.below hHeld) hHeld.size htx hjj).mono ?_))
        rintro e wn ⟨he, hbn⟩
        rw [← Hs.out.1] at he
        subst he
        have hHn := hHeld.trans (hbn.mono hHeld.size)
        first | (have hz2 := (hzz.below hbn).more hbn.size; clear hzz; have hzz := hz2; clear hz2) | skip
        refine hK.out _ _ ?_ (fun hHeld' => ?_)
        · (first | exact (Below.refl _ _).drew | assumption)
        clear hK K hHeld
        have hHeld := hHeld'
        clear hHeld'
        simp only [List.set_cons_zero, List.set_cons_succ]
        refine branchH 15 52 #[true, true, true, true, true, true, true, true, true, true, true, true, true, true, true, true, false, true, true, true, false, false, true, true, false, false, false, false] (by kernel_rfl) rfl rfl rfl (by rfl) (fun K hK => ?_)
        go_simp
        (go_at_call 12; (with_reducible refine (sum_any _ j _ wr.heap.size (la.take j) _ (hraw.below hHeld) hHeld.size hta hjj).mono ?_))
        rintro e wn ⟨he, hbn⟩
        rw [← Hs.out.2.1] at he
        subst he
        have hHn := hHeld.trans (hbn.mono hHeld.size)
        first | (have hz2 := (hzz.below hbn).more hbn.size; clear hzz; have hzz := hz2; clear hz2) | skip
        refine hK.out _ _ ?_ (fun hHeld' => ?_)
        · (first | exact (Below.refl _ _).drew | assumption)
        clear hK K hHeld
        have hHeld := hHeld'
        clear hHeld'
        simp only [List.set_cons_zero, List.set_cons_succ]
        refine takeH 16 53 #[true, true, true, true, true, true, true, true, true, true, true, true, true, true, true, true, true, true, true, true, false, false, true, true, false, false, false, false] (v := ?_) rfl rfl rfl (by kernel_rfl) (by kernel_rfl) (by kernel_rfl) (fun _ _ _ h => h) (Or.inl ⟨by rfl, ?_⟩) hHeld ?_
        rotate_left
        · (intro w' hSw; (try dsimp only at hSw); go_simp; (try with_reducible rfl))
        simp only [List.set_cons_zero, List.set_cons_succ]
        refine branchH 20 57 #[true, true, true, true, true, true, true, true, true, true, true, true, true, true, true, true, true, true, true, true, true, false, true, true, false, false, false, false] (by kernel_rfl) rfl rfl rfl (by rfl) (fun K hK => ?_)
        go_simp
        (go_at_call 12; (with_reducible refine (sum_any _ j _ wr.heap.size (lb.take j) _ (hrbw.below hHeld) hHeld.size htb hjj).mono ?_))
        rintro e wn ⟨he, hbn⟩
        rw [← Hs.out.2.2.1] at he
        subst he
        have hHn := hHeld.trans (hbn.mono hHeld.size)
        first | (have hz2 := (hzz.below hbn).more hbn.size; clear hzz; have hzz := hz2; clear hz2) | skip
        refine hK.out _ _ ?_ (fun hHeld' => ?_)
        · (first | exact (Below.refl _ _).drew | assumption)
        clear hK K hHeld
        have hHeld := hHeld'
        clear hHeld'
        simp only [List.set_cons_zero, List.set_cons_succ]
        refine takeH 21 58 #[true, true, true, true, true, true, true, true, true, true, true, true, true, true, true, true, true, true, true, true, true, true, true, true, false, false, false, false] (v := ?_) rfl rfl rfl (by kernel_rfl) (by kernel_rfl) (by kernel_rfl) (fun _ _ _ h => h) (Or.inl ⟨by rfl, ?_⟩) hHeld ?_
        rotate_left
        · (intro w' hSw; (try dsimp only at hSw); go_simp; (try with_reducible rfl))
        simp only [List.set_cons_zero, List.set_cons_succ]
        refine branchH 24 61 #[true, true, true, true, true, true, true, true, true, true, true, true, true, true, true, true, true, true, true, true, true, true, true, true, true, false, false, false] (by kernel_rfl) rfl rfl rfl (by rfl) (fun K hK => ?_)
        go_simp
        (go_at_call 12; (with_reducible refine (sum_any _ j _ _ (List.replicate j 0) _ hzz (Nat.le_refl _) hb0z hjj).mono ?_))
        rintro e wn3 ⟨he, hbn3⟩
        rw [← Hs.out.2.2.2] at he
        subst he
        have hHn3 := hHeld.trans (hbn3.mono hHeld.size)
        refine hK.out _ _ ?_ (fun hHeld' => ?_)
        · (first | exact (Below.refl _ _).drew | assumption)
        clear hK K hHeld
        have hHeld := hHeld'
        clear hHeld'
        simp only [List.set_cons_zero, List.set_cons_succ]
        refine takeH 25 62 #[true, true, true, true, true, true, true, true, true, true, true, true, true, true, true, true, true, true, true, true, true, true, true, true, true, true, false, false] (v := ?_) rfl rfl rfl (by kernel_rfl) (by kernel_rfl) (by kernel_rfl) (fun _ _ _ h => h) (Or.inl ⟨by rfl, ?_⟩) hHeld ?_
        rotate_left
        · (intro w' hSw; (try dsimp only at hSw); go_simp; (try with_reducible rfl))
        simp only [List.set_cons_zero, List.set_cons_succ]
        refine takeH 26 63 #[true, true, true, true, true, true, true, true, true, true, true, true, true, true, true, true, true, true, true, true, true, true, true, true, true, true, true, false] (v := ?_) rfl rfl rfl (by kernel_rfl) (by kernel_rfl) (by kernel_rfl) (fun _ _ _ h => h) (Or.inl ⟨by rfl, ?_⟩) hHeld ?_
        rotate_left
        · (intro w' hSw; (try dsimp only at hSw); go_simp; (try with_reducible rfl))
        simp only [List.set_cons_zero, List.set_cons_succ]
        refine takeH 27 4 #[true, true, true, true, true, true, true, true, true, true, true, true, true, true, true, true, true, true, true, true, true, true, true, true, true, true, true, true] (v := ?_) rfl rfl rfl (by kernel_rfl) (by kernel_rfl) (by kernel_rfl) (fun _ _ _ h => h) (Or.inl ⟨by rfl, ?_⟩) hHeld ?_
        rotate_left
        · (intro w' hSw; (try dsimp only at hSw); go_simp; (try with_reducible rfl))
        simp only [List.set_cons_zero, List.set_cons_succ]
        refine wpAnyH_done (by kernel_rfl) ?_ _
        refine NoPanic.normal ?_
        go_wp2_with fail
        go_ret
        exact ⟨rfl, hbr.trans (hHeld.mono hbr.size)⟩

set_option maxHeartbeats 8000000 in
theorem zero_b (A B : Option Addr) (n c na d : Nat) (la lb : List Nat) (w : World) (hra : Rd w w.heap.size 1 A na (la.map bv)) (hba : ∀ c ∈ la, c < 256) (hca : na ≤ c)
    (hrb : Rd w w.heap.size 1 B n (lb.map bv)) (hbb : ∀ c ∈ lb, c < 256) (hcb : n ≤ d) (hn : n ≤ 9000) (hna : n ≤ na) (hnb : n ≤ n) (hstrict : n < na) (hle : na ≤ 9223372036854775807) (hle2 : n ≤ 9223372036854775807) :
    Calls Try.prog 6 #[.slice A na c, .slice B n d] w fun e w' => e = .returned (.bool true) ∧ Below w.heap.size w w' := by
  have hla : la.length = na := by have := hra.1; simpa using this
  have hlb : lb.length = n := by have := hrb.1; simpa using this
  have h0 : ¬ (9000 : Int) < (n : Int) := by omega
  obtain ⟨i0, hi, hz0, hz1, hz2⟩ := info_parts info_u8
  go_enter Try.func6, Try.ntmps6
  go_wp2_with (first
    | (go_at_call 9; (with_reducible refine (head_any _).mono ?_)
       rintro e w1 ⟨rfl, hb1⟩
       have hsz1 := hb1.size)
    | (with_reducible refine wpList_mk _ rfl (.tmp 18) (.tmp 18) 22 rfl w.heap.size 5 i0 (.int .u8 0) Try.underlying22 hi hz0 hz1 rfl .i64 .i64 _ _ n n rfl rfl rfl rfl ?e2 ?e3 ?e4 hsz1 ?_))
  case e2 => exact Nat.le_refl _
  case e3 => rw [hz2]; omega
  case e4 => unfold maxLen; omega
  intro w2 hown2 hg2
  have hb2 : Below w.heap.size w w2 := hb1.grown hg2 hsz1 (by simp)
  have hb12 : Below w1.heap.size w1 w2 := (Below.refl _ _).grown hg2 (Nat.le_refl _) (by simp)
  have hown2' : w2.ownsRow w1.heap.size 5 1 (.slice (some ⟨w1.heap.size, 0, none⟩) n n) n (List.replicate n (.int .u8 0)) := by
    obtain ⟨q1, q2⟩ := hown2
    refine ⟨q1, ?_⟩
    rcases q2 with q2 | ⟨g, cap, cur, hv, hg, r⟩
    · exact .inl q2
    · refine .inr ⟨g, cap, cur, hv, ?_, r⟩
      injection hv with hv
      injection hv with hv
      injection hv with hv
      omega
  clear hg2 hb12 hown2
  go_wp2_with fail
  go_loopg [8] n (fun k i wr => ∃ j : Nat, k + j = n ∧ i = .int .i64 j ∧ wr.ownsRow w1.heap.size 5 1 (.slice (some ⟨w1.heap.size, 0, none⟩) n n) n (((Xor la lb n).take j).map bv ++ List.replicate (n - j) (.int .u8 0)) ∧ Below w.heap.size w wr)
  case atStart => exact ⟨0, by omega, rfl, by simpa using hown2', hb2⟩
  case round =>
    obtain ⟨j, hj, rfl, hown, hbr⟩ := hrel
    by_cases hlt : j < n
    · obtain ⟨_, g, hgg, hgb, hgl, hcell, hfr⟩ := own_some hown (by omega)
      injection hgg with hgg
      injection hgg with hgg
      subst hgg
      obtain ⟨ba, oa, rfl, hba2, hca2⟩ := (hra.below hbr).2 (by omega)
      obtain ⟨bb, ob, rfl, hbb2, hcb2⟩ := (hrb.below hbr).2 (by omega)
      obtain ⟨x, hx⟩ : ∃ x, la[j]? = some x := ⟨_, List.getElem?_eq_getElem (by omega)⟩
      obtain ⟨y, hy⟩ : ∃ y, lb[j]? = some y := ⟨_, List.getElem?_eq_getElem (by omega)⟩
      have hxx := hba _ (List.mem_of_getElem? hx)
      have hyy := hbb _ (List.mem_of_getElem? hy)
      have hcx : wr.cell? ⟨ba, oa + j, none⟩ = some (.int .u8 (x : Int)) := hca2 j (bv x) (by rw [List.getElem?_map, hx]; rfl)
      have hcy : wr.cell? ⟨bb, ob + j, none⟩ = some (.int .u8 (y : Int)) := hcb2 j (bv y) (by rw [List.getElem?_map, hy]; rfl)
      have hcz : wr.cell? ⟨w1.heap.size, j, none⟩ = some (.int .u8 0) := hcell j (.int .u8 0) (by
        rw [List.getElem?_append_right (by simp; omega)]
        simp only [List.length_map, List.length_take, List.getElem?_replicate]
        have := xor_len la lb n (by omega) (by omega)
        rw [if_pos (by omega)])
      have hfz := hfr j
      obtain ⟨z, hz⟩ : ∃ z, z = x ^^^ y := ⟨_, rfl⟩
      have f0 : bits .xor .u8 (x : Int) (y : Int) = (z : Int) := by rw [hz]; exact u8_xor_nat x y hxx hyy
      have hown' := own_stored hown j (bv z)
      rw [hz, xor_step la lb n j x y (by omega) (by omega) hlt hx hy, ← hz] at hown'
      have hbr' := hbr.setCell (p := ⟨w1.heap.size, j, none⟩) hsz1 (bv z)
      have hj0 : (0 : Int) ≤ (j : Int) := by omega
      have hj1 : (j : Int) < (n : Int) := by omega
      have hj2 : (j : Int) < (na : Int) := by omega
      have hj3 : (j : Int) < (n : Int) := by omega
      clear hx hy hz hcell hfr hown hbr hca2 hcb2 hra hrb
      unfold bv at hown' hbr'
      go_wp2_with fail
      go_region
      all_goals
        go_wp2_with fail
        go_roundg (n - (j + 1))
        case measure => omega
        case rel => exact ⟨j + 1, by omega, by go_num, hown', hbr'.drew⟩
    · obtain rfl : j = n := by omega
      have hxl := xor_len la lb j (by omega) (by omega)
      rw [Nat.sub_self, List.replicate_zero, List.append_nil, List.take_of_length_le (by omega)] at hown
      have hraw : Rd wr wr.heap.size 1 A j ((la.take j).map bv) := by
        have := ((hra.below hbr).more hbr.size).take_ (k := j) (by omega)
        rwa [Nat.mul_one, ← List.map_take] at this
      have hrbw : Rd wr wr.heap.size 1 B j ((lb.take j).map bv) := by
        have := ((hrb.below hbr).more hbr.size).take_ (k := j) (by omega)
        rwa [Nat.mul_one, ← List.map_take] at this
      have hrx : Rd wr wr.heap.size 1 (some ⟨w1.heap.size, 0, none⟩) j ((Xor la lb j).map bv) := Rd.of_own hown
      have hta : ∀ c ∈ la.take j, c < 256 := fun c hc => hba c (List.mem_of_mem_take hc)
      have htb : ∀ c ∈ lb.take j, c < 256 := fun c hc => hbb c (List.mem_of_mem_take hc)
      have htx : ∀ c ∈ Xor la lb j, c < 256 := by
        intro c hc
        obtain ⟨i, hi1, rfl⟩ := List.mem_iff_getElem.1 hc
        simp only [Xor, List.getElem_zipWith]
        exact Nat.xor_lt_two_pow (n := 8) (hta _ (List.getElem_mem _)) (htb _ (List.getElem_mem _))
      obtain ⟨sx, hsx⟩ : ∃ s, s = sum (Xor la lb j) := ⟨_, rfl⟩
      obtain ⟨sa, hsa⟩ : ∃ s, s = sum (la.take j) := ⟨_, rfl⟩
      obtain ⟨sb, hsb⟩ : ∃ s, s = sum (lb.take j) := ⟨_, rfl⟩
      obtain ⟨sz, hsz⟩ : ∃ s, s = sum (List.replicate j 0) := ⟨_, rfl⟩
      have hsxl : sx < 65536 := by rw [hsx]; exact sum_lt _ htx
      have hsal : sa < 65536 := by rw [hsa]; exact sum_lt _ hta
      have hsbl : sb < 65536 := by rw [hsb]; exact sum_lt _ htb
      obtain ⟨t1, ht1⟩ : ∃ t, t = sx ^^^ sa := ⟨_, rfl⟩
      have ht1l : t1 < 65536 := by rw [ht1]; exact xor_lt _ _ hsxl hsal
      have g1 : bits .xor .u16 (sx : Int) (sa : Int) = (t1 : Int) := by rw [ht1]; exact u16_xor_nat _ _ hsxl hsal
      have hfin : t1 ^^^ sb = sz := by
        rw [ht1, hsx, hsa, hsb, hsz]
        exact sum_three (la.take j) (lb.take j) j (by simp; omega) (by simp; omega)
      have g2 : bits .xor .u16 (t1 : Int) (sb : Int) = (sz : Int) := by rw [← hfin]; exact u16_xor_nat _ _ ht1l hsbl
      have hb0z : ∀ c ∈ List.replicate j 0, c < 256 := by intro c hc; simp at hc; omega
      have hzr : List.replicate j (Value.int .u8 0) = (List.replicate j 0).map bv := by simp [bv]
      have Hs := Lib.hid (And.intro hsx (And.intro hsa (And.intro hsb hsz)))
      have hj0 : (0 : Int) ≤ (j : Int) := by omega
      have hj2 : (j : Int) ≤ (c : Int) := by omega
      have hj3 : (j : Int) ≤ (d : Int) := by omega
      have hjj : j ≤ 9223372036854775807 := by omega
      have hcj : j ≤ c := by omega
      have hdj : j ≤ d := by omega
      clear hsx hsa hsb hsz ht1 hfin hown hown2' hb1 hb2 hra hrb
      go_wp2_with fail
      refine startH (fun w' => Below wr.heap.size wr w') 28 #[false, false, false, false, false, false, false, false, false, false, false, false, false, false, false, false, false, false, false, false, false, false, false, false, false, false, false, false] rfl rfl (by kernel_rfl) ?_ (fun hHeld => ?_)
      · (first | exact (Below.refl _ _).drew | assumption)
      refine takeH 0 37 #[true, false, false, false, false, false, false, false, false, false, false, false, false, false, false, false, false, false, false, false, false, false, false, false, false, false, false, false] (v := ?_) rfl rfl rfl (by kernel_rfl) (by kernel_rfl) (by kernel_rfl) (fun _ _ _ h => h) (Or.inl ⟨by rfl, ?_⟩) hHeld ?_
      rotate_left
      · (intro w' hSw; (try dsimp only at hSw); go_simp; (try with_reducible rfl))
      simp only [List.set_cons_zero, List.set_cons_succ]
      refine takeH 1 38 #[true, true, false, false, false, false, false, false, false, false, false, false, false, false, false, false, false, false, false, false, false, false, false, false, false, false, false, false] (v := ?_) rfl rfl rfl (by kernel_rfl) (by kernel_rfl) (by kernel_rfl) (fun _ _ _ h => h) (Or.inl ⟨by rfl, ?_⟩) hHeld ?_
      rotate_left
      · (intro w' hSw; (try dsimp only at hSw); go_simp; (try with_reducible rfl))
      simp only [List.set_cons_zero, List.set_cons_succ]
      refine takeH 2 39 #[true, true, true, false, false, false, false, false, false, false, false, false, false, false, false, false, false, false, false, false, false, false, false, false, false, false, false, false] (v := ?_) rfl rfl rfl (by kernel_rfl) (by kernel_rfl) (by kernel_rfl) (fun _ _ _ h => h) (Or.inl ⟨by rfl, ?_⟩) hHeld ?_
      rotate_left
      · (intro w' hSw; (try dsimp only at hSw); go_simp; (try with_reducible rfl))
      simp only [List.set_cons_zero, List.set_cons_succ]
      refine takeH 3 40 #[true, true, true, true, false, false, false, false, false, false, false, false, false, false, false, false, false, false, false, false, false, false, false, false, false, false, false, false] (v := ?_) rfl rfl rfl (by kernel_rfl) (by kernel_rfl) (by kernel_rfl) (fun _ _ _ h => h) (Or.inl ⟨by rfl, ?_⟩) hHeld ?_
      rotate_left
      · (intro w' hSw; (try dsimp only at hSw); go_simp; (try with_reducible rfl))
      simp only [List.set_cons_zero, List.set_cons_succ]
      refine takeH 4 41 #[true, true, true, true, true, false, false, false, false, false, false, false, false, false, false, false, false, false, false, false, false, false, false, false, false, false, false, false] (v := ?_) rfl rfl rfl (by kernel_rfl) (by kernel_rfl) (by kernel_rfl) (fun _ _ _ h => h) (Or.inl ⟨by rfl, ?_⟩) hHeld ?_
      rotate_left
      · (intro w' hSw; (try dsimp only at hSw); go_simp; (try with_reducible rfl))
      simp only [List.set_cons_zero, List.set_cons_succ]
      refine branchH 5 42 #[true, true, true, true, true, true, false, false, false, false, false, false, false, false, false, false, false, false, false, false, false, false, false, false, false, false, false, false] (by kernel_rfl) rfl rfl rfl (by rfl) (fun K hK => ?_)
      go_simp
      (go_at_call 14; (with_reducible refine (seal_any _ j _ wr.heap.size (la.take j) _ (hraw.below hHeld) hHeld.size hta (by omega)).mono ?_))
      rintro e wn ⟨A5, c5, rfl, hown5, hbn⟩
      have hr5 := Rd.of_own hown5
      have hHn := hHeld.trans (hbn.mono hHeld.size)
      refine hK.out _ _ ?_ (fun hHeld' => ?_)
      · (first | exact (Below.refl _ _).drew | assumption)
      clear hK K hHeld
      have hHeld := hHeld'
      clear hHeld'
      simp only [List.set_cons_zero, List.set_cons_succ]
      refine branchH 6 43 #[true, true, true, true, true, true, true, false, false, false, false, false, false, false, false, false, false, false, false, false, false, false, false, false, false, false, false, false] (by kernel_rfl) rfl rfl rfl (by rfl) (fun K hK => ?_)
      go_simp
      (go_at_call 12; (with_reducible refine (sum_any _ (j + 2) _ _ (seal_ (la.take j)) _ hr5 (Nat.le_refl _) (mem_seal _ hta) (by omega)).mono ?_))
      rintro e wn2 ⟨he, hbn2⟩
      rw [sum_seal _ hta] at he
      subst he
      have hHn2 := hHeld.trans (hbn2.mono hHeld.size)
      clear hHn hbn hr5 hown5
      refine hK.out _ _ ?_ (fun hHeld' => ?_)
      · (first | exact (Below.refl _ _).drew | assumption)
      clear hK K hHeld
      have hHeld := hHeld'
      clear hHeld'
      simp only [List.set_cons_zero, List.set_cons_succ]
      refine takeH 7 44 #[true, true, true, true, true, true, true, true, false, false, false, false, false, false, false, false, false, false, false, false, false, false, false, false, false, false, false, false] (v := ?_) rfl rfl rfl (by kernel_rfl) (by kernel_rfl) (by kernel_rfl) (fun _ _ _ h => h) (Or.inl ⟨by rfl, ?_⟩) hHeld ?_
      rotate_left
      · (intro w' hSw; (try dsimp only at hSw); go_simp; (try with_reducible rfl))
      simp only [List.set_cons_zero, List.set_cons_succ]
      refine takeH 8 45 #[true, true, true, true, true, true, true, true, true, false, false, false, false, false, false, false, false, false, false, false, false, false, false, false, false, false, false, false] (v := ?_) rfl rfl rfl (by kernel_rfl) (by kernel_rfl) (by kernel_rfl) (fun _ _ _ h => h) (Or.inl ⟨by rfl, ?_⟩) hHeld ?_
      rotate_left
      · (intro w' hSw; (try dsimp only at hSw); go_simp; (try with_reducible rfl))
      simp only [List.set_cons_zero, List.set_cons_succ]
      refine takeH 9 46 #[true, true, true, true, true, true, true, true, true, true, false, false, false, false, false, false, false, false, false, false, false, false, false, false, false, false, false, false] (v := ?_) rfl rfl rfl (by kernel_rfl) (by kernel_rfl) (by kernel_rfl) (fun _ _ _ h => h) (Or.inl ⟨by rfl, ?_⟩) hHeld ?_
      rotate_left
      · (intro w' hSw; (try dsimp only at hSw); go_simp; (try with_reducible rfl))
      simp only [List.set_cons_zero, List.set_cons_succ]
      refine takeH 10 47 #[true, true, true, true, true, true, true, true, true, true, true, false, false, false, false, false, false, false, false, false, false, false, false, false, false, false, false, false] (v := ?_) rfl rfl rfl (by kernel_rfl) (by kernel_rfl) (by kernel_rfl) (fun _ _ _ h => h) (Or.inl ⟨by rfl, ?_⟩) hHeld ?_
      rotate_left
      · (intro w' hSw; (try dsimp only at hSw); go_simp; (try with_reducible rfl))
      simp only [List.set_cons_zero, List.set_cons_succ]
      refine takeH 12 49 #[true, true, true, true, true, true, true, true, true, true, true, false, true, false, false, false, false, false, false, false, false, false, false, false, false, false, false, false] (v := ?_) rfl rfl rfl (by kernel_rfl) (by kernel_rfl) (by kernel_rfl) (fun _ _ _ h => h) (Or.inl ⟨by rfl, ?_⟩) hHeld ?_
      rotate_left
      · (intro w' hSw; (try dsimp only at hSw); go_simp; (try with_reducible rfl))
      simp only [List.set_cons_zero, List.set_cons_succ]
      refine takeH 13 50 #[true, true, true, true, true, true, true, true, true, true, true, false, true, true, false, false, false, false, false, false, false, false, false, false, false, false, false, false] (v := ?_) rfl rfl rfl (by kernel_rfl) (by kernel_rfl) (by kernel_rfl) (fun _ _ _ h => h) (Or.inl ⟨by rfl, ?_⟩) hHeld ?_
      rotate_left
      · (intro w' hSw; (try dsimp only at hSw); go_simp; (try with_reducible rfl))
      simp only [List.set_cons_zero, List.set_cons_succ]
      refine takeH 14 51 #[true, true, true, true, true, true, true, true, true, true, true, false, true, true, true, false, false, false, false, false, false, false, false, false, false, false, false, false] (v := ?_) rfl rfl rfl (by kernel_rfl) (by kernel_rfl) (by kernel_rfl) (fun _ _ _ h => h) (Or.inl ⟨by rfl, ?_⟩) hHeld ?_
      rotate_left
      · (intro w' hSw; (try dsimp only at hSw); go_simp; (try with_reducible rfl))
      simp only [List.set_cons_zero, List.set_cons_succ]
      refine takeH 17 54 #[true, true, true, true, true, true, true, true, true, true, true, false, true, true, true, false, false, true, false, false, false, false, false, false, false, false, false, false] (v := ?_) rfl rfl rfl (by kernel_rfl) (by kernel_rfl) (by kernel_rfl) (fun _ _ _ h => h) (Or.inl ⟨by rfl, ?_⟩) hHeld ?_
      rotate_left
      · (intro w' hSw; (try dsimp only at hSw); go_simp; (try with_reducible rfl))
      simp only [List.set_cons_zero, List.set_cons_succ]
      refine takeH 18 55 #[true, true, true, true, true, true, true, true, true, true, true, false, true, true, true, false, false, true, true, false, false, false, false, false, false, false, false, false] (v := ?_) rfl rfl rfl (by kernel_rfl) (by kernel_rfl) (by kernel_rfl) (fun _ _ _ h => h) (Or.inl ⟨by rfl, ?_⟩) hHeld ?_
      rotate_left
      · (intro w' hSw; (try dsimp only at hSw); go_simp; (try with_reducible rfl))
      simp only [List.set_cons_zero, List.set_cons_succ]
      refine takeH 19 56 #[true, true, true, true, true, true, true, true, true, true, true, false, true, true, true, false, false, true, true, true, false, false, false, false, false, false, false, false] (v := ?_) rfl rfl rfl (by kernel_rfl) (by kernel_rfl) (by kernel_rfl) (fun _ _ _ h => h) (Or.inl ⟨by rfl, ?_⟩) hHeld ?_
      rotate_left
      · (intro w' hSw; (try dsimp only at hSw); go_simp; (try with_reducible rfl))
      simp only [List.set_cons_zero, List.set_cons_succ]
      refine takeH 22 59 #[true, true, true, true, true, true, true, true, true, true, true, false, true, true, true, false, false, true, true, true, false, false, true, false, false, false, false, false] (v := ?_) rfl rfl rfl (by kernel_rfl) (by kernel_rfl) (by kernel_rfl) (fun _ _ _ h => h) (Or.inl ⟨by rfl, ?_⟩) hHeld ?_
      rotate_left
      · (intro w' hSw; (try dsimp only at hSw); go_simp; (try with_reducible rfl))
      simp only [List.set_cons_zero, List.set_cons_succ]
      refine wpAnyH_ready (rs := [11, 23]) (by kernel_rfl) (by simp) ?_
      refine (consH 11 48 #[true, true, true, true, true, true, true, true, true, true, true, true, true, true, true, false, false, true, true, true, false, false, true, false, false, false, false, false] rfl rfl rfl (by rfl) (fun K hK => ?_) (consH 23 60 #[true, true, true, true, true, true, true, true, true, true, true, false, true, true, true, false, false, true, true, true, false, false, true, true, false, false, false, false] rfl rfl rfl (by rfl) (fun K hK => ?_) AllReadyH.nil))
      · go_simp
        (go_at_call 12; (with_reducible refine (sum_any _ j _ wr.heap.size (Xor la lb j) _ (hrx.below hHeld) hHeld.size htx hjj).mono ?_))
        rintro e wn ⟨he, hbn⟩
        rw [← Hs.out.1] at he
        subst he
        have hHn := hHeld.trans (hbn.mono hHeld.size)
        first | (have hz2 := (hzz.below hbn).more hbn.size; clear hzz; have hzz := hz2; clear hz2) | skip
        refine hK.out _ _ ?_ (fun hHeld' => ?_)
        · (first | exact (Below.refl _ _).drew | assumption)
        clear hK K hHeld
        have hHeld := hHeld'
        clear hHeld'
        simp only [List.set_cons_zero, List.set_cons_succ]
        refine wpAnyH_ready (rs := [15, 23]) (by kernel_rfl) (by simp) ?_
        refine (consH 15 52 #[true, true, true, true, true, true, true, true, true, true, true, true, true, true, true, true, false, true, true, true, false, false, true, false, false, false, false, false] rfl rfl rfl (by rfl) (fun K hK => ?_) (consH 23 60 #[true, true, true, true, true, true, true, true, true, true, true, true, true, true, true, false, false, true, true, true, false, false, true, true, false, false, false, false] rfl rfl rfl (by rfl) (fun K hK => ?_) AllReadyH.nil))
        · go_simp
          (go_at_call 12; (with_reducible refine (sum_any _ j _ wr.heap.size (la.take j) _ (hraw.below hHeld) hHeld.size hta hjj).mono ?_))
          rintro e wn ⟨he, hbn⟩
          rw [← Hs.out.2.1] at he
          subst he
          have hHn := hHeld.trans (hbn.mono hHeld.size)
          first | (have hz2 := (hzz.below hbn).more hbn.size; clear hzz; have hzz := hz2; clear hz2) | skip
          refine hK.out _ _ ?_ (fun hHeld' => ?_)
          · (first | exact (Below.refl _ _).drew | assumption)
          clear hK K hHeld
          have hHeld := hHeld'
          clear hHeld'
          simp only [List.set_cons_zero, List.set_cons_succ]
          refine takeH 16 53 #[true, true, true, true, true, true, true, true, true, true, true, true, true, true, true, true, true, true, true, true, false, false, true, false, false, false, false, false] (v := ?_) rfl rfl rfl (by kernel_rfl) (by kernel_rfl) (by kernel_rfl) (fun _ _ _ h => h) (Or.inl ⟨by rfl, ?_⟩) hHeld ?_
          rotate_left
          · (intro w' hSw; (try dsimp only at hSw); go_simp; (try with_reducible rfl))
          simp only [List.set_cons_zero, List.set_cons_succ]
          refine wpAnyH_ready (rs := [20, 23]) (by kernel_rfl) (by simp) ?_
          refine (consH 20 57 #[true, true, true, true, true, true, true, true, true, true, true, true, true, true, true, true, true, true, true, true, true, false, true, false, false, false, false, false] rfl rfl rfl (by rfl) (fun K hK => ?_) (consH 23 60 #[true, true, true, true, true, true, true, true, true, true, true, true, true, true, true, true, true, true, true, true, false, false, true, true, false, false, false, false] rfl rfl rfl (by rfl) (fun K hK => ?_) AllReadyH.nil))
          · go_simp
            (go_at_call 12; (with_reducible refine (sum_any _ j _ wr.heap.size (lb.take j) _ (hrbw.below hHeld) hHeld.size htb hjj).mono ?_))
            rintro e wn ⟨he, hbn⟩
            rw [← Hs.out.2.2.1] at he
            subst he
            have hHn := hHeld.trans (hbn.mono hHeld.size)
            first | (have hz2 := (hzz.below hbn).more hbn.size; clear hzz; have hzz := hz2; clear hz2) | skip
            refine hK.out _ _ ?_ (fun hHeld' => ?_)
            · (first | exact (Below.refl _ _).drew | assumption)
            clear hK K hHeld
            have hHeld := hHeld'
            clear hHeld'
            simp only [List.set_cons_zero, List.set_cons_succ]
            refine takeH 21 58 #[true, true, true, true, true, true, true, true, true, true, true, true, true, true, true, true, true, true, true, true, true, true, true, false, false, false, false, false] (v := ?_) rfl rfl rfl (by kernel_rfl) (by kernel_rfl) (by kernel_rfl) (fun _ _ _ h => h) (Or.inl ⟨by rfl, ?_⟩) hHeld ?_
            rotate_left
            · (intro w' hSw; (try dsimp only at hSw); go_simp; (try with_reducible rfl))
            simp only [List.set_cons_zero, List.set_cons_succ]
            refine branchH 23 60 #[true, true, true, true, true, true, true, true, true, true, true, true, true, true, true, true, true, true, true, true, true, true, true, true, false, false, false, false] (by kernel_rfl) rfl rfl rfl (by rfl) (fun K hK => ?_)
            refine wp_mk _ (.tmp 59) (.tmp 59) 22 rfl wr.heap.size 5 i0 (.int .u8 0) Try.underlying22 hi hz0 hz1 rfl .i64 .i64 _ _ j j rfl rfl rfl rfl (Nat.le_refl _) (by rw [hz2]; omega) (by unfold maxLen; omega) hHeld.size ?_
            intro wn hownz hgn hsn
            have hHn := hHeld.grown hgn hHeld.size (by simp)
            have hzz := Rd.of_own hownz
            rw [hzr] at hzz
            clear hownz hgn
            refine hK.out _ _ ?_ (fun hHeld' => ?_)
            · (first | exact (Below.refl _ _).drew | assumption)
            clear hK K hHeld
            have hHeld := hHeld'
            clear hHeld'
            simp only [List.set_cons_zero, List.set_cons_succ]
            refine branchH 24 61 #[true, true, true, true, true, true, true, true, true, true, true, true, true, true, true, true, true, true, true, true, true, true, true, true, true, false, false, false] (by kernel_rfl) rfl rfl rfl (by rfl) (fun K hK => ?_)
            go_simp
            (go_at_call 12; (with_reducible refine (sum_any _ j _ _ (List.replicate j 0) _ hzz (Nat.le_refl _) hb0z hjj).mono ?_))
            rintro e wn3 ⟨he, hbn3⟩
            rw [← Hs.out.2.2.2] at he
            subst he
            have hHn3 := hHeld.trans (hbn3.mono hHeld.size)
            refine hK.out _ _ ?_ (fun hHeld' => ?_)
            · (first | exact (Below.refl _ _).drew | assumption)
            clear hK K hHeld
            have hHeld := hHeld'
            clear hHeld'
            simp only [List.set_cons_zero, List.set_cons_succ]
            refine takeH 25 62 #[true, true, true, true, true, true, true, true, true, true, true, true, true, true, true, true, true, true, true, true, true, true, true, true, true, true, false, false] (v := ?_) rfl rfl rfl (by kernel_rfl) (by kernel_rfl) (by kernel_rfl) (fun _ _ _ h => h) (Or.inl ⟨by rfl, ?_⟩) hHeld ?_
            rotate_left
            · (intro w' hSw; (try dsimp only at hSw); go_simp; (try with_reducible rfl))
            simp only [List.set_cons_zero, List.set_cons_succ]
            refine takeH 26 63 #[true, true, true, true, true, true, true, true, true, true, true, true, true, true, true, true, true, true, true, true, true, true, true, true, true, true, true, false] (v := ?_) rfl rfl rfl (by kernel_rfl) (by kernel_rfl) (by kernel_rfl) (fun _ _ _ h => h) (Or.inl ⟨by rfl, ?_⟩) hHeld ?_
            rotate_left
            · (intro w' hSw; (try dsimp only at hSw); go_simp; (try with_reducible rfl))
            simp only [List.set_cons_zero, List.set_cons_succ]
            refine takeH 27 4 #[true, true, true, true, true, true, true, true, true, true, true, true, true, true, true, true, true, true, true, true, true, true, true, true, true, true, true, true] (v := ?_) rfl rfl rfl (by kernel_rfl) (by kernel_rfl) (by kernel_rfl) (fun _ _ _ h => h) (Or.inl ⟨by rfl, ?_⟩) hHeld ?_
            rotate_left
            · (intro w' hSw; (try dsimp only at hSw); go_simp; (try with_reducible rfl))
            simp only [List.set_cons_zero, List.set_cons_succ]
            refine wpAnyH_done (by kernel_rfl) ?_ _
            refine NoPanic.normal ?_
            go_wp2_with fail
            go_ret
            exact ⟨rfl, hbr.trans (hHeld.mono hbr.size)⟩
          · refine wp_mk _ (.tmp 59) (.tmp 59) 22 rfl wr.heap.size 5 i0 (.int .u8 0) Try.underlying22 hi hz0 hz1 rfl .i64 .i64 _ _ j j rfl rfl rfl rfl (Nat.le_refl _) (by rw [hz2]; omega) (by unfold maxLen; omega) hHeld.size ?_
            intro wn hownz hgn hsn
            have hHn := hHeld.grown hgn hHeld.size (by simp)
            have hzz := Rd.of_own hownz
            rw [hzr] at hzz
            clear hownz hgn
            refine hK.out _ _ ?_ (fun hHeld' => ?_)
            · (first | exact (Below.refl _ _).drew | assumption)
            clear hK K hHeld
            have hHeld := hHeld'
            clear hHeld'
            simp only [List.set_cons_zero, List.set_cons_succ]
            refine branchH 20 57 #[true, true, true, true, true, true, true, true, true, true, true, true, true, true, true, true, true, true, true, true, true, false, true, true, false, false, false, false] (by kernel_rfl) rfl rfl rfl (by rfl) (fun K hK => ?_)
            go_simp
            (go_at_call 12; (with_reducible refine (sum_any _ j _ wr.heap.size (lb.take j) _ (hrbw.below hHeld) hHeld.size htb hjj).mono ?_))
            rintro e wn ⟨he, hbn⟩
            rw [← Hs.out.2.2.1] at he
            subst he
            have hHn := hHeld.trans (hbn.mono hHeld.size)
            first | (have hz2 := (hzz.below hbn).more hbn.size; clear hzz; have hzz := hz2; clear hz2) | skip
            refine hK.out _ _ ?_ (fun hHeld' => ?_)
            · (first | exact (Below.refl _ _).drew | assumption)
            clear hK K hHeld
            have hHeld := hHeld'
            clear hHeld'
            simp only [List.set_cons_zero, List.set_cons_succ]
            refine takeH 21 58 #[true, true, true, true, true, true, true, true, true, true, true, true, true, true, true, true, true, true, true, true, true, true, true, true, false, false, false, false] (v := ?_) rfl rfl rfl (by kernel_rfl) (by kernel_rfl) (by kernel_rfl) (fun _ _ _ h => h) (Or.inl ⟨by rfl, ?_⟩) hHeld ?_
            rotate_left
            · (intro w' hSw; (try dsimp only at hSw); go_simp; (try with_reducible rfl))
            simp only [List.set_cons_zero, List.set_cons_succ]
            refine branchH 24 61 #[true, true, true, true, true, true, true, true, true, true, true, true, true, true, true, true, true, true, true, true, true, true, true, true, true, false, false, false] (by kernel_rfl) rfl rfl rfl (by rfl) (fun K hK => ?_)
            go_simp
            (go_at_call 12; (with_reducible refine (sum_any _ j _ _ (List.replicate j 0) _ hzz (Nat.le_refl _) hb0z hjj).mono ?_))
            rintro e wn3 ⟨he, hbn3⟩
            rw [← Hs.out.2.2.2] at he
            subst he
            have hHn3 := hHeld.trans (hbn3.mono hHeld.size)
            refine hK.out _ _ ?_ (fun hHeld' => ?_)
            · (first | exact (Below.refl _ _).drew | assumption)
            clear hK K hHeld
            have hHeld := hHeld'
            clear hHeld'
            simp only [List.set_cons_zero, List.set_cons_succ]
            refine takeH 25 62 #[true, true, true, true, true, true, true, true, true, true, true, true, true, true, true, true, true, true, true, true, true, true, true, true, true, true, false, false] (v := ?_) rfl rfl rfl (by kernel_rfl) (by kernel_rfl) (by kernel_rfl) (fun _ _ _ h => h) (Or.inl ⟨by rfl, ?_⟩) hHeld ?_
            rotate_left
            · (intro w' hSw; (try dsimp only at hSw); go_simp; (try with_reducible rfl))
            simp only [List.set_cons_zero, List.set_cons_succ]
            refine takeH 26 63 #[true, true, true, true, true, true, true, true, true, true, true, true, true, true, true, true, true, true, true, true, true, true, true, true, true, true, true, false] (v := ?_) rfl rfl rfl (by kernel_rfl) (by kernel_rfl) (by kernel_rfl) (fun _ _ _ h => h) (Or.inl ⟨by rfl, ?_⟩) hHeld ?_
            rotate_left
            · (intro w' hSw; (try dsimp only at hSw); go_simp; (try with_reducible rfl))
            simp only [List.set_cons_zero, List.set_cons_succ]
            refine takeH 27 4 #[true, true, true, true, true, true, true, true, true, true, true, true, true, true, true, true, true, true, true, true, true, true, true, true, true, true, true, true] (v := ?_) rfl rfl rfl (by kernel_rfl) (by kernel_rfl) (by kernel_rfl) (fun _ _ _ h => h) (Or.inl ⟨by rfl, ?_⟩) hHeld ?_
            rotate_left
            · (intro w' hSw; (try dsimp only at hSw); go_simp; (try with_reducible rfl))
            simp only [List.set_cons_zero, List.set_cons_succ]
            refine wpAnyH_done (by kernel_rfl) ?_ _
            refine NoPanic.normal ?_
            go_wp2_with fail
            go_ret
            exact ⟨rfl, hbr.trans (hHeld.mono hbr.size)⟩
        · refine wp_mk _ (.tmp 59) (.tmp 59) 22 rfl wr.heap.size 5 i0 (.int .u8 0) Try.underlying22 hi hz0 hz1 rfl .i64 .i64 _ _ j j rfl rfl rfl rfl (Nat.le_refl _) (by rw [hz2]; omega) (by unfold maxLen; omega) hHeld.size ?_
          intro wn hownz hgn hsn
          have hHn := hHeld.grown hgn hHeld.size (by simp)
          have hzz := Rd.of_own hownz
          rw [hzr] at hzz
          clear hownz hgn
          refine hK.out _ _ ?_ (fun hHeld' => ?_)
          · (first | exact (Below.refl _ _).drew | assumption)
          clear hK K hHeld
          have hHeld := hHeld'
          clear hHeld'
          simp only [List.set_cons_zero, List.set_cons_succ]
          refine branchH 15 52 #[true, true, true, true, true, true, true, true, true, true, true, true, true, true, true, true, false, true, true, true, false, false, true, true, false, false, false, false] (by kernel_rfl) rfl rfl rfl (by rfl) (fun K hK => ?_)
          go_simp
          (go_at_call 12; (with_reducible refine (sum_any _ j _ wr.heap.size (la.take j) _ (hraw.below hHeld) hHeld.size hta hjj).mono ?_))
          rintro e wn ⟨he, hbn⟩
          rw [← Hs.out.2.1] at he
          subst he
          have hHn := hHeld.trans (hbn.mono hHeld.size)
          first | (have hz2 := (hzz.below hbn).more hbn.size; clear hzz; have hzz := hz2; clear hz2) | skip
          refine hK.out _ _ ?_ (fun hHeld' => ?_)
          · (first | exact (Below.refl _ _).drew | assumption)
          clear hK K hHeld
          have hHeld := hHeld'
          clear hHeld'
          simp only [List.set_cons_zero, List.set_cons_succ]
          refine takeH 16 53 #[true, true, true, true, true, true, true, true, true, true, true, true, true, true, true, true, true, true, true, true, false, false, true, true, false, false, false, false] (v := ?_) rfl rfl rfl (by kernel_rfl) (by kernel_rfl) (by kernel_rfl) (fun _ _ _ h => h) (Or.inl ⟨by rfl, ?_⟩) hHeld ?_
          rotate_left
          · (intro w' hSw; (try dsimp only at hSw); go_simp; (try with_reducible rfl))
          simp only [List.set_cons_zero, List.set_cons_succ]
          refine branchH 20 57 #[true, true, true, true, true, true, true, true, true, true, true, true, true, true, true, true, true, true, true, true, true, false, true, true, false, false, false, false] (by kernel_rfl) rfl rfl rfl (by rfl) (fun K hK => ?_)
          go_simp
          (go_at_call 12; (with_reducible refine (sum_any _ j _ wr.heap.size (lb.take j) _ (hrbw.below hHeld) hHeld.size htb hjj).mono ?_))
          rintro e wn ⟨he, hbn⟩
          rw [← Hs.out.2.2.1] at he
          subst he
          have hHn := hHeld.trans (hbn.mono hHeld.size)
          first | (have hz2 := (hzz.below hbn).more hbn.size; clear hzz; have hzz := hz2; clear hz2) | skip
          refine hK.out _ _ ?_ (fun hHeld' => ?_)
          · (first | exact (Below.refl _ _).drew | assumption)
          clear hK K hHeld
          have hHeld := hHeld'
          clear hHeld'
          simp only [List.set_cons_zero, List.set_cons_succ]
          refine takeH 21 58 #[true, true, true, true, true, true, true, true, true, true, true, true, true, true, true, true, true, true, true, true, true, true, true, true, false, false, false, false] (v := ?_) rfl rfl rfl (by kernel_rfl) (by kernel_rfl) (by kernel_rfl) (fun _ _ _ h => h) (Or.inl ⟨by rfl, ?_⟩) hHeld ?_
          rotate_left
          · (intro w' hSw; (try dsimp only at hSw); go_simp; (try with_reducible rfl))
          simp only [List.set_cons_zero, List.set_cons_succ]
          refine branchH 24 61 #[true, true, true, true, true, true, true, true, true, true, true, true, true, true, true, true, true, true, true, true, true, true, true, true, true, false, false, false] (by kernel_rfl) rfl rfl rfl (by rfl) (fun K hK => ?_)
          go_simp
          (go_at_call 12; (with_reducible refine (sum_any _ j _ _ (List.replicate j 0) _ hzz (Nat.le_refl _) hb0z hjj).mono ?_))
          rintro e wn3 ⟨he, hbn3⟩
          rw [← Hs.out.2.2.2] at he
          subst he
          have hHn3 := hHeld.trans (hbn3.mono hHeld.size)
          refine hK.out _ _ ?_ (fun hHeld' => ?_)
          · (first | exact (Below.refl _ _).drew | assumption)
          clear hK K hHeld
          have hHeld := hHeld'
          clear hHeld'
          simp only [List.set_cons_zero, List.set_cons_succ]
          refine takeH 25 62 #[true, true, true, true, true, true, true, true, true, true, true, true, true, true, true, true, true, true, true, true, true, true, true, true, true, true, false, false] (v := ?_) rfl rfl rfl (by kernel_rfl) (by kernel_rfl) (by kernel_rfl) (fun _ _ _ h => h) (Or.inl ⟨by rfl, ?_⟩) hHeld ?_
          rotate_left
          · (intro w' hSw; (try dsimp only at hSw); go_simp; (try with_reducible rfl))
          simp only [List.set_cons_zero, List.set_cons_succ]
          refine takeH 26 63 #[true, true, true, true, true, true, true, true, true, true, true, true, true, true, true, true, true, true, true, true, true, true, true, true, true, true, true, false] (v := ?_) rfl rfl rfl (by kernel_rfl) (by kernel_rfl) (by kernel_rfl) (fun _ _ _ h => h) (Or.inl ⟨by rfl, ?_⟩) hHeld ?_
          rotate_left
          · (intro w' hSw; (try dsimp only at hSw); go_simp; (try with_reducible rfl))
          simp only [List.set_cons_zero, List.set_cons_succ]
          refine takeH 27 4 #[true, true, true, true, true, true, true, true, true, true, true, true, true, true, true, true, true, true, true, true, true, true, true, true, true, true, true, true] (v := ?_) rfl rfl rfl (by kernel_rfl) (by kernel_rfl) (by kernel_rfl) (fun _ _ _ h => h) (Or.inl ⟨by rfl, ?_⟩) hHeld ?_
          rotate_left
          · (intro w' hSw; (try dsimp only at hSw); go_simp; (try with_reducible rfl))
          simp only [List.set_cons_zero, List.set_cons_succ]
          refine wpAnyH_done (by kernel_rfl) ?_ _
          refine NoPanic.normal ?_
          go_wp2_with fail
          go_ret
          exact ⟨rfl, hbr.trans (hHeld.mono hbr.size)⟩
      · refine wp_mk _ (.tmp 59) (.tmp 59) 22 rfl wr.heap.size 5 i0 (.int .u8 0) Try.underlying22 hi hz0 hz1 rfl .i64 .i64 _ _ j j rfl rfl rfl rfl (Nat.le_refl _) (by rw [hz2]; omega) (by unfold maxLen; omega) hHeld.size ?_
        intro wn hownz hgn hsn
        have hHn := hHeld.grown hgn hHeld.size (by simp)
        have hzz := Rd.of_own hownz
        rw [hzr] at hzz
        clear hownz hgn
        refine hK.out _ _ ?_ (fun hHeld' => ?_)
        · (first | exact (Below.refl _ _).drew | assumption)
        clear hK K hHeld
        have hHeld := hHeld'
        clear hHeld'
        simp only [List.set_cons_zero, List.set_cons_succ]
        refine branchH 11 48 #[true, true, true, true, true, true, true, true, true, true, true, true, true, true, true, false, false, true, true, true, false, false, true, true, false, false, false, false] (by kernel_rfl) rfl rfl rfl (by rfl) (fun K hK => ?_)
        go_simp
        (go_at_call 12; (with_reducible refine (sum_any _ j _ wr.heap.size (Xor la lb j) _ (hrx.below hHeld) hHeld.size htx hjj).mono ?_))
        rintro e wn ⟨he, hbn⟩
        rw [← Hs.out.1] at he
        subst he
        have hHn := hHeld.trans (hbn.mono hHeld.size)
        first | (have hz2 := (hzz.below hbn).more hbn.size; clear hzz; have hzz := hz2; clear hz2) | skip
        refine hK.out _ _ ?_ (fun hHeld' => ?_)
        · (first | exact (Below.refl _ _).drew | assumption)
        clear hK K hHeld
        have hHeld := hHeld'
        clear hHeld'
        simp only [List.set_cons_zero, List.set_cons_succ]
        refine branchH 15 52 #[true, true, true, true, true, true, true, true, true, true, true, true, true, true, true, true, false, true, true, true, false, false, true, true, false, false, false, false] (by kernel_rfl) rfl rfl rfl (by rfl) (fun K hK => ?_)
        go_simp
        (go_at_call 12; (with_reducible refine (sum_any _ j _ wr.heap.size (la.take j) _ (hraw.below hHeld) hHeld.size hta hjj).mono ?_))
        rintro e wn ⟨he, hbn⟩
        rw [← Hs.out.2.1] at he
        subst he
        have hHn := hHeld.trans (hbn.mono hHeld.size)
        first | (have hz2 := (hzz.below hbn).more hbn.size; clear hzz; have hzz := hz2; clear hz2) | skip
        refine hK.out _ _ ?_ (fun hHeld' => ?_)
        · (first | exact (Below.refl _ _).drew | assumption)
        clear hK K hHeld
        have hHeld := hHeld'
        clear hHeld'
        simp only [List.set_cons_zero, List.set_cons_succ]
        refine takeH 16 53 #[true, true, true, true, true, true, true, true, true, true, true, true, true, true, true, true, true, true, true, true, false, false, true, true, false, false, false, false] (v := ?_) rfl rfl rfl (by kernel_rfl) (by kernel_rfl) (by kernel_rfl) (fun _ _ _ h => h) (Or.inl ⟨by rfl, ?_⟩) hHeld ?_
        rotate_left
        · (intro w' hSw; (try dsimp only at hSw); go_simp; (try with_reducible rfl))
        simp only [List.set_cons_zero, List.set_cons_succ]
        refine branchH 20 57 #[true, true, true, true, true, true, true, true, true, true, true, true, true, true, true, true, true, true, true, true, true, false, true, true, false, false, false, false] (by kernel_rfl) rfl rfl rfl (by rfl) (fun K hK => ?_)
        go_simp
        (go_at_call 12; (with_reducible refine (sum_any _ j _ wr.heap.size (lb.take j) _ (hrbw.below hHeld) hHeld.size htb hjj).mono ?_))
        rintro e wn ⟨he, hbn⟩
        rw [← Hs.out.2.2.1] at he
        subst he
        have hHn := hHeld.trans (hbn.mono hHeld.size)
        first | (have hz2 := (hzz.below hbn).more hbn.size; clear hzz; have hzz := hz2; clear hz2) | skip
        refine hK.out _ _ ?_ (fun hHeld' => ?_)
        · (first | exact (Below.refl _ _).drew | assumption)
        clear hK K hHeld
        have hHeld := hHeld'
        clear hHeld'
        simp only [List.set_cons_zero, List.set_cons_succ]
        refine takeH 21 58 #[true, true, true, true, true, true, true, true, true, true, true, true, true, true, true, true, true, true, true, true, true, true, true, true, false, false, false, false] (v := ?_) rfl rfl rfl (by kernel_rfl) (by kernel_rfl) (by kernel_rfl) (fun _ _ _ h => h) (Or.inl ⟨by rfl, ?_⟩) hHeld ?_
        rotate_left
        · (intro w' hSw; (try dsimp only at hSw); go_simp; (try with_reducible rfl))
        simp only [List.set_cons_zero, List.set_cons_succ]
        refine branchH 24 61 #[true, true, true, true, true, true, true, true, true, true, true, true, true, true, true, true, true, true, true, true, true, true, true, true, true, false, false, false] (by kernel_rfl) rfl rfl rfl (by rfl) (fun K hK => ?_)
        go_simp
        (go_at_call 12; (with_reducible refine (sum_any _ j _ _ (List.replicate j 0) _ hzz (Nat.le_refl _) hb0z hjj).mono ?_))
        rintro e wn3 ⟨he, hbn3⟩
        rw [← Hs.out.2.2.2] at he
        subst he
        have hHn3 := hHeld.trans (hbn3.mono hHeld.size)
        refine hK.out _ _ ?_ (fun hHeld' => ?_)
        · (first | exact (Below.refl _ _).drew | assumption)
        clear hK K hHeld
        have hHeld := hHeld'
        clear hHeld'
        simp only [List.set_cons_zero, List.set_cons_succ]
        refine takeH 25 62 #[true, true, true, true, true, true, true, true, true, true, true, true, true, true, true, true, true, true, true, true, true, true, true, true, true, true, false, false] (v := ?_) rfl rfl rfl (by kernel_rfl) (by kernel_rfl) (by kernel_rfl) (fun _ _ _ h => h) (Or.inl ⟨by rfl, ?_⟩) hHeld ?_
        rotate_left
        · (intro w' hSw; (try dsimp only at hSw); go_simp; (try with_reducible rfl))
        simp only [List.set_cons_zero, List.set_cons_succ]
        refine takeH 26 63 #[true, true, true, true, true, true, true, true, true, true, true, true, true, true, true, true, true, true, true, true, true, true, true, true, true, true, true, false] (v := ?_) rfl rfl rfl (by kernel_rfl) (by kernel_rfl) (by kernel_rfl) (fun _ _ _ h => h) (Or.inl ⟨by rfl, ?_⟩) hHeld ?_
        rotate_left
        · (intro w' hSw; (try dsimp only at hSw); go_simp; (try with_reducible rfl))
        simp only [List.set_cons_zero, List.set_cons_succ]
        refine takeH 27 4 #[true, true, true, true, true, true, true, true, true, true, true, true, true, true, true, true, true, true, true, true, true, true, true, true, true, true, true, true] (v := ?_) rfl rfl rfl (by kernel_rfl) (by kernel_rfl) (by kernel_rfl) (fun _ _ _ h => h) (Or.inl ⟨by rfl, ?_⟩) hHeld ?_
        rotate_left
        · (intro w' hSw; (try dsimp only at hSw); go_simp; (try with_reducible rfl))
        simp only [List.set_cons_zero, List.set_cons_succ]
        refine wpAnyH_done (by kernel_rfl) ?_ _
        refine NoPanic.normal ?_
        go_wp2_with fail
        go_ret
        exact ⟨rfl, hbr.trans (hHeld.mono hbr.size)⟩

theorem zero_walk (A : Option Addr) (n c : Nat) (la : List Nat) (B : Option Addr) (m d : Nat) (lb : List Nat) (w : World) (hra : Rd w w.heap.size 1 A n (la.map bv)) (hba : ∀ c ∈ la, c < 256) (hca : n ≤ c) (hma : c ≤ maxLen)
    (hrb : Rd w w.heap.size 1 B m (lb.map bv)) (hbb : ∀ c ∈ lb, c < 256) (hcb : m ≤ d) (hmb : d ≤ maxLen) :
    Calls Try.prog 6 #[.slice A n c, .slice B m d] w fun e w' => e = .returned (.bool true) ∧ Below w.heap.size w w' := by
  unfold maxLen at hma hmb
  by_cases h : n ≤ m
  · by_cases hn : n ≤ 9000
    · exact zero_a A B n c m d la lb w hra hba hca hrb hbb hcb hn (Nat.le_refl _) h trivial (by omega) (by omega)
    · exact zero_great A B n c m d w (by omega) (by omega) (by omega) (by omega)
  · by_cases hm : m ≤ 9000
    · exact zero_b A B m c n d la lb w hra hba hca hrb hbb hcb hm (by omega) (Nat.le_refl _) (by omega) (by omega) (by omega)
    · exact zero_great A B n c m d w (by omega) (by omega) (by omega) (by omega)
end Go.Proofs.Ytdbibnojeefbpaa
