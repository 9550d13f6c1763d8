/- Panels in memory; isNew, New. -/
import Derived.Test.YtphghclkfbhagaaInts
import Derived.Test.YtphghclkfbhagaaFrames
set_option linter.unusedVariables false
set_option linter.unusedSimpArgs false
set_option maxRecDepth 100000
namespace Go.Proofs.Ytphghclkfbhagaa
open Go Go.RowKit

structure PD where
  K : List Int
  S : List Int
  silent : Bool
  tested : Bool

/-- the kinds' row: it lies in neither of two blocks -/
def KRow (w : World) (p q : Nat) (A : Option Addr) (K : List Int) : Prop :=
  0 < K.length → ∃ g, A = some ⟨g, 0, none⟩ ∧ g ≠ p ∧ g ≠ q ∧ g < w.heap.size ∧ ∀ j k, K[j]? = some k → w.cell? ⟨g, j, none⟩ = some (iv k)

structure HPc (w : World) (p q : Nat) (A : Option Addr) (c : Nat) (d : PD) : Prop where
  n64 : d.K.length ≤ 64
  len : d.S.length = d.K.length
  kk : ∀ k ∈ d.K, 1 ≤ k ∧ k ≤ 6
  ss : ∀ s ∈ d.S, 0 ≤ s ∧ s < 9
  pq : p ≠ q
  hp : w.heap[p]? = some (.cells #[.slice A d.K.length c, .slice (some ⟨q, 0, none⟩) d.K.length d.K.length, .bool d.silent, .bool d.tested] 44)
  hk : KRow w p q A d.K
  hq : w.heap[q]? = some (.cells (d.S.map iv).toArray 3)
def HP (w : World) (p q : Nat) (d : PD) : Prop := ∃ A c, HPc w p q A c d

/-- all blocks but two -/
def Off (p q : Nat) (w : World) : Nat → Prop := fun k => k < w.heap.size ∧ k ≠ p ∧ k ≠ q

section
variable {w w1 w2 : World} {p q c : Nat} {A : Option Addr} {d : PD}
theorem HPc.lp (h : HPc w p q A c d) : p < w.heap.size := (Array.getElem?_eq_some_iff.1 h.hp).1
theorem HPc.lq (h : HPc w p q A c d) : q < w.heap.size := (Array.getElem?_eq_some_iff.1 h.hq).1
theorem KRow.keep {K : List Int} (h : KRow w p q A K) (hb : ∀ k, k ≠ p → k ≠ q → k < w.heap.size → w1.heap[k]? = w.heap[k]?) (hs : w.heap.size ≤ w1.heap.size) : KRow w1 p q A K := fun hn => by
  obtain ⟨g, e, h1, h2, h3, h4⟩ := h hn
  refine ⟨g, e, h1, h2, by omega, fun j k hj => ?_⟩
  rw [World.cell?_of_block (w := w) (hb g h1 h2 h3)]
  exact h4 j k hj
theorem HPc.below (h : HPc w p q A c d) (hb : Below w.heap.size w w1) : HPc w1 p q A c d :=
  ⟨h.n64, h.len, h.kk, h.ss, h.pq, (hb.block p h.lp).trans h.hp, h.hk.keep (fun k _ _ hk => hb.block k hk) hb.size, (hb.block q h.lq).trans h.hq⟩
theorem HP.below (h : HP w p q d) (hb : Below w.heap.size w w1) : HP w1 p q d := by
  obtain ⟨A, c, h⟩ := h
  exact ⟨A, c, h.below hb⟩
theorem Off.trans (h : Kept (Off p q w) w w1) (k : Kept (Off p q w1) w1 w2) : Kept (Off p q w) w w2 :=
  Kept.trans h (k.mono fun x hx => ⟨Nat.lt_of_lt_of_le hx.1 h.size, hx.2⟩)
theorem Off.of (h : Below w.heap.size w w1) : Kept (Off p q w) w w1 := Kept.of h fun k hk => hk.1
theorem Off.below {W : World} (hb : Below W.heap.size W w) (h : Kept (Off p q w) w w1) (hp : W.heap.size ≤ p) (hq : W.heap.size ≤ q) : Below W.heap.size W w1 :=
  hb.trans (h.below fun k hk => ⟨Nat.lt_of_lt_of_le hk hb.size, by omega, by omega⟩)
end
theorem own_whole {w : World} {base e n g : Nat} {xs : List Value} (h : w.ownsRow base e 1 (.slice (some ⟨g, 0, none⟩) n n) n xs) : w.heap[g]? = some (.cells xs.toArray e) := by
  rcases h.2 with ⟨hv, _⟩ | ⟨g', cap, cur, hv, hb, hg, hnc, hm, hcs, ht⟩
  · cases hv
  · injection hv with h1 h2 h3
    injection h1 with h1
    injection h1 with h1
    subst h1
    subst h3
    rw [List.take_of_length_le (by simp [hcs])] at ht
    rw [← ht]
    exact hg

theorem wp_mkq {P : Program} (w : World) {o : Oper} {a : Act} {K : Act → World → Prop} {Q : Exit → Act → World → Prop}
    (l c : Operand) (t : TypeId) (hop : o.op = Op.makeSlice t l c)
    (base : Nat) (e : TypeId) (i : TypeInfo) (z : Value) (h1 : P.underlying t = some (.slice e)) (h2 : P.info? e = some i) (h3 : i.zero = some z) (h4 : i.size = 1) (hz1 : z.cells = #[z])
    (kl kc : IntKind) (L C : Int) (n m : Nat) (hl : a.eval l = .int kl L) (hc : a.eval c = .int kc C) (hL : L = (n : Int)) (hC : C = (m : Int)) (hnm : n ≤ m)
    (b2 : i.bytes * m ≤ 281474976710656) (b3 : m ≤ maxLen) (b4 : base ≤ w.heap.size)
    (hK : ∀ w' q, q = w.heap.size → base ≤ q → w'.ownsRow base e 1 (.slice (some ⟨q, 0, none⟩) n m) n (List.replicate n z) → Below w.heap.size w w' → K (a.put o.dst (.slice (some ⟨q, 0, none⟩) n m)) w') :
    o.wp P a w K Q :=
  wp_mk w l c t hop base e i z h1 h2 h3 h4 hz1 kl kc L C n m hl hc hL hC hnm b2 b3 b4 fun w' q1 q2 _ => hK w' _ rfl b4 q1 ((Below.refl _ _).grown q2 (Nat.le_refl _) (by simp))

theorem own_ne {w : World} {base e n c q : Nat} {A : Option Addr} {xs : List Value} (h : w.ownsRow base e 1 (.slice A n c) n xs) (hq : q < base) : ∀ g, A = some ⟨g, 0, none⟩ → 0 < n → g ≠ q := fun g e hn => by
  obtain ⟨_, g', e', hg', _⟩ := own_some h hn
  rw [e] at e'
  injection e' with e'
  injection e' with e'
  omega
theorem own_ne' {w : World} {base e n c q : Nat} {A : Option Addr} {xs : List Value} (h : w.ownsRow base e 1 (.slice A n c) n xs) (hq : q = w.heap.size) : ∀ g, A = some ⟨g, 0, none⟩ → 0 < n → g ≠ q := fun g e hn => by
  obtain ⟨_, g', e', _, hg', _⟩ := own_some h hn
  rw [e] at e'
  injection e' with e'
  injection e' with e'
  omega

def newI (s : Int) : Bool := s == 1 || s == 6
theorem newI_yes {s : Int} (h : newI s = true) : s = 1 ∨ s = 6 := by simpa [newI] using h
theorem newI_no {s : Int} (h : newI s = false) : s ≠ 1 ∧ s ≠ 6 := by simpa [newI] using h
theorem isnew_any (s : Int) (b : Bool) (w : World) (hb : newI s = b) :
    Calls Try.prog 32 #[.int .i64 s] w fun e w' => e = .returned (.bool b) ∧ w' = w := by
  subst hb
  by_cases h1 : s = 1
  · have e : newI s = true := by simp [newI, h1]
    rw [e]
    subst h1
    clear e
    go_enter Try.func32, Try.ntmps32
    go_wp2_with fail
    go_ret
    exact ⟨rfl, rfl⟩
  · by_cases h6 : s = 6
    · have e : newI s = true := by simp [newI, h6]
      rw [e]
      subst h6
      clear e
      go_enter Try.func32, Try.ntmps32
      go_wp2_with fail
      go_ret
      exact ⟨rfl, rfl⟩
    · have e : newI s = false := by simp [newI, h1, h6]
      rw [e]
      have t1 : (s == 1) = false := by simpa using h1
      have t2 : (s == 6) = false := by simpa using h6
      clear e h1 h6
      go_enter Try.func32, Try.ntmps32
      go_wp2_with fail
      go_ret
      exact ⟨rfl, rfl⟩

def okK (l : List Int) : Prop := l.length ≤ 64 ∧ ∀ k ∈ l, 1 ≤ k ∧ k ≤ 6
def NewPost (w : World) (l : List Int) (e : Ending) (w' : World) : Prop :=
  (okK l → ∃ p q, e = .returned (.pointer (some ⟨p, 0, none⟩)) ∧ w.heap.size ≤ p ∧ w.heap.size ≤ q ∧ HP w' p q ⟨l, List.replicate l.length 0, false, false⟩) ∧
  (¬ okK l → e = .returned (.pointer none)) ∧ Below w.heap.size w w'
theorem new_close {w w2 : World} {l : List Int} {A : Option Addr} {n c q b1 b4 : Nat} (hok : okK l) (hl : l.length = n) (hb : Below w.heap.size w w2)
    (h1 : w2.ownsRow b1 3 1 (.slice A n c) n (l.map iv)) (h4 : w2.ownsRow b4 3 1 (.slice (some ⟨q, 0, none⟩) n n) n (List.replicate n (iv 0)))
    (hq : w.heap.size ≤ q) (hne : ∀ g, A = some ⟨g, 0, none⟩ → 0 < n → g ≠ q) :
    NewPost w l (.returned (.pointer (some ⟨w2.heap.size, 0, none⟩))) (w2.alloc (.cells #[.slice A n c, .slice (some ⟨q, 0, none⟩) n n, .bool false, .bool false] 44)) := by
  have hw := own_whole h4
  have hql : q < w2.heap.size := (Array.getElem?_eq_some_iff.1 hw).1
  refine ⟨fun _ => ⟨w2.heap.size, q, rfl, hb.size, hq, A, c, ?_⟩, fun h => absurd hok h, hb.alloc hb.size _⟩
  subst hl
  refine ⟨hok.1, by simp, hok.2, ?_, by omega, heap_alloc_new _ _, ?_, ?_⟩
  · intro s hs
    have := (List.mem_replicate.1 hs).2
    omega
  · intro hn
    obtain ⟨_, g, e, _, hg, hc, _⟩ := own_some h1 hn
    refine ⟨g, e, by omega, hne g e hn, by rw [World.size_alloc]; omega, fun j k hj => ?_⟩
    rw [World.cell?_alloc_lt _ _ _ hg]
    exact hc j _ (by simp only [List.getElem?_map]; rw [hj]; rfl)
  · rw [heap_alloc_keep _ hw]
    simp
theorem new_no_close {w : World} {l : List Int} (h : ¬ okK l) : NewPost w l (.returned (.pointer none)) w := ⟨fun h' => absurd h' h, fun _ => rfl, Below.refl _ _⟩

set_option maxHeartbeats 4000000 in
theorem pnew_any (A : Option Addr) (n c B : Nat) (l : List Int) (w : World) (hr : Rd w B 1 A n (l.map iv)) (hB : B ≤ w.heap.size) (hnc : n ≤ c) (hcm : c ≤ maxLen) :
    Calls Try.prog 7 #[.slice A n c] w (NewPost w l) := by
  have hl : l.length = n := by have := hr.1; simpa using this
  have hnm : n ≤ 9223372036854775807 := by unfold maxLen at hcm; omega
  go_enter Try.func7, Try.ntmps7
  by_cases hn : 64 < n
  · have t : (64 : Int) < (n : Int) := by omega
    have H : Hid (¬ okK l) := fun h => by have := h.1; omega
    clear hl
    go_wp2_with fail
    go_ret
    exact new_no_close H.out
  · have t : ¬ (64 : Int) < (n : Int) := by omega
    have hn64 : n ≤ 64 := by omega
    have Hl := Lib.hid hl
    clear hl
    go_wp2_with fail
    go_loopg [10] n (fun k i wr => ∃ j : Nat, k + j = n ∧ i = .int .i64 j ∧ wr = w ∧ ∀ i x, i < j → l[i]? = some x → 1 ≤ x ∧ x ≤ 6)
    case atStart => exact ⟨0, by omega, rfl, rfl, fun i x hi => absurd hi (by omega)⟩
    case round =>
      obtain ⟨j, hj, rfl, rfl, hok⟩ := hrel
      have Hok := Lib.hid hok
      clear hok
      by_cases hlt : j < n
      · have hi0 : (0 : Int) ≤ (j : Int) := by omega
        have hi1 : (j : Int) < (n : Int) := by omega
        obtain ⟨b, o, rfl, hbB, hc⟩ := hr.2 (by omega)
        have hjl : j < l.length := by rw [Hl.out]; exact hlt
        obtain ⟨x, hx⟩ : ∃ x, x = l[j] := ⟨_, rfl⟩
        have Hx : Hid (l[j]? = some x) := by rw [hx]; exact List.getElem?_eq_getElem hjl
        have c1 : wr.cell? ⟨b, o + j, none⟩ = some (.int .i64 x) := hc j _ (by rw [List.getElem?_map, Hx.out]; rfl)
        clear hc hx hjl
        by_cases h1 : x < 1
        · have t1 : decide (x < 1) = true := decide_eq_true h1
          have H : Hid (¬ okK l) := fun h => by have := (h.2 x (List.mem_of_getElem? Hx.out)).1; omega
          go_wp2_with fail
          go_ret
          exact new_no_close H.out
        · have t1 : decide (x < 1) = false := decide_eq_false h1
          by_cases h6 : 6 < x
          · have t2 : decide (6 < x) = true := decide_eq_true h6
            have H : Hid (¬ okK l) := fun h => by have := (h.2 x (List.mem_of_getElem? Hx.out)).2; omega
            go_wp2_with fail
            go_ret
            exact new_no_close H.out
          · have t2 : decide (6 < x) = false := decide_eq_false h6
            go_wp2_with fail
            go_roundg (gk - 1)
            case measure => omega
            case rel =>
              refine ⟨j + 1, by omega, by go_num, rfl, fun i y hi hy => ?_⟩
              by_cases hij : i < j
              · exact Hok.out i y hij hy
              · obtain rfl : i = j := by omega
                rw [Hx.out] at hy
                injection hy with hy
                omega
      · obtain rfl : j = n := by omega
        have hokK : okK l := ⟨by have := Hl.out; omega, fun k hk => by
          obtain ⟨i, hi⟩ := List.mem_iff_getElem?.1 hk
          exact Hok.out i k (by have := (List.getElem?_eq_some_iff.1 hi).1; have := Hl.out; omega) hi⟩
        have HO := Lib.hid hokK
        clear hokK
        obtain ⟨i0, hi, hz0, hz1, hz2⟩ := info_parts info_int
        have Hi := Lib.hid hi
        clear hi
        go_wp2_with fail
        refine startH (fun w' => Below wr.heap.size wr w') 8 #[false, false, false, false, false, false, false, false] rfl rfl (by kernel_rfl) ?_ (fun hHeld => ?_)
        · (first | exact (Below.refl _ _).drew | assumption | exact hHeld.alloc hHeld.size _)
        refine takeH 0 21 #[true, false, false, false, false, false, false, false] (v := ?_) rfl rfl rfl (by kernel_rfl) (by kernel_rfl) (by kernel_rfl) (fun _ _ _ h => h) (Or.inl ⟨by rfl, ?_⟩) hHeld ?_
        rotate_left
        · (intro w' hSw; (try dsimp only at hSw); go_simp; (try with_reducible rfl))
        simp only [List.set_cons_zero, List.set_cons_succ]
        refine takeH 2 23 #[true, false, true, false, false, false, false, false] (v := ?_) rfl rfl rfl (by kernel_rfl) (by kernel_rfl) (by kernel_rfl) (fun _ _ _ h => h) (Or.inl ⟨by rfl, ?_⟩) hHeld ?_
        rotate_left
        · (intro w' hSw; (try dsimp only at hSw); go_simp; (try with_reducible rfl))
        simp only [List.set_cons_zero, List.set_cons_succ]
        refine takeH 3 24 #[true, false, true, true, false, false, false, false] (v := ?_) rfl rfl rfl (by kernel_rfl) (by kernel_rfl) (by kernel_rfl) (fun _ _ _ h => h) (Or.inl ⟨by rfl, ?_⟩) hHeld ?_
        rotate_left
        · (intro w' hSw; (try dsimp only at hSw); go_simp; (try with_reducible rfl))
        simp only [List.set_cons_zero, List.set_cons_succ]
        refine wpAnyH_ready (rs := [1, 4]) (by kernel_rfl) (by simp) ?_
        refine (consH 1 22 #[true, true, true, true, false, false, false, false] rfl rfl rfl (by rfl) (fun K hK => ?_) (consH 4 25 #[true, false, true, true, true, false, false, false] rfl rfl rfl (by rfl) (fun K hK => ?_) AllReadyH.nil))
        · go_simp
          (go_at_call 21; (with_reducible refine (clone_any A j c _ l _ ((hr.more hB).below hHeld) hHeld.size (by omega) hnc).mono ?_))
          rintro e w1 ⟨A1, c1, rfl, hown1, hb1⟩
          try (have hne := own_ne hown1 (Array.getElem?_eq_some_iff.1 (own_whole hown4)).1)
          try (have hown4 := own_below hown4 hb1)
          have hH1 : Below wr.heap.size wr w1 := hHeld.trans (hb1.mono hHeld.size)
          refine hK.out _ _ ?_ (fun hHeld' => ?_)
          · (first | exact (Below.refl _ _).drew | assumption | exact hHeld.alloc hHeld.size _)
          clear hK K hHeld
          have hHeld := hHeld'
          clear hHeld'
          simp only [List.set_cons_zero, List.set_cons_succ]
          refine branchH 4 25 #[true, true, true, true, true, false, false, false] (by kernel_rfl) rfl rfl rfl (by rfl) (fun K hK => ?_)
          refine wp_mkq _ (.tmp 24) (.tmp 24) 22 rfl wr.heap.size 3 i0 (.int .i64 0) Try.underlying22 Hi.out hz0 hz1 rfl .i64 .i64 _ _ j j rfl rfl rfl rfl (Nat.le_refl _) (by rw [hz2]; omega) (by unfold maxLen; omega) hHeld.size ?_
          intro w4 q hqe hqb hown4 hb4
          try (have hne := own_ne' hown1 hqe)
          clear hqe
          try (have hown1 := own_below hown1 hb4)
          have hH4 : Below wr.heap.size wr w4 := hHeld.trans (hb4.mono hHeld.size)
          refine hK.out _ _ ?_ (fun hHeld' => ?_)
          · (first | exact (Below.refl _ _).drew | assumption | exact hHeld.alloc hHeld.size _)
          clear hK K hHeld
          have hHeld := hHeld'
          clear hHeld'
          simp only [List.set_cons_zero, List.set_cons_succ]
          refine takeH 5 26 #[true, true, true, true, true, true, false, false] (v := ?_) rfl rfl rfl (by kernel_rfl) (by kernel_rfl) (by kernel_rfl) (fun _ _ _ h => h) (Or.inl ⟨by rfl, ?_⟩) hHeld ?_
          rotate_left
          · (intro w' hSw; (try dsimp only at hSw); go_simp; (try with_reducible rfl))
          simp only [List.set_cons_zero, List.set_cons_succ]
          refine branchH 6 27 #[true, true, true, true, true, true, true, false] (by kernel_rfl) rfl rfl rfl (by rfl) (fun K hK => ?_)
          go_simp
          refine hK.out _ _ ?_ (fun hHeld' => ?_)
          · (first | exact (Below.refl _ _).drew | assumption | exact hHeld.alloc hHeld.size _)
          clear hK K hHeld
          have hHeld := hHeld'
          clear hHeld'
          simp only [List.set_cons_zero, List.set_cons_succ]
          refine takeH 7 2 #[true, true, true, true, true, true, true, true] (v := ?_) rfl rfl rfl (by kernel_rfl) (by kernel_rfl) (by kernel_rfl) (fun _ _ _ h => h) (Or.inl ⟨by rfl, ?_⟩) hHeld ?_
          rotate_left
          · (intro w' hSw; (try dsimp only at hSw); go_simp; (try with_reducible rfl))
          simp only [List.set_cons_zero, List.set_cons_succ]
          refine wpAnyH_done (by kernel_rfl) ?_ _
          refine NoPanic.normal ?_
          go_wp2_with fail
          go_ret
          exact new_close HO.out Hl.out (by assumption) hown1 hown4 hqb hne
        · refine wp_mkq _ (.tmp 24) (.tmp 24) 22 rfl wr.heap.size 3 i0 (.int .i64 0) Try.underlying22 Hi.out hz0 hz1 rfl .i64 .i64 _ _ j j rfl rfl rfl rfl (Nat.le_refl _) (by rw [hz2]; omega) (by unfold maxLen; omega) hHeld.size ?_
          intro w4 q hqe hqb hown4 hb4
          try (have hne := own_ne' hown1 hqe)
          clear hqe
          try (have hown1 := own_below hown1 hb4)
          have hH4 : Below wr.heap.size wr w4 := hHeld.trans (hb4.mono hHeld.size)
          refine hK.out _ _ ?_ (fun hHeld' => ?_)
          · (first | exact (Below.refl _ _).drew | assumption | exact hHeld.alloc hHeld.size _)
          clear hK K hHeld
          have hHeld := hHeld'
          clear hHeld'
          simp only [List.set_cons_zero, List.set_cons_succ]
          refine branchH 1 22 #[true, true, true, true, true, false, false, false] (by kernel_rfl) rfl rfl rfl (by rfl) (fun K hK => ?_)
          go_simp
          (go_at_call 21; (with_reducible refine (clone_any A j c _ l _ ((hr.more hB).below hHeld) hHeld.size (by omega) hnc).mono ?_))
          rintro e w1 ⟨A1, c1, rfl, hown1, hb1⟩
          try (have hne := own_ne hown1 (Array.getElem?_eq_some_iff.1 (own_whole hown4)).1)
          try (have hown4 := own_below hown4 hb1)
          have hH1 : Below wr.heap.size wr w1 := hHeld.trans (hb1.mono hHeld.size)
          refine hK.out _ _ ?_ (fun hHeld' => ?_)
          · (first | exact (Below.refl _ _).drew | assumption | exact hHeld.alloc hHeld.size _)
          clear hK K hHeld
          have hHeld := hHeld'
          clear hHeld'
          simp only [List.set_cons_zero, List.set_cons_succ]
          refine takeH 5 26 #[true, true, true, true, true, true, false, false] (v := ?_) rfl rfl rfl (by kernel_rfl) (by kernel_rfl) (by kernel_rfl) (fun _ _ _ h => h) (Or.inl ⟨by rfl, ?_⟩) hHeld ?_
          rotate_left
          · (intro w' hSw; (try dsimp only at hSw); go_simp; (try with_reducible rfl))
          simp only [List.set_cons_zero, List.set_cons_succ]
          refine branchH 6 27 #[true, true, true, true, true, true, true, false] (by kernel_rfl) rfl rfl rfl (by rfl) (fun K hK => ?_)
          go_simp
          refine hK.out _ _ ?_ (fun hHeld' => ?_)
          · (first | exact (Below.refl _ _).drew | assumption | exact hHeld.alloc hHeld.size _)
          clear hK K hHeld
          have hHeld := hHeld'
          clear hHeld'
          simp only [List.set_cons_zero, List.set_cons_succ]
          refine takeH 7 2 #[true, true, true, true, true, true, true, true] (v := ?_) rfl rfl rfl (by kernel_rfl) (by kernel_rfl) (by kernel_rfl) (fun _ _ _ h => h) (Or.inl ⟨by rfl, ?_⟩) hHeld ?_
          rotate_left
          · (intro w' hSw; (try dsimp only at hSw); go_simp; (try with_reducible rfl))
          simp only [List.set_cons_zero, List.set_cons_succ]
          refine wpAnyH_done (by kernel_rfl) ?_ _
          refine NoPanic.normal ?_
          go_wp2_with fail
          go_ret
          exact new_close HO.out Hl.out (by assumption) hown1 hown4 hqb hne
end Go.Proofs.Ytphghclkfbhagaa
