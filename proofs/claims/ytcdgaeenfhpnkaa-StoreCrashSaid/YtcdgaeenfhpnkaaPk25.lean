/- Package store: the last notes. -/
import Derived.Test.YtcdgaeenfhpnkaaPk24
import Derived.Lib.AppendZeros
import Derived.Lib.SliceRun
set_option linter.unusedVariables false
set_option linter.unusedSimpArgs false
set_option maxRecDepth 100000
namespace Go.Proofs.Ytcdgaeenfhpnkaa
open Go Go.RowKit
attribute [local go_sem] Oper.semAt_some

/-- a row of notes is made -/
def NtPost (w : World) (l : List Nt) (e : Ending) (w' : World) : Prop :=
  ∃ A c, e = .returned (.slice A l.length c) ∧ w'.ownsRow w.heap.size 54 3 (.slice A l.length c) l.length (l.flatMap Nt.cells) ∧ Below w.heap.size w w'
theorem flatN_get {α : Type} {enc : α → List Value} {k : Nat} (hk : ∀ a, (enc a).length = k) : ∀ (l : List α) (j : Nat) (u : Value), (l.flatMap enc)[j]? = some u → ∃ (q r : Nat) (x : α), l[q]? = some x ∧ (enc x)[r]? = some u ∧ j = q * k + r
  | [], j, u, h => by simp at h
  | a :: l, j, u, h => by
    rw [List.flatMap_cons] at h
    by_cases hj : j < k
    · rw [List.getElem?_append_left (by rw [hk]; exact hj)] at h
      exact ⟨0, j, a, rfl, h, by omega⟩
    · rw [List.getElem?_append_right (by rw [hk]; omega), hk] at h
      obtain ⟨q, r, x, h1, h2, h3⟩ := flatN_get hk l (j - k) u h
      exact ⟨q + 1, r, x, by simpa using h1, h2, by rw [Nat.succ_mul]; omega⟩
theorem rds_rd {w : World} {B n : Nat} {A : Option Addr} {l : List Nt} (h : RdS Nt.cells w B 3 A n l) : Rd w B 3 A n (l.flatMap Nt.cells) := by
  refine ⟨?_, fun h0 => ?_⟩
  · rw [← h.1]
    have : ∀ l : List Nt, (l.flatMap Nt.cells).length = l.length * 3 := fun l => by
      induction l with
      | nil => rfl
      | cons a l ih => rw [List.flatMap_cons, List.length_append, ih, List.length_cons]; show 3 + _ = _; omega
    exact this l
  · obtain ⟨b, o, e, hb, hc⟩ := h.2 h0
    refine ⟨b, o, e, hb, fun j u hu => ?_⟩
    obtain ⟨q, r, x, h1, h2, h3⟩ := flatN_get (k := 3) (fun _ => rfl) l j u hu
    have := hc q x h1 r u h2
    rwa [show o + j = o + q * 3 + r by omega]
theorem cells_one (l : List Nt) : ∀ u ∈ l.flatMap Nt.cells, u.oneCell' = true := by
  intro u hu
  obtain ⟨x, _, hx⟩ := List.mem_flatMap.1 hu
  simp only [Nt.cells, List.mem_cons, List.not_mem_nil, or_false] at hx
  rcases hx with rfl | rfl | rfl <;> rfl
theorem eql_nil (w : World) (a : Option Addr) (n c : Nat) : (binOp .eql 26 (.slice a n c) (.slice none 0 0)).run Try.prog w = .ok (.bool a.isNone) w := Lib.run_eql_slice_nil w _ _ a n c 0 0 Try.underlying26
theorem clone_nt (A : Option Addr) (n c : Nat) (l : List Nt) (w : World) (h : RdS Nt.cells w w.heap.size 3 A n l) (hn : n ≤ 100000) (hc : n ≤ c) :
    Calls Try.prog 53 #[.slice A n c] w (NtPost w l) := by
  have hl : l.length = n := h.1
  obtain ⟨i0, hi, hz0, hz1, hz2⟩ := info_parts info_nt
  have H := Lib.hid h
  have Hl := Lib.hid hl
  clear h hl
  have q22 := eql_nil
  cases A with
  | none =>
    have hn0 : n = 0 := by
      rcases Nat.eq_zero_or_pos n with h0 | h0
      · exact h0
      · obtain ⟨b, o, e, _⟩ := H.out.2 h0
        cases e
    have hln : l = [] := List.length_eq_zero_iff.1 (by have := Hl.out; omega)
    subst hln
    clear hn0
    go_enter Try.func53, Try.ntmps53
    go_wp2_with fail
    go_ret
    exact ⟨none, 0, rfl, w.ownsRow_nil _ _ _, Below.refl _ _⟩
  | some a =>
    have al : Below w.heap.size w (w.alloc (.cells #[] 54)) := (Below.refl _ _).alloc (Nat.le_refl _) _
    have Al := Lib.hid al
    clear al
    go_enter Try.func53, Try.ntmps53
    go_wp2_with (first
      | (at_builtin
         go_loud (refine wpList_app _ rfl (.tmp 5) (.tmp 6) 26 rfl w.heap.size 54 i0 (.agg #[.int .i64 0, .int .i64 0, .int .i64 0]) 3 24 Try.underlying26 hi hz0 hz1 hz2 rfl (by omega) (.slice (some ⟨w.heap.size, 0, none⟩) 0 0) 0 [] rfl (World.ownsRow_made w #[] 0 (Nat.le_refl _) (by unfold maxLen; omega) rfl) w.heap.size (some a) n c (l.flatMap Nt.cells) rfl (rds_rd (H.out.below Al.out)) (cells_one l) ?g1 ?g2 ?g3 ?_
                  case g1 => unfold maxLen; omega
                  case g2 => omega
                  case g3 => exact Al.out.size
                  intro v' w' hown hg hat
                  rw [Nat.zero_add, List.nil_append] at hown
                  have hlt : w.heap.size < w'.heap.size := by have := hg.size; rw [World.size_alloc] at this; omega
                  have hbel : Below w.heap.size w w' := Al.out.grown hg Al.out.size (by intro q hq; simp [Value.ownBlock] at hq; omega)
                  obtain ⟨A', c', rfl⟩ := own_shape hown
                  have Hown := Lib.hid hown
                  have HB := Lib.hid hbel
                  clear hown hg hat hbel)))
    go_ret
    rw [← Hl.out] at Hown
    rw [← Hl.out]
    exact ⟨A', c', rfl, Hown.out, HB.out⟩
/-- an empty row with spare room -/
theorem grow_nt (n : Nat) (w : World) (hn : n ≤ 100000) :
    Calls Try.prog 83 #[.slice none 0 0, .int .i64 n] w (NtPost w []) := by
  obtain ⟨i0, hi, hz0, hz1, hz2⟩ := info_parts info_nt
  rcases Nat.eq_zero_or_pos n with h0 | h0
  · subst h0
    go_enter Try.func83, Try.ntmps83
    go_wp2_with fail
    go_ret
    exact ⟨none, 0, rfl, w.ownsRow_nil _ _ _, Below.refl _ _⟩
  · have hnI : (n : Int) ≤ 100000 := by omega
    have hn0 : (0 : Int) < (n : Int) := by omega
    have hnn : ¬ (n : Int) < 0 := by omega
    obtain ⟨cap, hcap⟩ : ∃ x, x = grownCap w n 0 54 := ⟨_, rfl⟩
    have hcap1 : n ≤ cap := by rw [hcap]; exact grownCap_ge _ _ _ _
    have hcap2 : cap ≤ maxLen := by rw [hcap]; exact grownCap_le_maxLen _ _ _ _ (by unfold maxLen; omega)
    have hrun := Lib.run_append_nil_zeros w 26 3 26 54 i0 _ .i64 .i64 Try.underlying26 Try.underlying3 hi hz0 n h0 (by omega) (by omega) (by rw [hz2]; omega)
    rw [← hcap] at hrun
    have Hrun := Lib.hid hrun
    have Hcap := Lib.hid hcap
    clear hrun hcap
    go_enter Try.func83, Try.ntmps83
    go_wp2_with (first
      | (at_builtin
         go_loud (refine Lib.wpList_append_run _ rfl (.tmp 20) (.tmp 21) 26 3 rfl _ _ rfl rfl _ _ Hrun.out ?_)))
    go_ret
    have hsz : (Builtin.zeroCells #[Value.int IntKind.i64 0, Value.int IntKind.i64 0, Value.int IntKind.i64 0] n ++ Builtin.zeroCells #[Value.int IntKind.i64 0, Value.int IntKind.i64 0, Value.int IntKind.i64 0] (cap - n)).size = cap * 3 := by
      rw [Array.size_append, size_zeroCells, size_zeroCells]
      show n * 3 + (cap - n) * 3 = cap * 3
      omega
    exact ⟨some ⟨w.heap.size, 0, none⟩, cap, rfl, w.ownsRow_made _ cap (Nat.le_refl _) hcap2 hsz, ((Below.refl _ _).alloc (Nat.le_refl _) _).drew⟩
theorem grow2 (n1 n2 : Nat) (w : World) (h1 : n1 ≤ 10000) (h2 : n2 ≤ 10000) :
    Calls Try.prog 83 #[.slice none 0 0, .int .i64 ((n1 : Int) + (n2 : Int))] w (NtPost w []) := by
  have := grow_nt (n1 + n2) w (by omega)
  rwa [Int.natCast_add] at this
/-! ### Concat -/
theorem flat_app (l1 l2 : List Nt) : (l1 ++ l2).flatMap Nt.cells = l1.flatMap Nt.cells ++ l2.flatMap Nt.cells := List.flatMap_append
set_option maxHeartbeats 4000000 in
theorem concat_nt (b : Nat) (A1 A2 : Option Addr) (n1 n2 c1 c2 : Nat) (l1 l2 : List Nt) (w : World) (h1 : RdS Nt.cells w w.heap.size 3 A1 n1 l1) (h2 : RdS Nt.cells w w.heap.size 3 A2 n2 l2) (hn1 : n1 ≤ 10000) (hn2 : n2 ≤ 10000)
    (hb : w.heap[b]? = some (.cells #[.slice A1 n1 c1, .slice A2 n2 c2] 26)) :
    Calls Try.prog 70 #[.slice (some ⟨b, 0, none⟩) 2 2] w (NtPost w (l1 ++ l2)) := by
  obtain ⟨i0, hi, hz0, hz1, hz2⟩ := info_parts info_nt
  have hlt : b < w.heap.size := (Array.getElem?_eq_some_iff.1 hb).1
  have hcs : Hid (∀ W, Below w.heap.size w W → W.cell? ⟨b, 0, none⟩ = some (.slice A1 n1 c1) ∧ W.cell? ⟨b, 1, none⟩ = some (.slice A2 n2 c2)) := fun W hW => by
    have hb' := (hW.block b hlt).trans hb
    have y0 := cell_of_row W b 0 _ _ _ hb'
    have y1 := cell_of_row W b 1 _ _ _ hb'
    simp at y0 y1
    exact ⟨y0, y1⟩
  obtain ⟨y0, y1⟩ := hcs.out w (Below.refl _ _)
  have H1 := Lib.hid h1
  have H2 := Lib.hid h2
  have hnI1 : (n1 : Int) ≤ 10000 := by omega
  have hnI2 : (n2 : Int) ≤ 10000 := by omega
  clear h1 h2 hb hlt
  go_enter Try.func70, Try.ntmps70
  go_wp2_with fail
  go_loopg [3, 11] 2 (fun k t i wr => wr = w ∧ (k = 2 ∧ i = .int .i64 0 ∧ t = .int .i64 0 ∨ k = 1 ∧ i = .int .i64 1 ∧ t = .int .i64 n1 ∨ k = 0 ∧ i = .int .i64 2 ∧ t = .int .i64 (n1 + n2)))
  case atStart => exact ⟨rfl, .inl ⟨rfl, rfl, rfl⟩⟩
  case round =>
    obtain ⟨hwr, hrel⟩ := hrel
    have hwr' := hwr.symm
    subst hwr'
    obtain ⟨rfl, rfl, rfl⟩ | ⟨rfl, rfl, rfl⟩ | ⟨rfl, rfl, rfl⟩ := hrel
    · go_wp2_with fail
      go_roundg 1
      case measure => omega
      case rel => exact ⟨rfl, .inr (.inl ⟨rfl, rfl, by go_num⟩)⟩
    · go_wp2_with fail
      go_roundg 0
      case measure => omega
      case rel => exact ⟨rfl, .inr (.inr ⟨rfl, rfl, by go_num⟩)⟩
    · go_wp2_with (first
        | (go_at_call 83; (with_reducible refine (grow2 n1 n2 _ hn1 hn2).mono ?_)
           rintro e w1 ⟨A, c, rfl, hown, hb1⟩
           have Hown : Hid (w1.ownsRow w.heap.size 54 3 (.slice A 0 c) 0 []) := hown
           have HB1 := Lib.hid hb1
           clear hown hb1))
      go_loopg [6, 27] 2 (fun k t i wc => Below w.heap.size w wc ∧ (k = 2 ∧ i = .int .i64 0 ∧ wc.ownsRow w.heap.size 54 3 t 0 [] ∨ k = 1 ∧ i = .int .i64 1 ∧ wc.ownsRow w.heap.size 54 3 t n1 (l1.flatMap Nt.cells) ∨ k = 0 ∧ i = .int .i64 2 ∧ wc.ownsRow w.heap.size 54 3 t (n1 + n2) ((l1 ++ l2).flatMap Nt.cells)))
      case atStart => exact ⟨HB1.out, .inl ⟨rfl, rfl, Hown.out⟩⟩
      case round =>
        obtain ⟨hb, ⟨rfl, rfl, ho⟩ | ⟨rfl, rfl, ho⟩ | ⟨rfl, rfl, ho⟩⟩ := hrel
        · obtain ⟨y0, y1⟩ := hcs.out _ hb
          obtain ⟨A', c', rfl⟩ := own_shape ho
          have HB := Lib.hid hb
          have HO := Lib.hid ho
          clear hb ho
          go_wp2_with (first
            | (at_builtin
               refine wpList_app _ rfl (.tmp 31) (.tmp 32) 26 rfl w.heap.size 54 i0 (.agg #[.int .i64 0, .int .i64 0, .int .i64 0]) 3 24 Try.underlying26 hi hz0 hz1 hz2 rfl (by omega) (.slice A' 0 c') 0 [] rfl HO.out w.heap.size A1 n1 c1 (l1.flatMap Nt.cells) rfl (rds_rd (H1.out.below HB.out)) (cells_one l1) ?g1 ?g2 ?g3 ?_
               case g1 => unfold maxLen; omega
               case g2 => omega
               case g3 => exact HB.out.size
               intro v' w' hown hg hat
               rw [Nat.zero_add, List.nil_append] at hown
               have hbel : Below w.heap.size w w' := HB.out.grown hg HB.out.size (fun q hq => (own_at HO.out q hq).1)
               have Hown := Lib.hid hown
               have HB2 := Lib.hid hbel
               clear hown hg hat hbel))
          go_roundg 1
          case measure => omega
          case rel => exact ⟨HB2.out, .inr (.inl ⟨rfl, rfl, Hown.out⟩)⟩
        · obtain ⟨y0, y1⟩ := hcs.out _ hb
          obtain ⟨A', c', rfl⟩ := own_shape ho
          have HB := Lib.hid hb
          have HO := Lib.hid ho
          clear hb ho
          go_wp2_with (first
            | (at_builtin
               refine wpList_app _ rfl (.tmp 31) (.tmp 32) 26 rfl w.heap.size 54 i0 (.agg #[.int .i64 0, .int .i64 0, .int .i64 0]) 3 24 Try.underlying26 hi hz0 hz1 hz2 rfl (by omega) (.slice A' n1 c') n1 (l1.flatMap Nt.cells) rfl HO.out w.heap.size A2 n2 c2 (l2.flatMap Nt.cells) rfl (rds_rd (H2.out.below HB.out)) (cells_one l2) ?g1 ?g2 ?g3 ?_
               case g1 => unfold maxLen; omega
               case g2 => omega
               case g3 => exact HB.out.size
               intro v' w' hown hg hat
               rw [← flat_app] at hown
               have hbel : Below w.heap.size w w' := HB.out.grown hg HB.out.size (fun q hq => (own_at HO.out q hq).1)
               have Hown := Lib.hid hown
               have HB2 := Lib.hid hbel
               clear hown hg hat hbel))
          go_roundg 0
          case measure => omega
          case rel => exact ⟨HB2.out, .inr (.inr ⟨rfl, rfl, Hown.out⟩)⟩
        · obtain ⟨A', c', rfl⟩ := own_shape ho
          have hl : (l1 ++ l2).length = n1 + n2 := by rw [List.length_append, H1.out.1, H2.out.1]
          go_wp2_with fail
          go_ret
          rw [← hl] at ho
          rw [← hl]
          exact ⟨A', c', rfl, ho, hb⟩
/-! ### last -/
theorem rds_of_own {w : World} {base n c : Nat} {A : Option Addr} {l : List Nt} (h : w.ownsRow base 54 3 (.slice A n c) n (l.flatMap Nt.cells)) (hn : l.length = n) : RdS Nt.cells w w.heap.size 3 A n l := rds_own (fun _ => rfl) h hn
def lastN (l : List Nt) : List Nt := l.drop (l.length - 32)
theorem rds_drop {w : World} {B n c a : Nat} {A : Option Addr} {l : List Nt} (h : RdS Nt.cells w B 3 A n l) (ha : a < n) : ∃ b o, A = some ⟨b, o, none⟩ ∧ RdS Nt.cells w B 3 (some ⟨b, o + a * 3, none⟩) (n - a) (l.drop a) := by
  obtain ⟨b, o, e, hb, hc⟩ := h.2 (by omega)
  refine ⟨b, o, e, by rw [List.length_drop, h.1], fun _ => ⟨b, o + a * 3, rfl, hb, fun j r hj i u hi => ?_⟩⟩
  rw [List.getElem?_drop] at hj
  have := hc (a + j) r hj i u hi
  rwa [show o + a * 3 + j * 3 + i = o + (a + j) * 3 + i by omega]
set_option maxHeartbeats 4000000 in
theorem last_any (A1 A2 : Option Addr) (n1 n2 c1 c2 : Nat) (l1 l2 : List Nt) (w : World) (h1 : RdS Nt.cells w w.heap.size 3 A1 n1 l1) (h2 : RdS Nt.cells w w.heap.size 3 A2 n2 l2) (hn1 : n1 ≤ 10000) (hn2 : n2 ≤ 10000) :
    Calls Try.prog 50 #[.slice A1 n1 c1, .slice A2 n2 c2] w (NtPost w (lastN (l1 ++ l2))) := by
  have hl : (l1 ++ l2).length = n1 + n2 := by rw [List.length_append, h1.1, h2.1]
  obtain ⟨wb, hwb⟩ : ∃ x, x = w.alloc (.cells #[.slice A1 n1 c1, .slice A2 n2 c2] 26) := ⟨_, rfl⟩
  have al : Below w.heap.size w wb := by rw [hwb]; exact (Below.refl _ _).alloc (Nat.le_refl _) _
  have hbx : wb.heap[w.heap.size]? = some (.cells #[.slice A1 n1 c1, .slice A2 n2 c2] 26) := by rw [hwb]; exact heap_alloc_new _ _
  obtain ⟨n, hn⟩ : ∃ n, n = n1 + n2 := ⟨_, rfl⟩
  rw [← hn] at hl
  have hnI : (n : Int) ≤ 20000 := by omega
  have H1 := Lib.hid ((h1.below al).more al.size)
  have H2 := Lib.hid ((h2.below al).more al.size)
  have Hl := Lib.hid hl
  have Hwb := Lib.hid hwb
  have Hbx := Lib.hid hbx
  have Al := Lib.hid al
  clear h1 h2 hl hwb hbx al
  have Hn := Lib.hid hn
  clear hn
  by_cases hs : (n : Int) ≤ 32
  · have hlast : lastN (l1 ++ l2) = l1 ++ l2 := by unfold lastN; rw [Hl.out, show n - 32 = 0 by omega]; rfl
    rw [hlast]
    clear hlast
    go_enter Try.func50, Try.ntmps50
    go_wp2_with (first
      | (rw [← Hwb.out]
         go_at_call 70; (with_reducible refine (concat_nt w.heap.size A1 A2 n1 n2 c1 c2 l1 l2 wb H1.out H2.out hn1 hn2 Hbx.out).mono ?_)
         rintro e w1 ⟨A, c, he, hown, hb1⟩
         rw [Hl.out] at he hown
         subst he
         have HB1 := Lib.hid hb1
         have hcap := (own_max hown).1
         have hrd := rds_of_own hown Hl.out
         have Hrd := Lib.hid hrd
         clear hown hb1 hrd)
      | (go_at_call 53; (with_reducible refine (clone_nt A n c (l1 ++ l2) w1 Hrd.out (by omega) hcap).mono ?_)
         rintro e w2 ⟨A', c', he, hown, hb2⟩
         subst he
         have hs1 := Nat.le_trans Al.out.size HB1.out.size
         have Hown := Lib.hid (own_base hown hs1)
         have HB2 := Lib.hid ((Al.out.trans (HB1.out.mono Al.out.size)).trans (hb2.mono hs1))
         clear hown hb2 hs1))
    go_ret
    refine ⟨A', c', ?_, Hown.out, HB2.out⟩
    show Ending.returned (.slice A' (l1.length + l2.length) c') = _
    rw [List.length_append]
  · obtain ⟨a, ha⟩ : ∃ a, a = n - 32 := ⟨_, rfl⟩
    have hlast : lastN (l1 ++ l2) = (l1 ++ l2).drop a := by unfold lastN; rw [Hl.out, ha]
    rw [hlast]
    have ha1 : a < n := by omega
    have haI : (n : Int) - 32 = (a : Int) := by omega
    have haJ : ¬ (a : Int) < 0 := by omega
    have Ha := Lib.hid ha
    clear hlast ha
    go_enter Try.func50, Try.ntmps50
    go_wp2_with (first
      | (rw [← Hwb.out]
         go_at_call 70; (with_reducible refine (concat_nt w.heap.size A1 A2 n1 n2 c1 c2 l1 l2 wb H1.out H2.out hn1 hn2 Hbx.out).mono ?_)
         rintro e w1 ⟨A, c, he, hown, hb1⟩
         rw [Hl.out] at he hown
         subst he
         have HB1 := Lib.hid hb1
         have hcap := (own_max hown).1
         obtain ⟨b, o, rfl, hrd⟩ := rds_drop (c := c) (rds_of_own hown Hl.out) ha1
         have Hrd := Lib.hid hrd
         clear hown hb1 hrd)
      | (go_at_call 53; (with_reducible refine (clone_nt (some ⟨b, o + a * 3, none⟩) (n - a) (c - a) ((l1 ++ l2).drop a) w1 Hrd.out (by omega) (by omega)).mono ?_)
         rintro e w2 ⟨A', c', he, hown, hb2⟩
         subst he
         have hs1 := Nat.le_trans Al.out.size HB1.out.size
         have Hown := Lib.hid (own_base hown hs1)
         have HB2 := Lib.hid ((Al.out.trans (HB1.out.mono Al.out.size)).trans (hb2.mono hs1))
         clear hown hb2 hs1))
    go_ret
    refine ⟨A', c', ?_, Hown.out, HB2.out⟩
    show Ending.returned (.slice A' (l1.length + l2.length - a) c') = _
    rw [List.length_drop, List.length_append]
end Go.Proofs.Ytcdgaeenfhpnkaa
/- Package store: fits, Notes. -/
set_option linter.unusedVariables false
set_option linter.unusedSimpArgs false
set_option maxRecDepth 100000
namespace Go.Proofs.Ytcdgaeenfhpnkaa
open Go Go.RowKit
attribute [local go_sem] Oper.semAt_some

/-- a store, at sb -/
def StoAt (w : World) (sb lb base c e : Nat) (N : List Nt) : Prop :=
  ∃ A n cap, w.heap[sb]? = some (.cells #[.pointer (some ⟨lb, 0, none⟩), .int .i64 c, .int .i64 e, .slice A n cap] 88) ∧ w.ownsRow base 54 3 (.slice A n cap) n (N.flatMap Nt.cells) ∧ N.length = n
theorem StoAt.lt {w : World} {sb lb base c e : Nat} {N : List Nt} (h : StoAt w sb lb base c e N) : sb < w.heap.size := by
  obtain ⟨A, n, cap, h1, _⟩ := h
  exact (Array.getElem?_eq_some_iff.1 h1).1
theorem StoAt.below {w w' : World} {sb lb base c e : Nat} {N : List Nt} (h : StoAt w sb lb base c e N) (hb : Below w.heap.size w w') : StoAt w' sb lb base c e N := by
  have hlt := h.lt
  obtain ⟨A, n, cap, h1, h2, h3⟩ := h
  exact ⟨A, n, cap, (hb.block sb hlt).trans h1, own_below h2 hb, h3⟩
theorem StoAt.chg {w w' : World} {X : Nat → Prop} {sb lb base c e : Nat} {N : List Nt} (h : StoAt w sb lb base c e N) (hc : Chg X w w') (hs : ¬ X sb) (hX : ∀ g cur fr, w.heap[g]? = some (.cells cur 54 fr) → base ≤ g → ¬ X g) : StoAt w' sb lb base c e N := by
  have hlt := h.lt
  obtain ⟨A, n, cap, h1, h2, h3⟩ := h
  exact ⟨A, n, cap, (hc.at_ hlt hs).trans h1, own_chg h2 hc hX, h3⟩
set_option maxHeartbeats 4000000 in
theorem fits_any (sb lb base c e : Nat) (N : List Nt) (v : StV) (s : St) (B : Nat) (w : World) (h : StoAt w sb lb base c e N) (hx : StR w B v s) :
    Calls Try.prog 49 #[.pointer (some ⟨sb, 0, none⟩), .agg #[.slice v.A1 v.n1 v.c1, .slice v.A2 v.n2 v.c2, .slice v.A3 v.n3 v.c3]] w fun ed w' => ed = .returned (.bool (decide (s.causes.length = c ∧ s.effects.length = e))) ∧ Below w.heap.size w w' := by
  obtain ⟨P1, p1, q1, P2, p2, q2, P3, p3, q3⟩ := v
  have hl1 : s.causes.length = p1 := hx.r1.1
  have hl2 : s.effects.length = p2 := hx.r2.1
  have hlt := h.lt
  obtain ⟨A, n, cap, h1, _⟩ := h
  obtain ⟨wb, hwb⟩ : ∃ x, x = w.alloc (.cells #[.slice P1 p1 q1, .slice P2 p2 q2, .slice P3 p3 q3] 25) := ⟨_, rfl⟩
  have al : Below w.heap.size w wb := by rw [hwb]; exact (Below.refl _ _).alloc (Nat.le_refl _) _
  have hbx : wb.heap[w.heap.size]? = some (.cells #[.slice P1 p1 q1, .slice P2 p2 q2, .slice P3 p3 q3] 25) := by rw [hwb]; exact heap_alloc_new _ _
  have hst := (al.block sb hlt).trans h1
  have z0 := cell_of_row wb.drew w.heap.size 0 _ _ _ hbx
  have z1 := cell_of_row wb.drew w.heap.size 1 _ _ _ hbx
  have y1 := cell_of_row wb.drew sb 1 _ _ _ hst
  have y2 := cell_of_row wb.drew sb 2 _ _ _ hst
  simp at z0 z1 y1 y2
  have HS : Hid (wb.drew.cell? ⟨w.heap.size, 0, none⟩ = some (.slice P1 p1 q1) ∧ wb.drew.cell? ⟨w.heap.size, 1, none⟩ = some (.slice P2 p2 q2) ∧ wb.drew.cell? ⟨sb, 1, none⟩ = some (.int .i64 c) ∧ wb.drew.cell? ⟨sb, 2, none⟩ = some (.int .i64 e)) := ⟨z0, z1, y1, y2⟩
  have Hwb := Lib.hid hwb
  have Al := Lib.hid al.drew
  rw [hl1, hl2]
  clear hwb al hbx hst z0 z1 y1 y2 hl1 hl2 h1 hlt hx
  have go : ((p1 : Int) == (c : Int)) = false ∧ decide (p1 = c ∧ p2 = e) = false ∨ p1 = c ∧ ((p2 : Int) == (e : Int)) = decide (p1 = c ∧ p2 = e) := by
    by_cases h1 : p1 = c
    · refine .inr ⟨h1, ?_⟩
      rw [Bool.eq_iff_iff]
      simp only [beq_iff_eq, decide_eq_true_eq]
      omega
    · exact .inl ⟨beq_eq_false_iff_ne.2 (by omega), decide_eq_false (fun h => h1 h.1)⟩
  rcases go with ⟨g1, g2⟩ | ⟨g1, g2⟩
  · have G2 := Lib.hid g2
    clear g2
    go_enter Try.func49, Try.ntmps49
    go_wp2_with fail
    rw [← Hwb.out]
    refine sk (fun w' => w'.cell? ⟨w.heap.size, 0, none⟩ = some (.slice P1 p1 q1) ∧ w'.cell? ⟨w.heap.size, 1, none⟩ = some (.slice P2 p2 q2) ∧ w'.cell? ⟨sb, 1, none⟩ = some (.int .i64 c) ∧ w'.cell? ⟨sb, 2, none⟩ = some (.int .i64 e)) 19 ?_ (fun hHeld => ?_)
    · (exact HS.out)
    refine tk 0 5 hHeld ?_
    refine tk 1 6 hHeld ?_
    refine tk 2 7 hHeld ?_
    refine tk 3 8 hHeld ?_
    refine tk 4 9 hHeld ?_
    refine tk 5 10 hHeld ?_
    refine tk 6 11 hHeld ?_
    refine tk 7 12 hHeld ?_
    refine tk 8 13 hHeld ?_
    refine tn 9 14 hHeld ?_
    refine tn 10 15 hHeld ?_
    refine tn 11 16 hHeld ?_
    refine tn 12 17 hHeld ?_
    refine tn 13 18 hHeld ?_
    refine tn 14 19 hHeld ?_
    refine tn 15 20 hHeld ?_
    refine tn 16 21 hHeld ?_
    refine tk 17 22 hHeld ?_
    refine tk 18 4 hHeld ?_
    refine wpAnyH_done (by kernel_rfl) ?_ _
    refine NoPanic.normal ?_
    go_wp2_with fail
    go_ret
    exact ⟨ret_bool2 G2.out.symm, Al.out⟩
  · subst g1
    have G2 := Lib.hid g2
    clear g2
    go_enter Try.func49, Try.ntmps49
    go_wp2_with fail
    rw [← Hwb.out]
    refine sk (fun w' => w'.cell? ⟨w.heap.size, 0, none⟩ = some (.slice P1 p1 q1) ∧ w'.cell? ⟨w.heap.size, 1, none⟩ = some (.slice P2 p2 q2) ∧ w'.cell? ⟨sb, 1, none⟩ = some (.int .i64 p1) ∧ w'.cell? ⟨sb, 2, none⟩ = some (.int .i64 e)) 19 ?_ (fun hHeld => ?_)
    · (exact HS.out)
    refine tk 0 5 hHeld ?_
    refine tk 1 6 hHeld ?_
    refine tk 2 7 hHeld ?_
    refine tk 3 8 hHeld ?_
    refine tk 4 9 hHeld ?_
    refine tk 5 10 hHeld ?_
    refine tk 6 11 hHeld ?_
    refine tk 7 12 hHeld ?_
    refine tk 8 13 hHeld ?_
    refine tk 9 14 hHeld ?_
    refine tk 10 15 hHeld ?_
    refine tk 11 16 hHeld ?_
    refine tk 12 17 hHeld ?_
    refine tk 13 18 hHeld ?_
    refine tk 14 19 hHeld ?_
    refine tk 15 20 hHeld ?_
    refine tk 16 21 hHeld ?_
    refine tk 17 22 hHeld ?_
    refine tk 18 4 hHeld ?_
    refine wpAnyH_done (by kernel_rfl) ?_ _
    refine NoPanic.normal ?_
    go_wp2_with fail
    go_ret
    exact ⟨ret_bool2 G2.out, Al.out⟩
theorem notes_any (sb lb base c e : Nat) (N : List Nt) (w : World) (h : StoAt w sb lb base c e N) (hN : N.length ≤ 10000) :
    Calls Try.prog 19 #[.pointer (some ⟨sb, 0, none⟩)] w (NtPost w N) := by
  obtain ⟨A, n, cap, h1, h2, h3⟩ := h
  have y3 := cell_of_row w sb 3 _ _ _ h1
  simp at y3
  have hcap := (own_max h2).1
  have Hrd := Lib.hid (rds_of_own h2 h3)
  have H3 := Lib.hid h3
  clear h1 h2 h3
  go_enter Try.func19, Try.ntmps19
  go_wp2_with (first
    | (go_at_call 53; (with_reducible refine (clone_nt A n cap N w Hrd.out (by have := H3.out; omega) hcap).mono ?_)
       rintro e w2 ⟨A', c', rfl, hown, hb2⟩
       have Hown := Lib.hid hown
       have HB2 := Lib.hid hb2
       clear hown hb2))
  go_ret
  exact ⟨A', c', rfl, Hown.out, HB2.out⟩
end Go.Proofs.Ytcdgaeenfhpnkaa
/- Package store: what bytes are, in plain Lean. -/
set_option linter.unusedVariables false
set_option linter.unusedSimpArgs false
set_option maxRecDepth 100000
namespace Go.Proofs.Ytcdgaeenfhpnkaa
open Go Go.RowKit

theorem encS_len (s : St) (l : List Nt) : (encS s l).length = 3 + 7 * s.causes.length + 7 * s.effects.length + 6 * s.ends.length + 8 * l.length := by
  unfold encS enc4 enc3 enc2 enc1 enc0
  simp only [List.length_append, flat_len_ encL 7 encL_len, flat_len_ encN 8 encN_len, flat_len_ sixI 6 (fun _ => rfl), List.length_cons, List.length_nil]
  omega
theorem bytesF_yes {s : St} {l : List Nt} (h : okR s l) : bytesF s l = encS s l := if_pos h
theorem bytesF_no {s : St} {l : List Nt} (h : ¬ okR s l) : bytesF s l = [] := if_neg h
theorem bytesF_len {s : St} {l : List Nt} (h : okR s l) : 1 ≤ (bytesF s l).length ∧ (bytesF s l).length ≤ 448 := by
  rw [bytesF_yes h, encS_len]
  obtain ⟨⟨h1, h2, h3, _⟩, h4, _⟩ := h
  omega
theorem bytesF_ne {s : St} {l : List Nt} (h : okR s l) : bytesF s l ≠ [] := fun e => by
  have := (bytesF_len h).1
  rw [e] at this
  simp at this
theorem six_lt (t : Nat) : ∀ x ∈ six t, x < 256 := by
  intro x hx
  simp only [six, List.mem_cons, List.not_mem_nil, or_false] at hx
  omega
theorem encS_lt {s : St} {l : List Nt} (h : okR s l) : ∀ x ∈ encS s l, x < 256 := by
  obtain ⟨⟨h1, h2, h3, _⟩, h4, h5⟩ := h
  intro x hx
  unfold encS enc4 enc3 enc2 enc1 enc0 at hx
  simp only [List.mem_append, List.mem_flatMap, List.mem_cons, List.not_mem_nil, or_false] at hx
  have hL : ∀ y : Lt, x ∈ encL y → x < 256 := fun y hy => by
    simp only [encL, List.mem_cons] at hy
    rcases hy with rfl | hy
    · cases y.set <;> cases y.first <;> simp [b2]
    · exact six_lt _ _ hy
  rcases hx with (((((rfl | rfl) | ⟨y, _, hy⟩) | ⟨y, _, hy⟩) | ⟨y, _, hy⟩) | rfl) | ⟨y, hm, hy⟩
  · omega
  · omega
  · exact hL y hy
  · exact hL y hy
  · exact six_lt _ _ hy
  · omega
  · obtain ⟨k1, k2, k3, k4, _⟩ := h5 y hm
    simp only [encN, List.mem_append, List.mem_cons, List.not_mem_nil, or_false] at hy
    rcases hy with (rfl | rfl) | hy
    · omega
    · omega
    · exact six_lt _ _ hy
theorem bytesF_lt (s : St) (l : List Nt) : ∀ x ∈ bytesF s l, x < 256 := by
  unfold bytesF
  split
  · exact encS_lt ‹_›
  · intro x hx; simp at hx
theorem lastN_len (l : List Nt) : (lastN l).length ≤ 32 := by unfold lastN; rw [List.length_drop]; omega
theorem lastN_mem {l : List Nt} {x : Nt} (h : x ∈ lastN l) : x ∈ l := List.mem_of_mem_drop h
theorem lastN_small {l : List Nt} (h : l.length ≤ 32) : lastN l = l := by unfold lastN; rw [show l.length - 32 = 0 by omega]; rfl
theorem lastN_app (a l : List Nt) : lastN (lastN a ++ l) = lastN (a ++ l) := by
  unfold lastN
  rw [List.length_append, List.length_append, List.length_drop]
  by_cases h : a.length ≤ 32
  · rw [show a.length - 32 = 0 by omega]
    simp
  · by_cases h2 : l.length ≤ 32
    · rw [List.drop_append_of_le_length (by rw [List.length_drop]; omega), List.drop_append_of_le_length (by omega), List.drop_drop]
      congr 2
      omega
    · have hd : (a.drop (a.length - 32)).length = 32 := by rw [List.length_drop]; omega
      have e1 : (a.drop (a.length - 32)).drop (a.length - (a.length - 32) + l.length - 32) = [] := List.drop_eq_nil_of_le (by omega)
      have e2 : a.drop (a.length + l.length - 32) = [] := List.drop_eq_nil_of_le (by omega)
      rw [List.drop_append, List.drop_append, e1, e2, hd, List.nil_append, List.nil_append]
      congr 1
      omega
/-- notes put behind others are right, if these are -/
theorem okR_last {s : St} {l N : List Nt} (h : okR s l) (hN : ∀ x ∈ N, okN x) : okR s (lastN (N ++ l)) := by
  refine ⟨h.1, lastN_len _, fun x hx => ?_⟩
  rcases List.mem_append.1 (lastN_mem hx) with h1 | h1
  · exact hN x h1
  · exact h.2.2 x h1
end Go.Proofs.Ytcdgaeenfhpnkaa
