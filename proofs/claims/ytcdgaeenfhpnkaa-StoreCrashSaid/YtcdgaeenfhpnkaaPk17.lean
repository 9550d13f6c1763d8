/- Package store: Bytes. -/
import Derived.Test.YtcdgaeenfhpnkaaPk16
set_option linter.unusedVariables false
set_option linter.unusedSimpArgs false
set_option maxRecDepth 100000
namespace Go.Proofs.Ytcdgaeenfhpnkaa
open Go Go.RowKit
attribute [local go_sem] Oper.semAt_some

def sixI (t : Int) : List Nat := six t.toNat
def okR (s : St) (l : List Nt) : Prop := okS s ∧ l.length ≤ 32 ∧ ∀ x ∈ l, okN x
instance (s : St) (l : List Nt) : Decidable (okR s l) := by unfold okR; infer_instance
def enc0 (s : St) : List Nat := [s.causes.length, s.effects.length]
def enc1 (s : St) : List Nat := enc0 s ++ s.causes.flatMap encL
def enc2 (s : St) : List Nat := enc1 s ++ s.effects.flatMap encL
def enc3 (s : St) : List Nat := enc2 s ++ s.ends.flatMap sixI
def enc4 (s : St) (l : List Nt) : List Nat := enc3 s ++ [l.length]
def encS (s : St) (l : List Nt) : List Nat := enc4 s l ++ l.flatMap encN
def bytesF (s : St) (l : List Nt) : List Nat := if okR s l then encS s l else []
/-- a row of bytes is made -/
def NewPost (w : World) (xs : List Nat) (e : Ending) (w' : World) : Prop := ∃ v, e = .returned v ∧ w'.ownsRow w.heap.size 5 1 v xs.length (xs.map bv) ∧ Below w.heap.size w w'
theorem flat_len_ {α : Type} (f : α → List Nat) (k : Nat) (h : ∀ a, (f a).length = k) : ∀ l : List α, (l.flatMap f).length = k * l.length
  | [] => by simp
  | a :: l => by rw [List.flatMap_cons, List.length_append, h, flat_len_ f k h l, List.length_cons, Nat.mul_succ]; omega
theorem take_flat {α : Type} (f : α → List Nat) (l : List α) (j : Nat) (x : α) (hx : l[j]? = some x) : (l.take (j + 1)).flatMap f = (l.take j).flatMap f ++ f x := by
  have hj := (List.getElem?_eq_some_iff.1 hx).1
  rw [List.take_succ_eq_append_getElem hj, (List.getElem?_eq_some_iff.1 hx).2]
  simp
set_option maxHeartbeats 4000000 in
theorem bytes_no (v : StV) (s : St) (A : Option Addr) (n c B : Nat) (l : List Nt) (w : World) (h : StR w B v s) (hr : RdS Nt.cells w B 3 A n l) (hn : n ≤ maxLen) (hB : B ≤ w.heap.size) (hno : ¬ okR s l) :
    Calls Try.prog 12 #[.agg #[.slice v.A1 v.n1 v.c1, .slice v.A2 v.n2 v.c2, .slice v.A3 v.n3 v.c3], .slice A n c] w (NewPost w []) := by
  obtain ⟨A1, n1, c1, A2, n2, c2, A3, n3, c3⟩ := v
  have hln : l.length = n := hr.1
  have hn63 : n ≤ 9223372036854775807 := by unfold maxLen at hn; omega
  have al : Below w.heap.size w (w.alloc (.cells #[.slice A1 n1 c1, .slice A2 n2 c2, .slice A3 n3 c3] 25)) := (Below.refl _ _).alloc (Nat.le_refl _) _
  have H := Lib.hid (h.below (al.mono hB))
  have Hr := Lib.hid (hr.below (al.mono hB))
  have Al := Lib.hid al
  have go : decide (okS s) = false ∨ decide (okS s) = true ∧ ¬ (n : Int) ≤ 32 ∨ decide (okS s) = true ∧ (n : Int) ≤ 32 ∧ decide (∀ x ∈ l, okN x) = false := by
    by_cases h1 : okS s
    · by_cases h2 : (n : Int) ≤ 32
      · exact .inr (.inr ⟨decide_eq_true h1, h2, decide_eq_false (fun h3 => hno ⟨h1, by omega, h3⟩)⟩)
      · exact .inr (.inl ⟨decide_eq_true h1, h2⟩)
    · exact .inl (decide_eq_false h1)
  clear h hr al hno
  rcases go with h1 | ⟨h1, h2⟩ | ⟨h1, h2, h3⟩
  all_goals
    have H1 := Lib.hid h1
    clear h1
    try (have H3 := Lib.hid h3; clear h3)
    go_enter Try.func12, Try.ntmps12
    go_wp2_with (first
      | (go_at_call 38; (with_reducible refine (rightState_any ⟨A1, n1, c1, A2, n2, c2, A3, n3, c3⟩ s B _ H.out (Nat.le_trans hB Al.out.size)).mono ?_)
         rintro e w1 ⟨he, hb1⟩
         rw [H1.out] at he
         subst he
         have HB1 := Lib.hid hb1
         clear hb1)
      | (go_at_call 39; (with_reducible refine (all_nt A n c B l _ (Hr.out.below (HB1.out.mono (Nat.le_trans hB Al.out.size))) (Nat.le_trans (Nat.le_trans hB Al.out.size) HB1.out.size) hn).mono ?_)
         rintro e w2 ⟨he, hb2⟩
         rw [H3.out] at he
         subst he
         have HB2 := Lib.hid (HB1.out.trans (hb2.mono HB1.out.size))
         clear hb2))
    go_ret
    first
      | exact ⟨_, rfl, World.ownsRow_nil _ _ _ _, Al.out.trans (HB2.out.mono Al.out.size)⟩
      | exact ⟨_, rfl, World.ownsRow_nil _ _ _ _, Al.out.trans (HB1.out.mono Al.out.size)⟩
theorem okL_t {x : Lt} (h : okL x) : okT x.at_ := by
  unfold okL at h
  split at h
  · exact h
  · rw [h]; unfold okT; dsimp only; omega
set_option maxHeartbeats 8000000 in
theorem bytes_ok (v : StV) (s : St) (A : Option Addr) (n c B : Nat) (l : List Nt) (w : World) (h : StR w B v s) (hr : RdS Nt.cells w B 3 A n l) (hn : n ≤ maxLen) (hB : B ≤ w.heap.size) (hok : okR s l) :
    Calls Try.prog 12 #[.agg #[.slice v.A1 v.n1 v.c1, .slice v.A2 v.n2 v.c2, .slice v.A3 v.n3 v.c3], .slice A n c] w (NewPost w (encS s l)) := by
  obtain ⟨A1, n1, c1, A2, n2, c2, A3, n3, c3⟩ := v
  have hl1 : s.causes.length = n1 := h.r1.1
  have hl2 : s.effects.length = n2 := h.r2.1
  have hl3 : s.ends.length = n3 := h.r3.1
  have hln : l.length = n := hr.1
  have hq1 : n1 ≤ 8 := by have := hok.1.1; omega
  have hq2 : n2 ≤ 8 := by have := hok.1.2.2.1; omega
  have hq3 : n3 ≤ 8 := by have := hok.1.2.1; omega
  have hq4 : n ≤ 32 := by have := hok.2.1; omega
  have hx4 : (n : Int) ≤ 32 := by omega
  have hx1 : (n1 : Int) ≤ 8 := by omega
  have hx2 : (n2 : Int) ≤ 8 := by omega
  have e0 : (enc0 s).length = 2 := rfl
  have e1 : (enc1 s).length ≤ 58 := by unfold enc1; rw [List.length_append, flat_len_ encL 7 (fun _ => rfl), e0]; omega
  have e2 : (enc2 s).length ≤ 114 := by unfold enc2; rw [List.length_append, flat_len_ encL 7 (fun _ => rfl)]; omega
  have e3 : (enc3 s).length ≤ 162 := by unfold enc3; rw [List.length_append, flat_len_ sixI 6 (fun _ => rfl)]; omega
  have e4 : (enc4 s l).length ≤ 163 := by unfold enc4; rw [List.length_append, List.length_singleton]; omega
  have Hlen : Hid ((enc0 s).length ≤ 200 ∧ (enc1 s).length ≤ 200 ∧ (enc2 s).length ≤ 200 ∧ (enc4 s l).length ≤ 200) := ⟨by omega, by omega, by omega, by omega⟩
  have Hlen3 : Hid ((enc3 s).length ≤ 200) := by show _ ≤ _; omega
  have al : Below w.heap.size w (w.alloc (.cells #[.slice A1 n1 c1, .slice A2 n2 c2, .slice A3 n3 c3] 25)) := (Below.refl _ _).alloc (Nat.le_refl _) _
  obtain ⟨wb, hwb⟩ : ∃ x, x = w.alloc (.cells #[.slice A1 n1 c1, .slice A2 n2 c2, .slice A3 n3 c3] 25) := ⟨_, rfl⟩
  rw [← hwb] at al
  have hbx : wb.heap[w.heap.size]? = some (.cells #[.slice A1 n1 c1, .slice A2 n2 c2, .slice A3 n3 c3] 25) := by rw [hwb]; exact heap_alloc_new _ _
  have hzb : w.heap.size + 1 = wb.heap.size := by rw [hwb]; simp
  have Hz : Hid (∀ w', Below (w.heap.size + 1) wb w' → w'.cell? ⟨w.heap.size, 0, none⟩ = some (.slice A1 n1 c1) ∧ w'.cell? ⟨w.heap.size, 1, none⟩ = some (.slice A2 n2 c2) ∧ w'.cell? ⟨w.heap.size, 2, none⟩ = some (.slice A3 n3 c3)) := fun w' hb' =>
    ⟨(hb'.cell (p := ⟨w.heap.size, 0, none⟩) (Nat.lt_succ_self _)).trans (cell_of_row wb w.heap.size 0 _ _ _ hbx), (hb'.cell (p := ⟨w.heap.size, 1, none⟩) (Nat.lt_succ_self _)).trans (cell_of_row wb w.heap.size 1 _ _ _ hbx), (hb'.cell (p := ⟨w.heap.size, 2, none⟩) (Nat.lt_succ_self _)).trans (cell_of_row wb w.heap.size 2 _ _ _ hbx)⟩
  have H := Lib.hid (h.below (al.mono hB))
  have Hr := Lib.hid (hr.below (al.mono hB))
  have Al := Lib.hid al
  have Hzb : Hid (w.heap.size + 1 ≤ wb.heap.size) := by show _ ≤ _; omega
  have Hzb' : Hid (wb.heap.size = w.heap.size + 1) := hzb.symm
  have Hwb := Lib.hid hwb
  have HOk := Lib.hid hok
  have D1 := Lib.hid (decide_eq_true hok.1)
  have D2 := Lib.hid (decide_eq_true hok.2.2)
  have Hl1 := Lib.hid hl1
  have Hl2 := Lib.hid hl2
  have Hl3 := Lib.hid hl3
  have Hln := Lib.hid hln
  have HWn : Hid (#[Value.int .u8 (n : Int)] = (([n] : List Nat).map bv).toArray) := rfl
  have HW0 : Hid (#[Value.int .u8 (n1 : Int), Value.int .u8 (n2 : Int)] = ((enc0 s).map bv).toArray) := by show _ = _; unfold enc0; rw [hl1, hl2]; rfl
  clear h hr al hbx hzb hwb hok hl1 hl2 hl3 hln e0 e1 e2 e3 e4
  go_enter Try.func12, Try.ntmps12
  go_wp2_with (first
    | (rw [← Hwb.out]
       go_at_call 38; (with_reducible refine (rightState_any ⟨A1, n1, c1, A2, n2, c2, A3, n3, c3⟩ s B _ H.out (Nat.le_trans hB Al.out.size)).mono ?_)
       rintro e w1 ⟨he, hb1⟩
       rw [D1.out] at he
       subst he
       have HB1 := Lib.hid hb1
       clear hb1)
    | (go_at_call 39; (with_reducible refine (all_nt A n c B l _ (Hr.out.below (HB1.out.mono (Nat.le_trans hB Al.out.size))) (Nat.le_trans (Nat.le_trans hB Al.out.size) HB1.out.size) hn).mono ?_)
       rintro e w2 ⟨he, hb2⟩
       rw [D2.out] at he
       subst he
       have hb2' : Below (w.heap.size + 1) wb w2 := by
         have h := HB1.out.trans (hb2.mono HB1.out.size)
         rwa [Hzb'.out] at h
       have HB2 := Lib.hid hb2'
       obtain ⟨z0, z1, z2⟩ := Hz.out w2 hb2'
       have hlt2 : w.heap.size < w2.heap.size := by have := hb2'.size; have := Hzb.out; omega
       clear hb2 hb2'))
  rw [HW0.out]
  obtain ⟨w3, hw3⟩ : ∃ x, x = w2.alloc (.cells ((enc0 s).map bv).toArray 5) := ⟨_, rfl⟩
  have hown3 : w3.ownsRow (w.heap.size + 1) 5 1 (.slice (some ⟨w2.heap.size, 0, none⟩) 2 2) 2 ((enc0 s).map bv) := by
    rw [hw3]
    exact ⟨rfl, .inr ⟨w2.heap.size, 2, _, rfl, by omega, heap_alloc_new w2 _, Nat.le_refl _, by simp [maxLen], rfl, rfl⟩⟩
  have hb3 : Below (w.heap.size + 1) wb w3 := by rw [hw3]; exact HB2.out.alloc (by omega) _
  rw [← hw3]
  have Hown3 := Lib.hid hown3
  have HB3 := Lib.hid hb3
  clear hw3 hown3 hb3
  go_loopg [5, 39] n1 (fun k s_ i wr => ∃ (j : Nat) (A : Option Addr) (c : Nat), k + j = n1 ∧ i = .int .i64 j ∧ s_ = .slice A ((enc0 s).length + 7 * j) c ∧ wr.ownsRow (w.heap.size + 1) 5 1 (.slice A ((enc0 s).length + 7 * j) c) ((enc0 s) ++ (s.causes.take j).flatMap encL).length (((enc0 s) ++ (s.causes.take j).flatMap encL).map bv) ∧ Below (w.heap.size + 1) wb wr)
  case atStart => exact ⟨0, some ⟨w2.heap.size, 0, none⟩, 2, by omega, rfl, rfl, by simpa [enc0] using Hown3.out, HB3.out⟩
  case round =>
    obtain ⟨j, A, c, hj, rfl, rfl, hown, hbel⟩ := hrel
    have hbs : w.heap.size + 1 ≤ wr.heap.size := Nat.le_trans Hzb.out hbel.size
    by_cases hlt : j < n1
    · have hi0 : (0 : Int) ≤ (j : Int) := by omega
      have hi1 : (j : Int) < (n1 : Int) := by omega
      have hll := Hl1.out
      obtain ⟨bb, o, rfl, hbB, hc⟩ := (H.out.r1.below (hbel.mono (by omega))).2 (by show 0 < n1; omega)
      obtain ⟨x, hx⟩ : ∃ x, s.causes[j]? = some x := ⟨_, List.getElem?_eq_getElem (by omega)⟩
      have k0 := hc j x hx 0 _ rfl
      have k1 := hc j x hx 1 _ rfl
      have k2 := hc j x hx 2 _ rfl
      rw [Nat.add_zero] at k0
      have hlx : ((enc0 s) ++ (s.causes.take j).flatMap encL).length ≤ 10000 := by
        rw [List.length_append, flat_len_ encL 7 (fun _ => rfl), List.length_take]; have := Hlen.out.1; omega
      have HOkx := Lib.hid (okL_t (HOk.out.1.2.2.2.1 x (List.mem_of_getElem? hx)))
      have hnext : (enc0 s) ++ (s.causes.take (j + 1)).flatMap encL = (enc0 s) ++ (s.causes.take j).flatMap encL ++ encL x := by rw [take_flat encL s.causes j x hx, List.append_assoc]
      have hsl : ((enc0 s) ++ (s.causes.take j).flatMap encL).length = (enc0 s).length + 7 * j := by
        rw [List.length_append, flat_len_ encL 7 (fun _ => rfl), List.length_take]; omega
      have Hown := Lib.hid hown
      have Hlx := Lib.hid hlx
      have Hnext := Lib.hid hnext
      have Hbel := Lib.hid hbel
      have Hsl := Lib.hid hsl
      clear hc hx hown hlx hnext hbel hsl hll
      go_wp2_with (first
        | (go_at_call 40; (with_reducible refine (putLatch_any (w.heap.size + 1) (.slice A ((enc0 s).length + 7 * j) c) ((enc0 s) ++ (s.causes.take j).flatMap encL) x _ (own_below Hown.out ((Below.refl _ wr).alloc (Nat.le_refl _) _)) (by rw [World.size_alloc]; omega) HOkx.out (Nat.le_trans Hlx.out (by decide))).mono ?_)
           rintro e w5 ⟨v5, rfl, hown5, hf5⟩
           have hb5 := hf5.below (own_below Hown.out ((Below.refl _ wr).alloc (Nat.le_refl _) _)) (Nat.le_refl _) (by rw [World.size_alloc]; omega)
           have hb5' : Below (w.heap.size + 1) wb w5 := Hbel.out.trans (((Below.refl _ wr).alloc hbs _).trans hb5)
           have HB5 := Lib.hid hb5'
           obtain ⟨A5, c5, rfl⟩ := own_shape hown5
           have hlen5 : ((enc0 s) ++ (s.causes.take j).flatMap encL ++ encL x).length = (enc0 s).length + 7 * (j + 1) := by
             rw [List.length_append, Hsl.out]
             have : (encL x).length = 7 := rfl
             omega
           have Hown5 := Lib.hid hown5
           rw [hlen5]
           have Hlen5 := Lib.hid hlen5
           clear hown5 hf5 hb5 hb5' hlen5))
      go_roundg (gk - 1)
      case measure => omega
      case rel =>
        refine ⟨j + 1, A5, c5, by omega, by go_num, rfl, ?_, HB5.out⟩
        have h := Hown5.out
        rw [Hnext.out, ← Hlen5.out]
        exact h
    · obtain rfl : n1 = j := by omega
      have hi0 : ¬ ((n1 : Nat) : Int) < (n1 : Int) := by omega
      have hll := Hl1.out
      rw [List.take_of_length_le (by omega)] at hown
      have e : (enc0 s).length + 7 * n1 = (enc1 s).length := by
        show _ = ((enc0 s) ++ s.causes.flatMap encL).length
        rw [List.length_append, flat_len_ encL 7 (fun _ => rfl)]; omega
      rw [e] at hown ⊢
      have hown : wr.ownsRow (w.heap.size + 1) 5 1 (.slice A (enc1 s).length c) (enc1 s).length ((enc1 s).map bv) := hown
      obtain ⟨z0, z1, z2⟩ := Hz.out wr hbel
      clear hll e hlt
      have Hown := Lib.hid hown
      clear hown
      go_wp2_with fail
      go_loopg [5, 50] n2 (fun k s_ i wr => ∃ (j : Nat) (A : Option Addr) (c : Nat), k + j = n2 ∧ i = .int .i64 j ∧ s_ = .slice A ((enc1 s).length + 7 * j) c ∧ wr.ownsRow (w.heap.size + 1) 5 1 (.slice A ((enc1 s).length + 7 * j) c) ((enc1 s) ++ (s.effects.take j).flatMap encL).length (((enc1 s) ++ (s.effects.take j).flatMap encL).map bv) ∧ Below (w.heap.size + 1) wb wr)
      case atStart => exact ⟨0, A, c, by omega, rfl, rfl, by simpa using Hown.out, hbel⟩
      case round =>
        obtain ⟨j, A, c, hj, rfl, rfl, hown, hbel⟩ := hrel
        have hbs : w.heap.size + 1 ≤ wr.heap.size := Nat.le_trans Hzb.out hbel.size
        by_cases hlt : j < n2
        · have hi0 : (0 : Int) ≤ (j : Int) := by omega
          have hi1 : (j : Int) < (n2 : Int) := by omega
          have hll := Hl2.out
          obtain ⟨bb, o, rfl, hbB, hc⟩ := (H.out.r2.below (hbel.mono (by omega))).2 (by show 0 < n2; omega)
          obtain ⟨x, hx⟩ : ∃ x, s.effects[j]? = some x := ⟨_, List.getElem?_eq_getElem (by omega)⟩
          have k0 := hc j x hx 0 _ rfl
          have k1 := hc j x hx 1 _ rfl
          have k2 := hc j x hx 2 _ rfl
          rw [Nat.add_zero] at k0
          have hlx : ((enc1 s) ++ (s.effects.take j).flatMap encL).length ≤ 10000 := by
            rw [List.length_append, flat_len_ encL 7 (fun _ => rfl), List.length_take]; have := Hlen.out.2.1; omega
          have HOkx := Lib.hid (okL_t (HOk.out.1.2.2.2.2.1 x (List.mem_of_getElem? hx)))
          have hnext : (enc1 s) ++ (s.effects.take (j + 1)).flatMap encL = (enc1 s) ++ (s.effects.take j).flatMap encL ++ encL x := by rw [take_flat encL s.effects j x hx, List.append_assoc]
          have hsl : ((enc1 s) ++ (s.effects.take j).flatMap encL).length = (enc1 s).length + 7 * j := by
            rw [List.length_append, flat_len_ encL 7 (fun _ => rfl), List.length_take]; omega
          have Hown := Lib.hid hown
          have Hlx := Lib.hid hlx
          have Hnext := Lib.hid hnext
          have Hbel := Lib.hid hbel
          have Hsl := Lib.hid hsl
          clear hc hx hown hlx hnext hbel hsl hll
          go_wp2_with (first
            | (go_at_call 40; (with_reducible refine (putLatch_any (w.heap.size + 1) (.slice A ((enc1 s).length + 7 * j) c) ((enc1 s) ++ (s.effects.take j).flatMap encL) x _ (own_below Hown.out ((Below.refl _ wr).alloc (Nat.le_refl _) _)) (by rw [World.size_alloc]; omega) HOkx.out (Nat.le_trans Hlx.out (by decide))).mono ?_)
               rintro e w5 ⟨v5, rfl, hown5, hf5⟩
               have hb5 := hf5.below (own_below Hown.out ((Below.refl _ wr).alloc (Nat.le_refl _) _)) (Nat.le_refl _) (by rw [World.size_alloc]; omega)
               have hb5' : Below (w.heap.size + 1) wb w5 := Hbel.out.trans (((Below.refl _ wr).alloc hbs _).trans hb5)
               have HB5 := Lib.hid hb5'
               obtain ⟨A5, c5, rfl⟩ := own_shape hown5
               have hlen5 : ((enc1 s) ++ (s.effects.take j).flatMap encL ++ encL x).length = (enc1 s).length + 7 * (j + 1) := by
                 rw [List.length_append, Hsl.out]
                 have : (encL x).length = 7 := rfl
                 omega
               have Hown5 := Lib.hid hown5
               rw [hlen5]
               have Hlen5 := Lib.hid hlen5
               clear hown5 hf5 hb5 hb5' hlen5))
          go_roundg (gk - 1)
          case measure => omega
          case rel =>
            refine ⟨j + 1, A5, c5, by omega, by go_num, rfl, ?_, HB5.out⟩
            have h := Hown5.out
            rw [Hnext.out, ← Hlen5.out]
            exact h
        · obtain rfl : n2 = j := by omega
          have hi0 : ¬ ((n2 : Nat) : Int) < (n2 : Int) := by omega
          have hll := Hl2.out
          rw [List.take_of_length_le (by omega)] at hown
          have e : (enc1 s).length + 7 * n2 = (enc2 s).length := by
            show _ = ((enc1 s) ++ s.effects.flatMap encL).length
            rw [List.length_append, flat_len_ encL 7 (fun _ => rfl)]; omega
          rw [e] at hown ⊢
          have hown : wr.ownsRow (w.heap.size + 1) 5 1 (.slice A (enc2 s).length c) (enc2 s).length ((enc2 s).map bv) := hown
          obtain ⟨z0, z1, z2⟩ := Hz.out wr hbel
          clear hll e hlt
          have Hown := Lib.hid hown
          clear hown
          go_wp2_with fail
          go_loopg [5, 61] n3 (fun k s_ i wr => ∃ (j : Nat) (A : Option Addr) (c : Nat), k + j = n3 ∧ i = .int .i64 j ∧ s_ = .slice A ((enc2 s).length + 6 * j) c ∧ wr.ownsRow (w.heap.size + 1) 5 1 (.slice A ((enc2 s).length + 6 * j) c) ((enc2 s) ++ (s.ends.take j).flatMap sixI).length (((enc2 s) ++ (s.ends.take j).flatMap sixI).map bv) ∧ Below (w.heap.size + 1) wb wr)
          case atStart => exact ⟨0, A, c, by omega, rfl, rfl, by simpa using Hown.out, hbel⟩
          case round =>
            obtain ⟨j, A, c, hj, rfl, rfl, hown, hbel⟩ := hrel
            have hbs : w.heap.size + 1 ≤ wr.heap.size := Nat.le_trans Hzb.out hbel.size
            by_cases hlt : j < n3
            · have hi0 : (0 : Int) ≤ (j : Int) := by omega
              have hi1 : (j : Int) < (n3 : Int) := by omega
              have hll := Hl3.out
              obtain ⟨bb, o, rfl, hbB, hc⟩ := (H.out.r3.below (hbel.mono (by omega))).2 (by show 0 < n3; omega)
              obtain ⟨x, hx⟩ : ∃ x, s.ends[j]? = some x := ⟨_, List.getElem?_eq_getElem (by omega)⟩
              have k0 := hc j x hx 0 _ rfl
              rw [Nat.add_zero, Nat.mul_one] at k0
              have hlx : ((enc2 s) ++ (s.ends.take j).flatMap sixI).length ≤ 10000 := by
                rw [List.length_append, flat_len_ sixI 6 (fun _ => rfl), List.length_take]; have := Hlen.out.2.2.1; omega
              have hokx := HOk.out.1.2.2.2.2.2 x (List.mem_of_getElem? hx)
              obtain ⟨xn, rfl⟩ : ∃ xn : Nat, x = (xn : Int) := ⟨x.toNat, by unfold okT at hokx; omega⟩
              have HOkx : Hid (xn ≤ 2199023255552) := by unfold okT at hokx; show _ ≤ _; omega
              clear hokx
              have hnext : (enc2 s) ++ (s.ends.take (j + 1)).flatMap sixI = (enc2 s) ++ (s.ends.take j).flatMap sixI ++ six xn := by rw [take_flat sixI s.ends j _ hx, List.append_assoc]; rfl
              have hsl : ((enc2 s) ++ (s.ends.take j).flatMap sixI).length = (enc2 s).length + 6 * j := by
                rw [List.length_append, flat_len_ sixI 6 (fun _ => rfl), List.length_take]; omega
              have Hown := Lib.hid hown
              have Hlx := Lib.hid hlx
              have Hnext := Lib.hid hnext
              have Hbel := Lib.hid hbel
              have Hsl := Lib.hid hsl
              clear hc hx hown hlx hnext hbel hsl hll
              go_wp2_with (first
                | (go_at_call 41; (with_reducible refine (putTime_any (w.heap.size + 1) (.slice A ((enc2 s).length + 6 * j) c) ((enc2 s) ++ (s.ends.take j).flatMap sixI) xn _ Hown.out hbs HOkx.out (Nat.le_trans Hlx.out (by decide))).mono ?_)
                   rintro e w5 ⟨v5, rfl, hown5, hf5⟩
                   have hb5 := hf5.below Hown.out (Nat.le_refl _) hbs
                   have hb5' : Below (w.heap.size + 1) wb w5 := Hbel.out.trans hb5
                   have HB5 := Lib.hid hb5'
                   obtain ⟨A5, c5, rfl⟩ := own_shape hown5
                   have hlen5 : ((enc2 s) ++ (s.ends.take j).flatMap sixI ++ six xn).length = (enc2 s).length + 6 * (j + 1) := by
                     rw [List.length_append, Hsl.out]
                     have : (six xn).length = 6 := rfl
                     omega
                   have Hown5 := Lib.hid hown5
                   rw [hlen5]
                   have Hlen5 := Lib.hid hlen5
                   clear hown5 hf5 hb5 hb5' hlen5))
              go_roundg (gk - 1)
              case measure => omega
              case rel =>
                refine ⟨j + 1, A5, c5, by omega, by go_num, rfl, ?_, HB5.out⟩
                have h := Hown5.out
                rw [Hnext.out, ← Hlen5.out]
                exact h
            · obtain rfl : n3 = j := by omega
              have hi0 : ¬ ((n3 : Nat) : Int) < (n3 : Int) := by omega
              have hll := Hl3.out
              rw [List.take_of_length_le (by omega)] at hown
              have e : (enc2 s).length + 6 * n3 = (enc3 s).length := by
                show _ = ((enc2 s) ++ s.ends.flatMap sixI).length
                rw [List.length_append, flat_len_ sixI 6 (fun _ => rfl)]; omega
              rw [e] at hown ⊢
              have hown : wr.ownsRow (w.heap.size + 1) 5 1 (.slice A (enc3 s).length c) (enc3 s).length ((enc3 s).map bv) := hown
              obtain ⟨z0, z1, z2⟩ := Hz.out wr hbel
              clear hll e hlt
              have Hown := Lib.hid hown
              have Hbel := Lib.hid hbel
              clear hown hbel
              go_wp2_with (first
                | (with_reducible refine wpList_bytes (w0 := wr) rfl (.tmp 69) (.tmp 73) rfl (w.heap.size + 1) (.slice A (enc3 s).length c) (enc3 s).length (enc3 s) Hown.out rfl _ [n] 1 rfl HWn.out rfl rfl (by have := Hlen3.out; omega) hbs ?_
                   intro v6 w6 hown6 hf6
                   have hb6 := Hbel.out.trans (hf6.below Hown.out (Nat.le_refl _) hbs)
                   obtain ⟨A6, c6, rfl⟩ := own_shape hown6
                   have hlen6 : (enc3 s).length + 1 = (enc4 s l).length := by unfold enc4; rw [List.length_append]; rfl
                   have hl4 : enc3 s ++ [n] = enc4 s l := by unfold enc4; rw [Hln.out]
                   rw [hlen6, hl4] at hown6
                   rw [hlen6]
                   have Hown6 := Lib.hid hown6
                   have HB6 := Lib.hid hb6
                   clear hown6 hf6 hb6 hlen6 hl4))
              go_loopg [5, 77] n (fun k s_ i wr => ∃ (j : Nat) (A : Option Addr) (c : Nat), k + j = n ∧ i = .int .i64 j ∧ s_ = .slice A ((enc4 s l).length + 8 * j) c ∧ wr.ownsRow (w.heap.size + 1) 5 1 (.slice A ((enc4 s l).length + 8 * j) c) ((enc4 s l) ++ (l.take j).flatMap encN).length (((enc4 s l) ++ (l.take j).flatMap encN).map bv) ∧ Below (w.heap.size + 1) wb wr)
              case atStart => exact ⟨0, A6, c6, by omega, rfl, rfl, by simpa using Hown6.out, HB6.out⟩
              case round =>
                obtain ⟨j, A, c, hj, rfl, rfl, hown, hbel⟩ := hrel
                have hbs : w.heap.size + 1 ≤ wr.heap.size := Nat.le_trans Hzb.out hbel.size
                by_cases hlt : j < n
                · have hi0 : (0 : Int) ≤ (j : Int) := by omega
                  have hi1 : (j : Int) < (n : Int) := by omega
                  have hll := Hln.out
                  obtain ⟨bb, o, rfl, hbB, hc⟩ := (Hr.out.below (hbel.mono (by omega))).2 (by show 0 < n; omega)
                  obtain ⟨x, hx⟩ : ∃ x, l[j]? = some x := ⟨_, List.getElem?_eq_getElem (by omega)⟩
                  have k0 := hc j x hx 0 _ rfl
                  have k1 := hc j x hx 1 _ rfl
                  have k2 := hc j x hx 2 _ rfl
                  rw [Nat.add_zero] at k0
                  have hlx : ((enc4 s l) ++ (l.take j).flatMap encN).length ≤ 10000 := by
                    rw [List.length_append, flat_len_ encN 8 (fun _ => rfl), List.length_take]; have := Hlen.out.2.2.2; omega
                  have HOkx := Lib.hid (HOk.out.2.2 x (List.mem_of_getElem? hx))
                  have hnext : (enc4 s l) ++ (l.take (j + 1)).flatMap encN = (enc4 s l) ++ (l.take j).flatMap encN ++ encN x := by rw [take_flat encN l j x hx, List.append_assoc]
                  have hsl : ((enc4 s l) ++ (l.take j).flatMap encN).length = (enc4 s l).length + 8 * j := by
                    rw [List.length_append, flat_len_ encN 8 (fun _ => rfl), List.length_take]; omega
                  have Hown := Lib.hid hown
                  have Hlx := Lib.hid hlx
                  have Hnext := Lib.hid hnext
                  have Hbel := Lib.hid hbel
                  have Hsl := Lib.hid hsl
                  clear hc hx hown hlx hnext hbel hsl hll
                  go_wp2_with (first
                    | (go_at_call 42; (with_reducible refine (putNote_any (w.heap.size + 1) (.slice A ((enc4 s l).length + 8 * j) c) ((enc4 s l) ++ (l.take j).flatMap encN) x _ (own_below Hown.out ((Below.refl _ wr).alloc (Nat.le_refl _) _)) (by rw [World.size_alloc]; omega) HOkx.out (Nat.le_trans Hlx.out (by decide))).mono ?_)
                       rintro e w5 ⟨v5, rfl, hown5, hf5⟩
                       have hb5 := hf5.below (own_below Hown.out ((Below.refl _ wr).alloc (Nat.le_refl _) _)) (Nat.le_refl _) (by rw [World.size_alloc]; omega)
                       have hb5' : Below (w.heap.size + 1) wb w5 := Hbel.out.trans (((Below.refl _ wr).alloc hbs _).trans hb5)
                       have HB5 := Lib.hid hb5'
                       obtain ⟨A5, c5, rfl⟩ := own_shape hown5
                       have hlen5 : ((enc4 s l) ++ (l.take j).flatMap encN ++ encN x).length = (enc4 s l).length + 8 * (j + 1) := by
                         rw [List.length_append, Hsl.out]
                         have : (encN x).length = 8 := rfl
                         omega
                       have Hown5 := Lib.hid hown5
                       rw [hlen5]
                       have Hlen5 := Lib.hid hlen5
                       clear hown5 hf5 hb5 hb5' hlen5))
                  go_roundg (gk - 1)
                  case measure => omega
                  case rel =>
                    refine ⟨j + 1, A5, c5, by omega, by go_num, rfl, ?_, HB5.out⟩
                    have h := Hown5.out
                    rw [Hnext.out, ← Hlen5.out]
                    exact h
                · obtain rfl : n = j := by omega
                  have hi0 : ¬ ((n : Nat) : Int) < (n : Int) := by omega
                  have hll := Hln.out
                  rw [List.take_of_length_le (by omega)] at hown
                  have e : (enc4 s l).length + 8 * n = (encS s l).length := by
                    show _ = ((enc4 s l) ++ l.flatMap encN).length
                    rw [List.length_append, flat_len_ encN 8 (fun _ => rfl)]; omega
                  rw [e] at hown ⊢
                  have hown : wr.ownsRow (w.heap.size + 1) 5 1 (.slice A (encS s l).length c) (encS s l).length ((encS s l).map bv) := hown
                  obtain ⟨z0, z1, z2⟩ := Hz.out wr hbel
                  clear hll e hlt
                  go_wp2_with fail
                  go_ret
                  exact ⟨_, rfl, own_base hown (by omega), Al.out.trans (hbel.mono (by omega))⟩
end Go.Proofs.Ytcdgaeenfhpnkaa
