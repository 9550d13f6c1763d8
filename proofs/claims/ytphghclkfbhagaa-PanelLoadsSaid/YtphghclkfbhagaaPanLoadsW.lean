/- PanelLoads, walked. -/
import Derived.Test.YtphghclkfbhagaaPanelHd
import Derived.Test.YtphghclkfbhagaaPanOps
set_option linter.unusedVariables false
set_option linter.unusedSimpArgs false
set_option maxRecDepth 100000
namespace Go.Proofs.Ytphghclkfbhagaa
open Go Go.RowKit

def rightS (s : Int) : Bool := decide (0 ≤ s) && decide (s < 9)
def fineB (n : Nat) (l : List Int) (j : Nat) : Bool := (l.length == n) && (l.take j).all rightS
theorem fineB_succ (n : Nat) (l : List Int) (j : Nat) (x : Int) (h : l[j]? = some x) : fineB n l (j + 1) = (fineB n l j && rightS x) := by
  have hj := (List.getElem?_eq_some_iff.1 h).1
  have hx := (List.getElem?_eq_some_iff.1 h).2
  unfold fineB
  rw [List.take_succ_eq_append_getElem hj, hx, List.all_append, Bool.and_assoc]
  simp
theorem fineB_end (n : Nat) (l : List Int) (m : Nat) (hm : l.length ≤ m) : fineB n l m = true ↔ okS n l := by
  unfold fineB okS rightS
  rw [List.take_of_length_le hm]
  simp
def wantF : List Int → Int → Int
  | [], a => a
  | s :: r, a => wantF r (if hornI s = 1 ∨ a = 0 then hornI s else a)
theorem wantF_one : ∀ (l : List Int) (h : ∀ s ∈ l, 0 ≤ s ∧ s < 9), wantF l 1 = 1
  | [], _ => rfl
  | s :: r, h => by
    have h1 := h s (by simp)
    have ih := wantF_one r (fun s hs => h s (by simp [hs]))
    unfold wantF
    rcases hornI_cases s h1.1 h1.2 with e | e | e <;> rw [e] <;> simpa using ih
theorem wantF_horn : ∀ (l : List Int) (h : ∀ s ∈ l, 0 ≤ s ∧ s < 9) (a : Int), a = 0 ∨ a = 2 → wantF l a = hornF l a
  | [], _, _, _ => rfl
  | s :: r, h, a, ha => by
    have h1 := h s (by simp)
    have hr : ∀ s ∈ r, 0 ≤ s ∧ s < 9 := fun s hs => h s (by simp [hs])
    have i0 := wantF_horn r hr 0 (.inl rfl)
    have i2 := wantF_horn r hr 2 (.inr rfl)
    have i1 := wantF_one r hr
    unfold wantF hornF
    rcases hornI_cases s h1.1 h1.2 with e | e | e <;> rcases ha with rfl | rfl <;> rw [e] <;> simp [i0, i1, i2]
def LoadIs (d : PD) (l : List Int) (b : Bool) (d' : PD) : Prop := (okS d.K.length l ∧ b = true ∧ d' = d.loaded l) ∨ (¬ okS d.K.length l ∧ b = false ∧ d' = d)
theorem load_gen (p q : Nat) (d : PD) (w : World) (h : HP w p q d) (A1 : Option Addr) (m c1 B : Nat) (l : List Int) (hr : Rd w B 1 A1 m (l.map iv)) (hm : m ≤ 9223372036854775807) :
    Calls Try.prog 16 #[.pointer (some ⟨p, 0, none⟩), .slice A1 m c1] w fun e w' => ∃ b d', e = .returned (.bool b) ∧ HP w' p q d' ∧ Kept (Off p q w) w w' ∧ LoadIs d l b d' := by
  refine (load_any p q d w h A1 m c1 B l hr hm).mono fun e w' ⟨hy, hn, hk⟩ => ?_
  by_cases ho : okS d.K.length l
  · obtain ⟨e1, h1⟩ := hy ho
    exact ⟨true, _, e1, h1, hk, .inl ⟨ho, rfl, rfl⟩⟩
  · obtain ⟨e1, h1⟩ := hn ho
    exact ⟨false, _, e1, h1, hk, .inr ⟨ho, rfl, rfl⟩⟩
theorem fineB_0 (n m : Nat) (l : List Int) (h : l.length = m) : Value.bool ((m : Int) == (n : Int)) = .bool (fineB n l 0) := by
  unfold fineB
  subst h
  simp
  rw [Bool.eq_iff_iff]
  simp
  omega
theorem rd_zrI {w : World} {B n : Nat} {A : Option Addr} (h : Rd w B 1 A n (List.replicate n (.int .i64 0))) : Rd w B 1 A n ((zrI n).map iv) := by
  rw [zrI, List.map_replicate]; exact h
def EndPost (w : World) (e : Ending) (w' : World) : Prop := e = .returned (.bool true) ∧ Below w.heap.size w w'

set_option maxHeartbeats 4000000 in
theorem ploads_walk (A : Option Addr) (n c : Nat) (K : List Int) (A1 : Option Addr) (m c1 : Nat) (l : List Int) (t : Bool) (w : World) (h0 : Rd w w.heap.size 1 A n (K.map iv) ∧ n ≤ c ∧ c ≤ maxLen) (h1 : Rd w w.heap.size 1 A1 m (l.map iv) ∧ m ≤ c1 ∧ c1 ≤ maxLen) :
    Calls Try.prog 4 #[.slice A n c, .slice A1 m c1, .bool t] w (EndPost w) := by
  obtain ⟨hr, hnc, hcm⟩ := h0
  obtain ⟨hrl, hmc, hcm1⟩ := h1
  have hKl : K.length = n := by have := hr.1; simpa using this
  have hll : l.length = m := by have := hrl.1; simpa using this
  have hm63 : m ≤ 9223372036854775807 := by unfold maxLen at hcm1; omega
  have hn63 : n ≤ 9223372036854775807 := by unfold maxLen at hcm; omega
  have HKl := Lib.hid hKl
  have Hll := Lib.hid hll
  clear hKl hll
  have hH := phead_any w
  by_cases hok : okK K
  · have HO := Lib.hid hok
    have hn64 : n ≤ 64 := by have := hok.1; have := HKl.out; omega
    clear hok
    by_cases hm : 300 < m
    · have tm : (300 : Int) < (m : Int) := by omega
      go_enter Try.func4, Try.ntmps4
      go_wp2_with (first
        | (go_at_call 6; (with_reducible refine hH.mono ?_); rintro e w1 ⟨rfl, hb1⟩)
        | (go_at_call 7; (with_reducible refine (pnew_any A n c _ K _ (hr.below hb1) hb1.size hnc hcm).mono ?_)
           rintro e w2 ⟨hy, -, hb2⟩
           obtain ⟨p, q, rfl, lp, lq, h2⟩ := hy HO.out
           have HB : Hid (Below w.heap.size w w2) := hb1.trans (hb2.mono hb1.size)
           clear hb1 hb2 hy h2 lp lq)
        | fail)
      go_ret
      exact ⟨rfl, HB.out⟩
    · have tm : ¬ (300 : Int) < (m : Int) := by omega
      go_enter Try.func4, Try.ntmps4
      go_wp2_with (first
        | (go_at_call 6; (with_reducible refine hH.mono ?_); rintro e w1 ⟨rfl, hb1⟩)
        | (go_at_call 7; (with_reducible refine (pnew_any A n c _ K _ (hr.below hb1) hb1.size hnc hcm).mono ?_)
           rintro e w2 ⟨hy, -, hb2⟩
           obtain ⟨p, q, rfl, lp, lq, h2⟩ := hy HO.out
           have s2 : St w w2 p q ⟨K, List.replicate K.length 0, false, false⟩ := ⟨h2, hb1.trans (hb2.mono hb1.size), Nat.le_trans hb1.size lp, Nat.le_trans hb1.size lq⟩
           clear hb1 hb2 hy h2 lp lq)
        | (go_at_call 11; (with_reducible refine (silence_any p q _ _ s2.h).mono ?_)
           rintro e w3 ⟨rfl, h, k⟩
           have s3 : St w w3 p q ⟨K, List.replicate K.length 0, true, false⟩ := s2.next h k
           clear h k s2)
        | (go_at_call 12; (with_reducible refine (test_any p q _ _ t s3.h).mono ?_)
           rintro e w4 ⟨rfl, h, k⟩
           have s4 : St w w4 p q ⟨K, List.replicate K.length 0, true, t⟩ := s3.next h k
           clear h k s3)
        | (go_at_call 16; (with_reducible refine (load_gen p q _ _ s4.h A1 m c1 _ l (hrl.below s4.b) hm63).mono ?_)
           rintro e w5 ⟨b, d5, rfl, h, k, hL⟩
           have s5 : St w w5 p q d5 := s4.next h k
           have HL := Lib.hid hL
           clear h hL k s4)
        | fail)
      have Hr5 := Lib.hid (hrl.below s5.b)
      have hr5 := Hr5.out
      go_loopg [10, 11] m (fun k f i wr => ∃ j : Nat, k + j = m ∧ i = .int .i64 j ∧ wr = w5 ∧ f = .bool (fineB n l j))
      case atStart => exact ⟨0, by omega, rfl, rfl, fineB_0 n m l Hll.out⟩
      case round =>
        obtain ⟨j, hj, rfl, rfl, rfl⟩ := hrel
        by_cases hlt : j < m
        · have hi0 : (0 : Int) ≤ (j : Int) := by omega
          have hi1 : (j : Int) < (m : Int) := by omega
          obtain ⟨b0, o, rfl, hbB, hc⟩ := hr5.2 (by omega)
          have hjl : j < l.length := by rw [Hll.out]; exact hlt
          obtain ⟨x, hx⟩ : ∃ x, x = l[j] := ⟨_, rfl⟩
          have Hx : Hid (l[j]? = some x) := by rw [hx]; exact List.getElem?_eq_getElem hjl
          have cx : wr.cell? ⟨b0, o + j, none⟩ = some (.int .i64 x) := hc j _ (by rw [List.getElem?_map, Hx.out]; rfl)
          have Hf : Hid (fineB n l (j + 1) = (fineB n l j && rightS x)) := fineB_succ n l j x Hx.out
          obtain ⟨f, hf⟩ : ∃ f, f = fineB n l j := ⟨_, rfl⟩
          have HF := Lib.hid hf
          rw [← hf]
          clear hc hx hjl hf hr5
          cases f
          · have H1 : Hid (fineB n l (j + 1) = false) := by show _ = _; rw [Hf.out, ← HF.out]; rfl
            go_wp2_with fail
            go_roundg (gk - 1)
            case measure => omega
            case rel => exact ⟨j + 1, by omega, by go_num, rfl, by rw [H1.out]⟩
          · by_cases x0 : 0 ≤ x
            · have t0 : decide (0 ≤ x) = true := decide_eq_true x0
              by_cases x9 : x < 9
              · have t9 : decide (x < 9) = true := decide_eq_true x9
                have H1 : Hid (fineB n l (j + 1) = true) := by show _ = _; rw [Hf.out, ← HF.out, rightS, t0, t9]; rfl
                go_wp2_with fail
                go_roundg (gk - 1)
                case measure => omega
                case rel => exact ⟨j + 1, by omega, by go_num, rfl, by rw [H1.out]⟩
              · have t9 : decide (x < 9) = false := decide_eq_false x9
                have H1 : Hid (fineB n l (j + 1) = false) := by show _ = _; rw [Hf.out, ← HF.out, rightS, t0, t9]; rfl
                go_wp2_with fail
                go_roundg (gk - 1)
                case measure => omega
                case rel => exact ⟨j + 1, by omega, by go_num, rfl, by rw [H1.out]⟩
            · have t0 : decide (0 ≤ x) = false := decide_eq_false x0
              have H1 : Hid (fineB n l (j + 1) = false) := by show _ = _; rw [Hf.out, ← HF.out, rightS, t0]; rfl
              go_wp2_with fail
              go_roundg (gk - 1)
              case measure => omega
              case rel => exact ⟨j + 1, by omega, by go_num, rfl, by rw [H1.out]⟩
        · obtain rfl : j = m := by omega
          have HKn : Hid (K.length = n) := HKl
          rcases HL.out with ⟨hok, rfl, hd5⟩ | ⟨hno, rfl, hd5⟩
          · have hok' : okS n l := by rw [← HKl.out]; exact hok
            have hfb : fineB n l j = true := (fineB_end n l j (by rw [Hll.out]; exact Nat.le_refl _)).2 hok'
            rw [hfb]
            have Hd := Lib.hid hd5
            have Hok := Lib.hid hok'
            clear hok hok' hfb hd5 HL
            have HW : Hid (hornF l 0 = wantF l 0) := (wantF_horn l Hok.out.2 0 (.inl rfl)).symm
            have hr5 := Hr5.out
            go_wp2_with fail
            go_loopg [12, 13] j (fun k v i w6 => ∃ (q' : Nat) (a : Int), k + q' = j ∧ i = .int .i64 q' ∧ w6 = wr ∧ v = .int .i64 a ∧ (a = 0 ∨ a = 1 ∨ a = 2) ∧ hornF l 0 = wantF (l.drop q') a)
            case atStart => exact ⟨0, 0, by omega, rfl, rfl, rfl, .inl rfl, HW.out⟩
            case round =>
              obtain ⟨i, a, hi, rfl, rfl, rfl, ha, hinv⟩ := hrel
              have HI := Lib.hid hinv
              clear hinv
              by_cases hlt : i < j
              · have hi0 : (0 : Int) ≤ (i : Int) := by omega
                have hi1 : (i : Int) < (j : Int) := by omega
                obtain ⟨b0, o, rfl, hbB, hc⟩ := hr5.2 (by omega)
                have hjl : i < l.length := by rw [Hll.out]; exact hlt
                obtain ⟨x, hx⟩ : ∃ x, x = l[i] := ⟨_, rfl⟩
                have x1 : 0 ≤ x ∧ x < 9 := by rw [hx]; exact Hok.out.2 _ (List.getElem_mem _)
                have Hx : Hid (l[i]? = some x) := by rw [hx]; exact List.getElem?_eq_getElem hjl
                have cx : World.cell? _ ⟨b0, o + i, none⟩ = some (.int .i64 x) := hc i _ (by rw [List.getElem?_map, Hx.out]; rfl)
                have hdrop : l.drop i = x :: l.drop (i + 1) := by rw [hx]; exact List.drop_eq_getElem_cons hjl
                obtain ⟨y, hy⟩ : ∃ y, y = hornI x := ⟨_, rfl⟩
                have hyc : y = 0 ∨ y = 1 ∨ y = 2 := by rw [hy]; exact hornI_cases x x1.1 x1.2
                have HI2 : Hid (hornF l 0 = wantF (l.drop (i + 1)) (if y = 1 ∨ a = 0 then y else a)) := by
                  show _ = _
                  rw [HI.out, hdrop, hy]; rfl
                have Hy := Lib.hid hy
                clear hc hx hjl hr5 hdrop hy HI
                rcases hyc with rfl | rfl | rfl <;> rcases ha with rfl | rfl | rfl
                all_goals
                  go_wp2_with (first
                    | (go_at_call 19; (with_reducible refine (rhorn_any x _ x1.1 x1.2).mono ?_)
                       rintro e w7 ⟨he, rfl⟩
                       rw [← Hy.out] at he
                       subst he)
                    | fail)
                  go_roundg (gk - 1)
                  case measure => omega
                  case rel => exact ⟨i + 1, _, by omega, by go_num, rfl, rfl, by omega, HI2.out⟩
              · obtain rfl : i = j := by omega
                have HA : Hid (hornF l 0 = a) := by
                  show _ = _
                  rw [HI.out, List.drop_eq_nil_of_le (by rw [Hll.out]; exact Nat.le_refl _)]; rfl
                clear HI
                have Hh : Hid (d5.horn = a) := by show _ = _; rw [Hd.out, ← HA.out]; rfl
                have HSl : Hid (d5.S = l) := by show _ = _; rw [Hd.out]; rfl
                go_wp2_with (first
                  | (go_at_call 15; (with_reducible refine (states_any p q d5 _ s5.h).mono ?_)
                     rintro e w7 ⟨A7, n7, c7, rfl, hl, ho, hb⟩
                     rw [HSl.out] at hl ho
                     obtain rfl : n7 = i := by rw [← hl, Hll.out]
                     have s7 := s5.below hb
                     have HR := Lib.hid (Rd.of_own ho)
                     have HB := Lib.hid hb
                     clear ho hb hl s5)
                  | (go_at_call 17; (with_reducible refine (sameints_any A7 A1 n7 n7 c7 c1 _ l l _ HR.out ((hrl.below s7.b).more s7.b.size) (Nat.le_refl _) (by omega)).mono ?_)
                     rintro e w8 ⟨he, hb⟩
                     rw [decide_eq_true rfl] at he
                     subst he
                     have s8 := s7.below hb
                     clear hb s7)
                  | (go_at_call 18; (with_reducible refine (horn_any p q d5 _ s8.h).mono ?_)
                     rintro e w9 ⟨he, hb⟩
                     rw [Hh.out] at he
                     subst he
                     have s9 := s8.below hb
                     clear hb s8)
                  | fail)
                go_ret
                exact ⟨ret_bool (by simp), s9.b⟩
          · have hno' : ¬ okS n l := by rw [← HKl.out]; exact hno
            have hfb : fineB n l j = false := by
              cases h : fineB n l j
              · rfl
              · exact absurd ((fineB_end n l j (by rw [Hll.out]; exact Nat.le_refl _)).1 h) hno'
            rw [hfb]
            have Hd := Lib.hid hd5
            clear hno hno' hfb hd5 HL
            have hd5 : d5 = ⟨K, zrI n, true, t⟩ := by rw [Hd.out, ← HKl.out]; rfl
            subst hd5
            obtain ⟨i0, hi, hz0, hz1, hz2⟩ := info_parts info_int
            have Hi := Lib.hid hi
            clear hi
            have HN : Hid (n = n) := rfl
            cases t
            all_goals
              go_wp2_with fail
              refine startH (fun w' => Below wr.heap.size wr w') 17 #[false, false, false, false, false, false, false, false, false, false, false, false, false, false, false, false, false] rfl rfl (by kernel_rfl) ?_ (fun hHeld => ?_)
              · (first | exact (Below.refl _ _).drew | assumption)
              refine takeH 0 65 #[true, false, false, false, false, false, false, false, false, false, false, false, false, false, false, false, false] (v := ?_) rfl rfl rfl (by kernel_rfl) (by kernel_rfl) (by kernel_rfl) (fun _ _ _ h => h) (Or.inl ⟨by rfl, ?_⟩) hHeld ?_
              rotate_left
              · (intro w' hSw; (try dsimp only at hSw); go_simp; (try with_reducible rfl))
              simp only [List.set_cons_zero, List.set_cons_succ]
              refine takeH 1 66 #[true, true, false, false, false, false, false, false, false, false, false, false, false, false, false, false, false] (v := ?_) rfl rfl rfl (by kernel_rfl) (by kernel_rfl) (by kernel_rfl) (fun _ _ _ h => h) (Or.inl ⟨by rfl, ?_⟩) hHeld ?_
              rotate_left
              · (intro w' hSw; (try dsimp only at hSw); go_simp; (try with_reducible rfl))
              simp only [List.set_cons_zero, List.set_cons_succ]
              refine takeH 2 67 #[true, true, true, false, false, false, false, false, false, false, false, false, false, false, false, false, false] (v := ?_) rfl rfl rfl (by kernel_rfl) (by kernel_rfl) (by kernel_rfl) (fun _ _ _ h => h) (Or.inl ⟨by rfl, ?_⟩) hHeld ?_
              rotate_left
              · (intro w' hSw; (try dsimp only at hSw); go_simp; (try with_reducible rfl))
              simp only [List.set_cons_zero, List.set_cons_succ]
              refine takeH 4 69 #[true, true, true, false, true, false, false, false, false, false, false, false, false, false, false, false, false] (v := ?_) rfl rfl rfl (by kernel_rfl) (by kernel_rfl) (by kernel_rfl) (fun _ _ _ h => h) (Or.inl ⟨by rfl, ?_⟩) hHeld ?_
              rotate_left
              · (intro w' hSw; (try dsimp only at hSw); go_simp; (try with_reducible rfl))
              simp only [List.set_cons_zero, List.set_cons_succ]
              refine takeH 5 70 #[true, true, true, false, true, true, false, false, false, false, false, false, false, false, false, false, false] (v := ?_) rfl rfl rfl (by kernel_rfl) (by kernel_rfl) (by kernel_rfl) (fun _ _ _ h => h) (Or.inl ⟨by rfl, ?_⟩) hHeld ?_
              rotate_left
              · (intro w' hSw; (try dsimp only at hSw); go_simp; (try with_reducible rfl))
              simp only [List.set_cons_zero, List.set_cons_succ]
              refine wpAnyH_ready (rs := [3, 6]) (by kernel_rfl) (by simp) ?_
              refine (consH 3 68 #[true, true, true, true, true, true, false, false, false, false, false, false, false, false, false, false, false] rfl rfl rfl (by rfl) (fun K hK => ?_) (consH 6 71 #[true, true, true, false, true, true, true, false, false, false, false, false, false, false, false, false, false] rfl rfl rfl (by rfl) (fun K hK => ?_) AllReadyH.nil))
              · go_simp
                (go_at_call 15; (with_reducible refine (states_any p q _ _ (s5.h.below hHeld)).mono ?_))
                rintro e w6 ⟨A6, n6, c6, rfl, hl6, ho6, hb6⟩
                obtain rfl : n = n6 := by rw [← hl6]; simp [zrI]
                try (have ho7 := own_below ho7 hb6)
                have hH6 : Below wr.heap.size wr w6 := hHeld.trans (hb6.mono hHeld.size)
                clear hl6
                refine hK.out _ _ ?_ (fun hHeld' => ?_)
                · (first | exact (Below.refl _ _).drew | assumption)
                clear hK K hHeld
                have hHeld := hHeld'
                clear hHeld'
                simp only [List.set_cons_zero, List.set_cons_succ]
                refine branchH 6 71 #[true, true, true, true, true, true, true, false, false, false, false, false, false, false, false, false, false] (by kernel_rfl) rfl rfl rfl (by rfl) (fun K hK => ?_)
                refine wp_mkq _ (.tmp 70) (.tmp 70) 22 rfl wr.heap.size 3 i0 (.int .i64 0) Try.underlying22 Hi.out hz0 hz1 rfl .i64 .i64 _ _ n n rfl rfl rfl rfl (Nat.le_refl _) (by rw [hz2]; omega) (by unfold maxLen; omega) hHeld.size ?_
                intro w7 q7 hqe hqb ho7 hb7
                clear hqe
                try (have ho6 := own_below ho6 hb7)
                have hH7 : Below wr.heap.size wr w7 := hHeld.trans (hb7.mono hHeld.size)
                refine hK.out _ _ ?_ (fun hHeld' => ?_)
                · (first | exact (Below.refl _ _).drew | assumption)
                clear hK K hHeld
                have hHeld := hHeld'
                clear hHeld'
                simp only [List.set_cons_zero, List.set_cons_succ]
                refine branchH 7 72 #[true, true, true, true, true, true, true, true, false, false, false, false, false, false, false, false, false] (by kernel_rfl) rfl rfl rfl (by rfl) (fun K hK => ?_)
                go_simp
                (go_at_call 17; (with_reducible refine (sameints_any A6 (some ⟨q7, 0, none⟩) n n c6 n _ (zrI n) (zrI n) _ (Rd.of_own ho6) (rd_zrI (Rd.of_own ho7)) (Nat.le_refl _) (by omega)).mono ?_))
                rintro e w8 ⟨he, hb8⟩
                rw [decide_eq_true rfl] at he
                subst he
                have hH8 : Below wr.heap.size wr w8 := hHeld.trans (hb8.mono hHeld.size)
                refine hK.out _ _ ?_ (fun hHeld' => ?_)
                · (first | exact (Below.refl _ _).drew | assumption)
                clear hK K hHeld
                have hHeld := hHeld'
                clear hHeld'
                simp only [List.set_cons_zero, List.set_cons_succ]
                refine takeH 8 73 #[true, true, true, true, true, true, true, true, true, false, false, false, false, false, false, false, false] (v := ?_) rfl rfl rfl (by kernel_rfl) (by kernel_rfl) (by kernel_rfl) (fun _ _ _ h => h) (Or.inl ⟨by rfl, ?_⟩) hHeld ?_
                rotate_left
                · (intro w' hSw; (try dsimp only at hSw); go_simp; (try with_reducible rfl))
                simp only [List.set_cons_zero, List.set_cons_succ]
                refine takeH 9 74 #[true, true, true, true, true, true, true, true, true, true, false, false, false, false, false, false, false] (v := ?_) rfl rfl rfl (by kernel_rfl) (by kernel_rfl) (by kernel_rfl) (fun _ _ _ h => h) (Or.inl ⟨by rfl, ?_⟩) hHeld ?_
                rotate_left
                · (intro w' hSw; (try dsimp only at hSw); go_simp; (try with_reducible rfl))
                simp only [List.set_cons_zero, List.set_cons_succ]
                refine takeH 10 75 #[true, true, true, true, true, true, true, true, true, true, true, false, false, false, false, false, false] (v := ?_) rfl rfl rfl (by kernel_rfl) (by kernel_rfl) (by kernel_rfl) (fun _ _ _ h => h) (Or.inl ⟨by rfl, ?_⟩) hHeld ?_
                rotate_left
                · (intro w' hSw; (try dsimp only at hSw); go_simp; (try with_reducible rfl))
                simp only [List.set_cons_zero, List.set_cons_succ]
                refine takeH 13 78 #[true, true, true, true, true, true, true, true, true, true, true, false, false, true, false, false, false] (v := ?_) rfl rfl rfl (by kernel_rfl) (by kernel_rfl) (by kernel_rfl) (fun _ _ _ h => h) (Or.inl ⟨by rfl, ?_⟩) hHeld ?_
                rotate_left
                · (intro w' hSw; (try dsimp only at hSw); go_simp; (try with_reducible rfl))
                simp only [List.set_cons_zero, List.set_cons_succ]
                refine branchH 11 76 #[true, true, true, true, true, true, true, true, true, true, true, true, false, true, false, false, false] (by kernel_rfl) rfl rfl rfl (by rfl) (fun K hK => ?_)
                go_simp
                (go_at_call 18; (with_reducible refine (horn_any p q _ _ (s5.h.below hHeld)).mono ?_))
                rintro e w9 ⟨he, hb9⟩
                simp only [PD.horn] at he
                subst he
                have hH9 : Below wr.heap.size wr w9 := hHeld.trans (hb9.mono hHeld.size)
                refine hK.out _ _ ?_ (fun hHeld' => ?_)
                · (first | exact (Below.refl _ _).drew | assumption)
                clear hK K hHeld
                have hHeld := hHeld'
                clear hHeld'
                simp only [List.set_cons_zero, List.set_cons_succ]
                refine takeH 12 77 #[true, true, true, true, true, true, true, true, true, true, true, true, true, true, false, false, false] (v := ?_) rfl rfl rfl (by kernel_rfl) (by kernel_rfl) (by kernel_rfl) (fun _ _ _ h => h) (Or.inl ⟨by rfl, ?_⟩) hHeld ?_
                rotate_left
                · (intro w' hSw; (try dsimp only at hSw); go_simp; (try with_reducible rfl))
                simp only [List.set_cons_zero, List.set_cons_succ]
                refine takeH 14 79 #[true, true, true, true, true, true, true, true, true, true, true, true, true, true, true, false, false] (v := ?_) rfl rfl rfl (by kernel_rfl) (by kernel_rfl) (by kernel_rfl) (fun _ _ _ h => h) (Or.inl ⟨by rfl, ?_⟩) hHeld ?_
                rotate_left
                · (intro w' hSw; (try dsimp only at hSw); go_simp; (try with_reducible rfl))
                simp only [List.set_cons_zero, List.set_cons_succ]
                refine takeH 15 80 #[true, true, true, true, true, true, true, true, true, true, true, true, true, true, true, true, false] (v := ?_) rfl rfl rfl (by kernel_rfl) (by kernel_rfl) (by kernel_rfl) (fun _ _ _ h => h) (Or.inl ⟨by rfl, ?_⟩) hHeld ?_
                rotate_left
                · (intro w' hSw; (try dsimp only at hSw); go_simp; (try with_reducible rfl))
                simp only [List.set_cons_zero, List.set_cons_succ]
                refine takeH 16 6 #[true, true, true, true, true, true, true, true, true, true, true, true, true, true, true, true, true] (v := ?_) rfl rfl rfl (by kernel_rfl) (by kernel_rfl) (by kernel_rfl) (fun _ _ _ h => h) (Or.inl ⟨by rfl, ?_⟩) hHeld ?_
                rotate_left
                · (intro w' hSw; (try dsimp only at hSw); go_simp; (try with_reducible rfl))
                simp only [List.set_cons_zero, List.set_cons_succ]
                refine wpAnyH_done (by kernel_rfl) ?_ _
                refine NoPanic.normal ?_
                go_wp2_with fail
                go_ret
                exact ⟨ret_bool (by simp), s5.b.trans (hHeld.mono s5.b.size)⟩
              · refine wp_mkq _ (.tmp 70) (.tmp 70) 22 rfl wr.heap.size 3 i0 (.int .i64 0) Try.underlying22 Hi.out hz0 hz1 rfl .i64 .i64 _ _ n n rfl rfl rfl rfl (Nat.le_refl _) (by rw [hz2]; omega) (by unfold maxLen; omega) hHeld.size ?_
                intro w7 q7 hqe hqb ho7 hb7
                clear hqe
                try (have ho6 := own_below ho6 hb7)
                have hH7 : Below wr.heap.size wr w7 := hHeld.trans (hb7.mono hHeld.size)
                refine hK.out _ _ ?_ (fun hHeld' => ?_)
                · (first | exact (Below.refl _ _).drew | assumption)
                clear hK K hHeld
                have hHeld := hHeld'
                clear hHeld'
                simp only [List.set_cons_zero, List.set_cons_succ]
                refine branchH 3 68 #[true, true, true, true, true, true, true, false, false, false, false, false, false, false, false, false, false] (by kernel_rfl) rfl rfl rfl (by rfl) (fun K hK => ?_)
                go_simp
                (go_at_call 15; (with_reducible refine (states_any p q _ _ (s5.h.below hHeld)).mono ?_))
                rintro e w6 ⟨A6, n6, c6, rfl, hl6, ho6, hb6⟩
                obtain rfl : n = n6 := by rw [← hl6]; simp [zrI]
                try (have ho7 := own_below ho7 hb6)
                have hH6 : Below wr.heap.size wr w6 := hHeld.trans (hb6.mono hHeld.size)
                clear hl6
                refine hK.out _ _ ?_ (fun hHeld' => ?_)
                · (first | exact (Below.refl _ _).drew | assumption)
                clear hK K hHeld
                have hHeld := hHeld'
                clear hHeld'
                simp only [List.set_cons_zero, List.set_cons_succ]
                refine branchH 7 72 #[true, true, true, true, true, true, true, true, false, false, false, false, false, false, false, false, false] (by kernel_rfl) rfl rfl rfl (by rfl) (fun K hK => ?_)
                go_simp
                (go_at_call 17; (with_reducible refine (sameints_any A6 (some ⟨q7, 0, none⟩) n n c6 n _ (zrI n) (zrI n) _ (Rd.of_own ho6) (rd_zrI (Rd.of_own ho7)) (Nat.le_refl _) (by omega)).mono ?_))
                rintro e w8 ⟨he, hb8⟩
                rw [decide_eq_true rfl] at he
                subst he
                have hH8 : Below wr.heap.size wr w8 := hHeld.trans (hb8.mono hHeld.size)
                refine hK.out _ _ ?_ (fun hHeld' => ?_)
                · (first | exact (Below.refl _ _).drew | assumption)
                clear hK K hHeld
                have hHeld := hHeld'
                clear hHeld'
                simp only [List.set_cons_zero, List.set_cons_succ]
                refine takeH 8 73 #[true, true, true, true, true, true, true, true, true, false, false, false, false, false, false, false, false] (v := ?_) rfl rfl rfl (by kernel_rfl) (by kernel_rfl) (by kernel_rfl) (fun _ _ _ h => h) (Or.inl ⟨by rfl, ?_⟩) hHeld ?_
                rotate_left
                · (intro w' hSw; (try dsimp only at hSw); go_simp; (try with_reducible rfl))
                simp only [List.set_cons_zero, List.set_cons_succ]
                refine takeH 9 74 #[true, true, true, true, true, true, true, true, true, true, false, false, false, false, false, false, false] (v := ?_) rfl rfl rfl (by kernel_rfl) (by kernel_rfl) (by kernel_rfl) (fun _ _ _ h => h) (Or.inl ⟨by rfl, ?_⟩) hHeld ?_
                rotate_left
                · (intro w' hSw; (try dsimp only at hSw); go_simp; (try with_reducible rfl))
                simp only [List.set_cons_zero, List.set_cons_succ]
                refine takeH 10 75 #[true, true, true, true, true, true, true, true, true, true, true, false, false, false, false, false, false] (v := ?_) rfl rfl rfl (by kernel_rfl) (by kernel_rfl) (by kernel_rfl) (fun _ _ _ h => h) (Or.inl ⟨by rfl, ?_⟩) hHeld ?_
                rotate_left
                · (intro w' hSw; (try dsimp only at hSw); go_simp; (try with_reducible rfl))
                simp only [List.set_cons_zero, List.set_cons_succ]
                refine takeH 13 78 #[true, true, true, true, true, true, true, true, true, true, true, false, false, true, false, false, false] (v := ?_) rfl rfl rfl (by kernel_rfl) (by kernel_rfl) (by kernel_rfl) (fun _ _ _ h => h) (Or.inl ⟨by rfl, ?_⟩) hHeld ?_
                rotate_left
                · (intro w' hSw; (try dsimp only at hSw); go_simp; (try with_reducible rfl))
                simp only [List.set_cons_zero, List.set_cons_succ]
                refine branchH 11 76 #[true, true, true, true, true, true, true, true, true, true, true, true, false, true, false, false, false] (by kernel_rfl) rfl rfl rfl (by rfl) (fun K hK => ?_)
                go_simp
                (go_at_call 18; (with_reducible refine (horn_any p q _ _ (s5.h.below hHeld)).mono ?_))
                rintro e w9 ⟨he, hb9⟩
                simp only [PD.horn] at he
                subst he
                have hH9 : Below wr.heap.size wr w9 := hHeld.trans (hb9.mono hHeld.size)
                refine hK.out _ _ ?_ (fun hHeld' => ?_)
                · (first | exact (Below.refl _ _).drew | assumption)
                clear hK K hHeld
                have hHeld := hHeld'
                clear hHeld'
                simp only [List.set_cons_zero, List.set_cons_succ]
                refine takeH 12 77 #[true, true, true, true, true, true, true, true, true, true, true, true, true, true, false, false, false] (v := ?_) rfl rfl rfl (by kernel_rfl) (by kernel_rfl) (by kernel_rfl) (fun _ _ _ h => h) (Or.inl ⟨by rfl, ?_⟩) hHeld ?_
                rotate_left
                · (intro w' hSw; (try dsimp only at hSw); go_simp; (try with_reducible rfl))
                simp only [List.set_cons_zero, List.set_cons_succ]
                refine takeH 14 79 #[true, true, true, true, true, true, true, true, true, true, true, true, true, true, true, false, false] (v := ?_) rfl rfl rfl (by kernel_rfl) (by kernel_rfl) (by kernel_rfl) (fun _ _ _ h => h) (Or.inl ⟨by rfl, ?_⟩) hHeld ?_
                rotate_left
                · (intro w' hSw; (try dsimp only at hSw); go_simp; (try with_reducible rfl))
                simp only [List.set_cons_zero, List.set_cons_succ]
                refine takeH 15 80 #[true, true, true, true, true, true, true, true, true, true, true, true, true, true, true, true, false] (v := ?_) rfl rfl rfl (by kernel_rfl) (by kernel_rfl) (by kernel_rfl) (fun _ _ _ h => h) (Or.inl ⟨by rfl, ?_⟩) hHeld ?_
                rotate_left
                · (intro w' hSw; (try dsimp only at hSw); go_simp; (try with_reducible rfl))
                simp only [List.set_cons_zero, List.set_cons_succ]
                refine takeH 16 6 #[true, true, true, true, true, true, true, true, true, true, true, true, true, true, true, true, true] (v := ?_) rfl rfl rfl (by kernel_rfl) (by kernel_rfl) (by kernel_rfl) (fun _ _ _ h => h) (Or.inl ⟨by rfl, ?_⟩) hHeld ?_
                rotate_left
                · (intro w' hSw; (try dsimp only at hSw); go_simp; (try with_reducible rfl))
                simp only [List.set_cons_zero, List.set_cons_succ]
                refine wpAnyH_done (by kernel_rfl) ?_ _
                refine NoPanic.normal ?_
                go_wp2_with fail
                go_ret
                exact ⟨ret_bool (by simp), s5.b.trans (hHeld.mono s5.b.size)⟩
  · have HO := Lib.hid hok
    clear hok
    go_enter Try.func4, Try.ntmps4
    go_wp2_with (first
      | (go_at_call 6; (with_reducible refine hH.mono ?_); rintro e w1 ⟨rfl, hb1⟩)
      | (go_at_call 7; (with_reducible refine (pnew_any A n c _ K _ (hr.below hb1) hb1.size hnc hcm).mono ?_)
         rintro e w2 ⟨-, hn, hb2⟩
         obtain rfl := hn HO.out
         have HB : Hid (Below w.heap.size w w2) := hb1.trans (hb2.mono hb1.size)
         clear hb1 hb2 hn)
      | fail)
    go_ret
    exact ⟨rfl, HB.out⟩
end Go.Proofs.Ytphghclkfbhagaa
