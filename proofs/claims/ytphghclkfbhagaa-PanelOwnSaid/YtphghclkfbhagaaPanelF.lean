/- Panels: Load, Horn, Looks. -/
import Derived.Test.YtphghclkfbhagaaPanelE
set_option linter.unusedVariables false
set_option linter.unusedSimpArgs false
set_option maxRecDepth 100000
namespace Go.Proofs.Ytphghclkfbhagaa
open Go Go.RowKit

def okS (n : Nat) (l : List Int) : Prop := l.length = n ∧ ∀ s ∈ l, 0 ≤ s ∧ s < 9
def PD.loaded (d : PD) (l : List Int) : PD := { d with S := l, silent := false, tested := false }
def LoadPost (p q : Nat) (w : World) (d : PD) (l : List Int) (e : Ending) (w' : World) : Prop :=
  (okS d.K.length l → e = .returned (.bool true) ∧ HP w' p q (d.loaded l)) ∧ (¬ okS d.K.length l → e = .returned (.bool false) ∧ HP w' p q d) ∧ Kept (Off p q w) w w'
theorem load_no_close {p q : Nat} {w : World} {d : PD} {l : List Int} (h : HP w p q d) (hn : ¬ okS d.K.length l) : LoadPost p q w d l (.returned (.bool false)) w :=
  ⟨fun h' => absurd h' hn, fun _ => ⟨rfl, h⟩, Kept.refl _ _⟩
theorem HPc.own {w : World} {p q c : Nat} {A : Option Addr} {d : PD} (h : HPc w p q A c d) : w.ownsRow 0 3 1 (.slice (some ⟨q, 0, none⟩) d.K.length d.K.length) d.K.length (d.S.map iv) := by
  refine ⟨by simp [h.len], .inr ⟨q, d.K.length, _, rfl, Nat.zero_le _, h.hq, Nat.le_refl _, ?_, by simp [h.len], ?_⟩⟩
  · have := h.n64; unfold maxLen; omega
  · rw [Nat.mul_one]; exact List.take_of_length_le (by simp [h.len])
set_option maxHeartbeats 1000000 in
theorem load_any (p q : Nat) (d : PD) (w : World) (h : HP w p q d) (A1 : Option Addr) (m c1 B : Nat) (l : List Int) (hr : Rd w B 1 A1 m (l.map iv)) (hm : m ≤ 9223372036854775807) :
    Calls Try.prog 16 #[.pointer (some ⟨p, 0, none⟩), .slice A1 m c1] w (LoadPost p q w d l) := by
  obtain ⟨A, c, h⟩ := h
  obtain ⟨n, hn⟩ : ∃ n, n = d.K.length := ⟨_, rfl⟩
  have h1 := cell_of_row w p 1 _ _ _ h.hp
  simp [← hn] at h1
  have hl : l.length = m := by have := hr.1; simpa using this
  have h64 : n ≤ 64 := by rw [hn]; exact h.n64
  have Hn := Lib.hid hn
  have Hl := Lib.hid hl
  have H := Lib.hid h
  clear hn h hl
  by_cases hmn : m = n
  · subst hmn
    have t1 : ((m : Int) != (m : Int)) = false := by simp
    go_enter Try.func16, Try.ntmps16
    go_wp2_with fail
    go_loopg [17] m (fun k i wr => ∃ j : Nat, k + j = m ∧ i = .int .i64 j ∧ wr = w ∧ ∀ i x, i < j → l[i]? = some x → 0 ≤ x ∧ x < 9)
    case atStart => exact ⟨0, by omega, rfl, rfl, fun i x hi => absurd hi (by omega)⟩
    case round =>
      obtain ⟨j, hj, rfl, rfl, hok⟩ := hrel
      have Hok := Lib.hid hok
      clear hok
      by_cases hlt : j < m
      · have hi0 : (0 : Int) ≤ (j : Int) := by omega
        have hi1 : (j : Int) < (m : Int) := by omega
        obtain ⟨b, o, rfl, hbB, hc⟩ := hr.2 (by omega)
        have hjl : j < l.length := by rw [Hl.out]; exact hlt
        obtain ⟨x, hx⟩ : ∃ x, x = l[j] := ⟨_, rfl⟩
        have Hx : Hid (l[j]? = some x) := by rw [hx]; exact List.getElem?_eq_getElem hjl
        have c1 : wr.cell? ⟨b, o + j, none⟩ = some (.int .i64 x) := hc j _ (by rw [List.getElem?_map, Hx.out]; rfl)
        clear hc hx hjl
        by_cases x1 : x < 0
        · have t1 : decide (x < 0) = true := decide_eq_true x1
          have HN : Hid (¬ okS d.K.length l) := fun h => by have := (h.2 x (List.mem_of_getElem? Hx.out)).1; omega
          go_wp2_with fail
          go_ret
          exact load_no_close ⟨A, c, H.out⟩ HN.out
        · have t1 : decide (x < 0) = false := decide_eq_false x1
          by_cases h6 : 9 ≤ x
          · have t2 : decide (9 ≤ x) = true := decide_eq_true h6
            have HN : Hid (¬ okS d.K.length l) := fun h => by have := (h.2 x (List.mem_of_getElem? Hx.out)).2; omega
            go_wp2_with fail
            go_ret
            exact load_no_close ⟨A, c, H.out⟩ HN.out
          · have t2 : decide (9 ≤ x) = false := decide_eq_false h6
            go_wp2_with fail
            go_roundg (gk - 1)
            case measure => omega
            case rel =>
              refine ⟨j + 1, by omega, by go_num, rfl, fun i y hi hy => ?_⟩
              by_cases hij : i < j
              · exact Hok.out i y hij hy
              · obtain rfl : i = j := by omega
                rw [Hx.out] at hy
                injection hy with hy
                omega
      · obtain rfl : j = m := by omega
        have HO : Hid (okS d.K.length l) := ⟨by rw [Hl.out, Hn.out], fun k hk => by
          obtain ⟨i, hi⟩ := List.mem_iff_getElem?.1 hk
          exact Hok.out i k (by have := (List.getElem?_eq_some_iff.1 hi).1; have := Hl.out; omega) hi⟩
        have hown := H.out.own
        rw [← Hn.out] at hown
        obtain ⟨i0, hi, hz0, hz1, hz2⟩ := info_parts info_int
        have Hi := Lib.hid hi
        clear hi
        go_wp2_with (first
          | (with_reducible refine wpList_cpy _ rfl (.tmp 31) (.tmp 32) 22 22 rfl 3 Try.underlying22 ?f1 0 q j j _ rfl hown B A1 j c1 (l.map iv) rfl hr (iv_one l) ?_)
          | fail)
        case f1 => rw [Hi.out]; simp [hz1]
        intro w3 hown3 hg3
        have HS : Hid ((d.S.map iv).length = j) := by show _ = _; rw [List.length_map, H.out.len, Hn.out]
        have hx3 : w3.ownsRow 0 3 1 (.slice (some ⟨q, 0, none⟩) j j) j (l.map iv) := by
          have e1 : (l.map iv).take j = l.map iv := List.take_of_length_le (by rw [List.length_map, Hl.out]; omega)
          have e2 : (d.S.map iv).drop j = [] := List.drop_eq_nil_of_le (by rw [HS.out]; omega)
          rw [e1, e2, List.append_nil] at hown3
          exact hown3
        have hq3 := own_whole hx3
        have lp := H.out.lp
        have hpq := H.out.pq
        have hp3 := (hg3.block p lp (fun e => by injection e with e; exact hpq e)).trans H.out.hp
        have c2 := cell_of_row w3 p 2 _ _ _ hp3
        have c3 := cell_of_row w3 p 3 _ _ _ hp3
        simp at c2 c3
        have f2 := frozen_of_row w3 p 2 _ _ hp3
        have f3 := frozen_of_row w3 p 3 _ _ hp3
        have HP3 := Lib.hid hp3
        have HQ3 := Lib.hid hq3
        have HG : Hid (Kept (Off p q wr) wr w3) := ⟨hg3.os, hg3.tape, hg3.output, hg3.size, fun k hk => hg3.block k hk.1 (fun e => by injection e with e; exact hk.2.2 e)⟩
        clear hp3 hq3 hg3 hown3 hx3 hown
        go_wp2_with fail
        go_ret
        refine ⟨fun _ => ⟨rfl, A, c, ?_⟩, fun h => absurd HO.out h, (HG.out.setCell (p := ⟨p, 2, none⟩) (fun h => h.2.1 rfl) _).setCell (p := ⟨p, 3, none⟩) (fun h => h.2.1 rfl) _⟩
        have h0 := H.out
        have hk3 : KRow w3 p q A d.K := h0.hk.keep (fun k h1 h2 h3 => HG.out.block k ⟨h3, h1, h2⟩) HG.out.size
        refine ⟨h0.n64, HO.out.1, h0.kk, HO.out.2, hpq, ?_, ?_, ?_⟩
        · have := heap_set_same (j := 3) (.bool false) (heap_set_same (j := 2) (.bool false) HP3.out)
          simpa [PD.loaded] using this
        · refine hk3.keep (fun k hk _ _ => ?_) (by simp [World.setCell])
          rw [Below.heap_setCell _ _ _ _ hk, Below.heap_setCell _ _ _ _ hk]
        · exact heap_set_other _ (heap_set_other _ HQ3.out hpq.symm) hpq.symm
  · have t1 : ((m : Int) != (n : Int)) = true := by simp [bne]; omega
    have HN : Hid (¬ okS d.K.length l) := fun h => hmn (by rw [← Hl.out, h.1, Hn.out])
    go_enter Try.func16, Try.ntmps16
    go_wp2_with fail
    go_ret
    exact load_no_close ⟨A, c, H.out⟩ HN.out

def hornF : List Int → Int → Int
  | [], h => h
  | s :: r, h => if hornI s = 1 then 1 else if hornI s = 2 then hornF r 2 else hornF r h
def PD.horn (d : PD) : Int := if d.tested then 1 else if d.silent then 0 else hornF d.S 0
theorem hornI_cases (s : Int) (s1 : 0 ≤ s) (s2 : s < 9) : hornI s = 0 ∨ hornI s = 1 ∨ hornI s = 2 := by
  rcases nine s1 s2 with rfl | rfl | rfl | rfl | rfl | rfl | rfl | rfl | rfl <;> decide
set_option maxHeartbeats 1000000 in
theorem horn_any (p q : Nat) (d : PD) (w : World) (h : HP w p q d) :
    Calls Try.prog 18 #[.pointer (some ⟨p, 0, none⟩)] w fun e w' => e = .returned (.int .i64 d.horn) ∧ Below w.heap.size w w' := by
  obtain ⟨A, c, h⟩ := h
  obtain ⟨n, hn⟩ : ∃ n, n = d.K.length := ⟨_, rfl⟩
  have c1 := cell_of_row w p 1 _ _ _ h.hp
  have c2 := cell_of_row w p 2 _ _ _ h.hp
  have c3 := cell_of_row w p 3 _ _ _ h.hp
  simp [← hn] at c1 c2 c3
  have h64 : n ≤ 64 := by rw [hn]; exact h.n64
  have Hn := Lib.hid hn
  have H := Lib.hid h
  clear hn h
  obtain ⟨t, ht⟩ : ∃ t, t = d.tested := ⟨_, rfl⟩
  obtain ⟨s, hs⟩ : ∃ t, t = d.silent := ⟨_, rfl⟩
  obtain ⟨r, hr⟩ : ∃ r, r = d.horn := ⟨_, rfl⟩
  rw [← ht] at c3
  rw [← hs] at c2
  rw [← hr]
  have hr' : r = if t then 1 else if s then 0 else hornF d.S 0 := by rw [hr, ht, hs]; rfl
  clear ht hs hr
  cases t
  · cases s
    · have HR : Hid (r = hornF d.S 0) := hr'
      clear hr'
      go_enter Try.func18, Try.ntmps18
      go_wp2_with fail
      go_loopg [3, 20] n (fun k a i wr => ∃ (j : Nat) (x : Int), k + j = n ∧ i = .int .i64 j ∧ a = .int .i64 x ∧ Below w.heap.size w wr ∧ r = hornF (d.S.drop j) x)
      case atStart => exact ⟨0, 0, by omega, rfl, rfl, Below.refl _ _, by rw [HR.out]; rfl⟩
      case round =>
        obtain ⟨j, a, hj, rfl, rfl, hb, hinv⟩ := hrel
        have HI := Lib.hid hinv
        clear hinv
        by_cases hlt : j < n
        · have hjS : j < d.S.length := by rw [H.out.len, ← Hn.out]; exact hlt
          obtain ⟨x, hx⟩ : ∃ x, x = d.S[j] := ⟨_, rfl⟩
          have x1 : 0 ≤ x ∧ x < 9 := by rw [hx]; exact H.out.ss _ (List.getElem_mem _)
          have cq : wr.cell? ⟨q, j, none⟩ = some (.int .i64 x) := by
            rw [hb.cell (p := ⟨q, j, none⟩) H.out.lq, cell_of_row _ _ _ _ _ _ H.out.hq]
            simp [hx, hjS, iv]
          have hdrop : d.S.drop j = x :: d.S.drop (j + 1) := by rw [hx]; exact List.drop_eq_getElem_cons hjS
          have HI2 : Hid (r = if hornI x = 1 then 1 else if hornI x = 2 then hornF (d.S.drop (j + 1)) 2 else hornF (d.S.drop (j + 1)) a) := by
            show r = _
            rw [HI.out, hdrop]; rfl
          obtain ⟨y, hy⟩ : ∃ y, y = hornI x := ⟨_, rfl⟩
          have hyc : y = 0 ∨ y = 1 ∨ y = 2 := by rw [hy]; exact hornI_cases x x1.1 x1.2
          have Hy := Lib.hid hy
          have hi0 : (0 : Int) ≤ (j : Int) := by omega
          have hi1 : (j : Int) < (n : Int) := by omega
          have HB := Lib.hid hb
          clear hjS hx hdrop hy HI hb
          rcases hyc with rfl | rfl | rfl
          all_goals
            go_wp2_with (first
              | (go_at_call 29; (with_reducible refine (lhorn_any x _ x1.1 x1.2).mono ?_)
                 rintro e w2 ⟨he, hb2⟩
                 rw [← Hy.out] at he
                 subst he
                 have HB2 : Hid (Below w.heap.size w w2) := HB.out.trans (hb2.mono HB.out.size)
                 clear hb2)
              | fail)
          · go_roundg (gk - 1)
            case measure => omega
            case rel => exact ⟨j + 1, a, by omega, by go_num, rfl, HB2.out, by rw [HI2.out, ← Hy.out]; rfl⟩
          · go_ret
            exact ⟨by rw [HI2.out, ← Hy.out]; rfl, HB2.out⟩
          · go_roundg (gk - 1)
            case measure => omega
            case rel => exact ⟨j + 1, 2, by omega, by go_num, rfl, HB2.out, by rw [HI2.out, ← Hy.out]; rfl⟩
        · obtain rfl : j = n := by omega
          have HE : Hid (r = a) := by
            show r = a
            rw [HI.out, List.drop_eq_nil_of_le (by rw [H.out.len, Hn.out]; exact Nat.le_refl _)]; rfl
          have HB := Lib.hid hb
          clear HI hb
          go_wp2_with fail
          go_ret
          exact ⟨by rw [HE.out]; rfl, HB.out⟩
    · subst hr'
      go_enter Try.func18, Try.ntmps18
      go_wp2_with fail
      go_ret
      exact ⟨rfl, Below.refl _ _⟩
  · subst hr'
    go_enter Try.func18, Try.ntmps18
    go_wp2_with fail
    go_ret
    exact ⟨rfl, Below.refl _ _⟩
end Go.Proofs.Ytphghclkfbhagaa
