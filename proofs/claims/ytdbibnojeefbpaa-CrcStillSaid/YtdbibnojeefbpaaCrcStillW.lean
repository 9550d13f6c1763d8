/- CrcStill, walked: what is handed in is as it was; what is sealed, or opened, is new memory. -/
import Derived.Test.YtdbibnojeefbpaaCrcHead
set_option linter.unusedVariables false
set_option linter.unusedSimpArgs false
set_option maxRecDepth 100000
namespace Go.Proofs.Ytdbibnojeefbpaa
open Go Go.RowKit CrcMath

set_option maxHeartbeats 2000000 in
theorem still_great (A : Option Addr) (n c : Nat) (w : World) (hn : 9000 < n) (hn2 : n ≤ 9223372036854775807) :
    Calls Try.prog 8 #[.slice A n c] w fun e w' => e = .returned (.bool true) ∧ Below w.heap.size w w' := by
  have h0 : (9000 : Int) < (n : Int) := by omega
  go_enter Try.func8, Try.ntmps8
  go_wp2_with (go_at_call 9; (with_reducible refine (head_any _).mono ?_); rintro e w1 ⟨rfl, hb1⟩)
  go_ret
  exact ⟨rfl, hb1⟩

def OpenTo (w : World) (l : List Nat) (n : Nat) (e : Ending) (w' : World) : Prop :=
  ∃ A' c', e = .returned (.tuple #[.slice A' n c', .bool true]) ∧ w'.ownsRow w.heap.size 5 1 (.slice A' n c') n (l.map bv) ∧ Below w.heap.size w w'
theorem open_seal (A : Option Addr) (n c : Nat) (l : List Nat) (w : World) (hr : Rd w w.heap.size 1 A (n + 2) ((seal_ l).map bv)) (hb : ∀ c ∈ l, c < 256) (hn : n + 2 ≤ 1000000000) (hc : n + 2 ≤ c) :
    Calls Try.prog 10 #[.slice A (n + 2) c] w (OpenTo w l n) := by
  refine (open_any A (n + 2) c _ (seal_ l) w hr (Nat.le_refl _) (mem_seal l hb) hn hc).mono ?_
  rintro e w' ⟨A', n', c', he, hown, hbw⟩
  have hl : (seal_ l).length = n + 2 := by have := hr.1; simpa using this
  have hll : l.length = n := by simp [seal_] at hl; omega
  have e3 : (if opens (seal_ l) then (seal_ l).take ((seal_ l).length - 2) else []) = l := by rw [seal_opens l hb]; simp [seal_]
  rw [e3] at hown
  rw [seal_opens l hb] at he
  have hn' := own_len hown
  simp only [List.length_map] at hn'
  obtain rfl : n' = n := by omega
  exact ⟨A', c', he, hown, hbw⟩

set_option maxHeartbeats 4000000 in
theorem still_small (A : Option Addr) (n c : Nat) (l : List Nat) (w : World) (hr : Rd w w.heap.size 1 A n (l.map bv)) (hb : ∀ c ∈ l, c < 256) (hc : n ≤ c) (hn : n ≤ 9000) :
    Calls Try.prog 8 #[.slice A n c] w fun e w' => e = .returned (.bool true) ∧ Below w.heap.size w w' := by
  have hl : l.length = n := by have := hr.1; simpa using this
  have h0 : ¬ (9000 : Int) < (n : Int) := by omega
  have cv : ∀ (w' : World) (A : Option Addr) (n c B : Nat) (l : List Nat), Rd w' B 1 A n (l.map bv) → (convert 22 9 (.slice A n c)).run Try.prog w' = .ok (.string (bstr l)) w' := fun w' A n c B l h =>
    run_str h 22 9 5 Try.underlying22 Try.underlying5 Try.underlying9
  have Hcv := Lib.hid cv
  clear cv
  go_enter Try.func8, Try.ntmps8
  go_wp2_with (first
    | (go_at_call 9; (with_reducible refine (head_any _).mono ?_)
       rintro e w1 ⟨rfl, hb1⟩
       have hr1 := hr.below hb1
       have hsz1 := hb1.size
       have cv1 := Hcv.out w1 A n c _ l hr1)
    | (go_at_call 14; (with_reducible refine (seal_any A n c _ l _ hr1 hsz1 hb (by omega)).mono ?_)
       rintro e w2 ⟨A1, c1, rfl, hown2, hb2⟩
       have hr2 : Rd w2 w2.heap.size 1 A1 (n + 2) ((seal_ l).map bv) := Rd.of_own hown2
       have hcap2 := own_cap hown2
       have hbw2 := hb1.trans (hb2.mono hsz1)
       have hsz2 := hbw2.size
       clear hown2 hb1 hb2 hr1 hsz1 cv1)
    | (go_at_call 10; (with_reducible refine (open_seal A1 n c1 l _ hr2 hb (by omega) hcap2).mono ?_)
       rintro e w3 ⟨A3, c3, rfl, hown3, hb3⟩
       have hr3 := hr2.below hb3
       have hbw3 := hbw2.trans (hb3.mono hsz2)
       have hsz3 := hb3.size
       have cv3 := Hcv.out w3 A1 (n + 2) c1 _ (seal_ l) hr3
       clear hb3))
  go_loopg [9] n (fun k i wr => ∃ j : Nat, k + j = n ∧ i = .int .i64 j ∧ (∃ xs : List Nat, xs.length = n ∧ (∀ c ∈ xs, c < 256) ∧ wr.ownsRow w2.heap.size 5 1 (.slice A3 n c3) n (xs.map bv)) ∧ Below w2.heap.size w3 wr)
  case atStart => exact ⟨0, by omega, rfl, ⟨l, hl, hb, hown3⟩, Below.refl _ _⟩
  case round =>
    obtain ⟨j, hj, rfl, ⟨xs, hxl, hxb, hown⟩, hbr⟩ := hrel
    by_cases hlt : j < n
    · obtain ⟨_, g, rfl, hgb, hgl, hcell, hfr⟩ := own_some hown (by omega)
      obtain ⟨x, hx⟩ : ∃ x, xs[j]? = some x := ⟨_, List.getElem?_eq_getElem (by omega)⟩
      have hxx := hxb _ (List.mem_of_getElem? hx)
      have hcj : wr.cell? ⟨g, j, none⟩ = some (.int .u8 (x : Int)) := hcell j (bv x) (by rw [List.getElem?_map, hx]; rfl)
      have hfj := hfr j
      obtain ⟨y, hy⟩ : ∃ y, y = (x + 1) % 256 := ⟨_, rfl⟩
      have hyb : y < 256 := by omega
      have e1 : ((x : Int) + 1) % 256 = (y : Int) := by omega
      have hown' := own_stored hown j (bv y)
      rw [← List.map_set] at hown'
      have hbr' := hbr.setCell (p := ⟨g, j, none⟩) hgb (bv y)
      have hxb' : ∀ c ∈ xs.set j y, c < 256 := by
        intro c hc
        rcases List.mem_or_eq_of_mem_set hc with hc | rfl
        · exact hxb c hc
        · omega
      have Hx := Lib.hid hx
      clear hx hcell hfr hown hbr hy
      unfold bv at hown' hbr'
      go_wp2_with fail
      go_roundg (n - (j + 1))
      case measure => omega
      case rel => exact ⟨j + 1, by omega, by go_num, ⟨_, by simp [hxl], hxb', hown'⟩, hbr'⟩
    · obtain rfl : j = n := by omega
      have hr2' := hr3.below hbr
      have hszr := hbr.size
      have hbw4 := hbw3.trans (hbr.mono hsz2)
      have hr4 : Rd wr w.heap.size 1 A j (l.map bv) := hr.below hbw4
      have hcap2' : j + 2 ≤ c1 := hcap2
      clear hown hbr cv3 hr3 hr2 hbw3 hown3
      go_wp2_with (first
        | (go_at_call 10; (with_reducible refine (open_seal A1 j c1 l _ (hr2'.more (by omega)) hb (by omega) hcap2').mono ?_)
           rintro e w5 ⟨A5, c5, rfl, hown5, hb5⟩
           have cv5 := Hcv.out w5 A j c _ l (hr4.below (hb5.mono (by omega)))
           have cv6 := Hcv.out w5 A1 (j + 2) c1 _ (seal_ l) (hr2'.below (hb5.mono (by omega)))
           have cv7 := Hcv.out w5 A5 j c5 _ l (Rd.of_own hown5)
           have hbw5 := hbw4.trans (hb5.mono (by omega))
           clear hb5 hown5))
      go_ret
      exact ⟨ret_bool (by simp), hbw5⟩

theorem still_walk (A : Option Addr) (n c : Nat) (l : List Nat) (w : World) (hr : Rd w w.heap.size 1 A n (l.map bv)) (hb : ∀ c ∈ l, c < 256) (hc : n ≤ c) (hm : c ≤ maxLen) :
    Calls Try.prog 8 #[.slice A n c] w fun e w' => e = .returned (.bool true) ∧ Below w.heap.size w w' := by
  by_cases hn : n ≤ 9000
  · exact still_small A n c l w hr hb hc hn
  · exact still_great A n c w (by omega) (by unfold maxLen at hm; omega)
end Go.Proofs.Ytdbibnojeefbpaa
