/- Package rtu: frames: Put and Get, contracts. -/
import Derived.Test.YtkajhobgelaigaaCrcC
set_option linter.unusedVariables false
set_option linter.unusedSimpArgs false
set_option maxRecDepth 100000
namespace Go.Proofs.Ytkajhobgelaigaa
open Go Go.RowKit CrcMath

/-- the frame of l for a unit -/
def putL (u : Nat) (l : List Nat) : List Nat := if 1 ≤ l.length ∧ l.length ≤ 253 then seal_ (u :: l) else []
/-- what a frame has -/
def getL (l : List Nat) : Nat × List Nat × Nat :=
  if 256 < l.length then (0, [], 22) else if l.length < 4 then (0, [], 21) else if opens l then (l.getD 0 0, (l.take (l.length - 2)).drop 1, 0) else (0, [], 23)
def PutPost (w : World) (r : List Nat) (e : Ending) (w' : World) : Prop :=
  ∃ A n c, e = .returned (.slice A n c) ∧ w'.ownsRow w.heap.size 5 1 (.slice A n c) n (r.map bv) ∧ Below w.heap.size w w'
def GetPost (w : World) (r : Nat × List Nat × Nat) (e : Ending) (w' : World) : Prop :=
  ∃ A n c, e = .returned (.tuple #[.int .u8 r.1, .slice A n c, .int .i64 r.2.2]) ∧ Rd w' w'.heap.size 1 A n (r.2.1.map bv) ∧ n ≤ c ∧ c ≤ maxLen ∧ Below w.heap.size w w'

theorem Rd.drop1 {w : World} {B n g : Nat} {o : Nat} {xs : List Value} (h : Rd w B 1 (some ⟨g, o, none⟩) n xs) (hn : 1 ≤ n) : Rd w B 1 (some ⟨g, o + 1, none⟩) (n - 1) (xs.drop 1) := by
  refine ⟨by have := h.1; simp; omega, fun hp => ?_⟩
  obtain ⟨b, o', e, hb, hc⟩ := h.2 (by omega)
  injection e with e
  injection e with e1 e2
  subst e1 e2
  refine ⟨g, o + 1, rfl, hb, fun j u hu => ?_⟩
  rw [List.getElem?_drop] at hu
  have := hc (1 + j) u hu
  rwa [show o + (1 + j) = o + 1 + j by omega] at this
theorem own_cap2 {w : World} {base : Nat} {e : TypeId} {size n c : Nat} {A : Option Addr} {xs : List Value} (h : w.ownsRow base e size (.slice A n c) n xs) : c ≤ maxLen := by
  rcases h.2 with ⟨hv, h0⟩ | ⟨g, cap, cur, hv, hb, hg, hnc, hm, _⟩
  · injection hv with _ _ h3; subst h3; exact Nat.zero_le _
  · injection hv with h1 h2 h3
    subst h3
    exact hm
set_option maxHeartbeats 1000000 in
theorem put_fine (u : Nat) (A : Option Addr) (n c B : Nat) (l : List Nat) (w : World) (hr : Rd w B 1 A n (l.map bv)) (hB : B ≤ w.heap.size) (hb : ∀ c ∈ l, c < 256) (hu : u < 256) (h1 : 1 ≤ n) (h2 : n ≤ 253) :
    Calls Try.prog 12 #[.int .u8 u, .slice A n c] w (PutPost w (seal_ (u :: l))) := by
  have hl : l.length = n := by have := hr.1; simpa using this
  obtain ⟨i0, hi, hz0, hz1, hz2⟩ := info_parts info_u8
  have b1 : ((n : Int) == 0) = false := by rw [beq_eq_false_iff_ne]; omega
  have b2 : decide ((253 : Int) < (n : Int)) = false := decide_eq_false (by omega)
  have hn1 : (n : Int) ≤ 253 := by omega
  go_enter Try.func12, Try.ntmps12
  go_wp2_with (first
    | (with_reducible refine wpList_mk _ rfl (.const (.int .i64 1)) (.tmp 16) 22 rfl w.heap.size 5 i0 (.int .u8 0) Try.underlying22 hi hz0 hz1 rfl .i64 .i64 _ _ 1 (n + 1) rfl rfl rfl ?e1 ?e2 ?e3 ?e4 (Nat.le_refl _) ?_)
    | fail)
  case e1 => omega
  case e2 => omega
  case e3 => rw [hz2]; omega
  case e4 => unfold maxLen; omega
  intro w1 hown1 hg1
  have hb1 : Below w.heap.size w w1 := (Below.refl _ _).grown hg1 (Nat.le_refl _) (by simp)
  obtain ⟨_, g, hg, _, hgl, hcell, hfr⟩ := own_some hown1 (by omega)
  have c0 := hcell 0 _ rfl
  have f0 := hfr 0
  injection hg with hg
  injection hg with hg
  subst hg
  have hown2 := own_stored hown1 0 (.int .u8 (u : Int))
  have hr2 : Rd (w1.setCell ⟨w.heap.size, 0, none⟩ (.int .u8 (u : Int))) w.heap.size 1 A n (l.map bv) := (hr.more hB).below (hb1.setCell (Nat.le_refl _) _)
  have hb2 : Below w.heap.size w (w1.setCell ⟨w.heap.size, 0, none⟩ (.int .u8 (u : Int))) := hb1.setCell (Nat.le_refl _) _
  have hsz2 := hb2.size
  have hl2 : ∀ c ∈ u :: l, c < 256 := fun c hc => by
    rcases List.mem_cons.1 hc with rfl | hc
    · exact hu
    · exact hb c hc
  clear hcell hfr hown1 hg1
  go_wp2_with (first
    | (at_builtin
       refine wpList_app _ rfl (.tmp 21) (.tmp 22) 22 rfl w.heap.size 5 i0 (.int .u8 0) 1 1 Try.underlying22 hi hz0 hz1 hz2 rfl (by omega) _ 1 _ rfl hown2 w.heap.size A n c (l.map bv) rfl hr2 (bv_one l) ?g2 ?g3 ?g4 ?_))
  case g2 => unfold maxLen; omega
  case g3 => omega
  case g4 => simpa [World.setCell] using hsz2
  intro v3 w3 hown3 hg3 _
  obtain ⟨A3, c3, rfl⟩ := own_shape hown3
  have hb3 : Below w.heap.size w w3 := hb2.grown hg3 hsz2 (fun k hk => by simp [Value.ownBlock] at hk; omega)
  have hown3' : w3.ownsRow w.heap.size 5 1 (.slice A3 (1 + n) c3) (1 + n) ((u :: l).map bv) := hown3
  have hr3 := Rd.of_own hown3'
  have hsz3 := hb3.size
  clear hown3 hg3 hown2 hr2
  go_wp2_with (first
    | (go_at_call 25; (with_reducible refine (seal_any A3 (1 + n) c3 _ (u :: l) _ hr3 (Nat.le_refl _) hl2 (by omega)).mono ?_)
       rintro e w4 ⟨A4, c4, rfl, hown4, hb4⟩))
  go_ret
  exact ⟨_, _, _, rfl, own_base hown4 hsz3, hb3.trans (hb4.mono hsz3)⟩
theorem put_none (u : Nat) (A : Option Addr) (n c : Nat) (w : World) (hn : n ≤ 9223372036854775807) (h : ¬ (1 ≤ n ∧ n ≤ 253)) :
    Calls Try.prog 12 #[.int .u8 u, .slice A n c] w (PutPost w []) := by
  have go : ((n : Int) == 0) = true ∨ ((n : Int) == 0) = false ∧ decide ((253 : Int) < (n : Int)) = true := by simp; omega
  rcases go with b1 | ⟨b1, b2⟩
  all_goals
    go_enter Try.func12, Try.ntmps12
    go_wp2_with fail
    go_ret
    exact ⟨none, 0, 0, rfl, World.ownsRow_nil _ _ _ _, Below.refl _ _⟩
/-- Put, of anything -/
theorem put_any (ui : Int) (A : Option Addr) (n c B : Nat) (l : List Nat) (w : World) (hr : Rd w B 1 A n (l.map bv)) (hB : B ≤ w.heap.size) (hb : ∀ c ∈ l, c < 256) (hu : 0 ≤ ui ∧ ui < 256) (hn : n ≤ 9223372036854775807) :
    Calls Try.prog 12 #[.int .u8 ui, .slice A n c] w (PutPost w (putL ui.toNat l)) := by
  have hl : l.length = n := by have := hr.1; simpa using this
  obtain ⟨u, rfl⟩ : ∃ u : Nat, ui = (u : Int) := ⟨ui.toNat, by omega⟩
  rw [Int.toNat_natCast]
  have hu : u < 256 := by omega
  by_cases h : 1 ≤ n ∧ n ≤ 253
  · rw [putL, if_pos (by omega)]; exact put_fine u A n c B l w hr hB hb hu h.1 h.2
  · rw [putL, if_neg (by omega)]; exact put_none u A n c w hn h

set_option maxHeartbeats 1000000 in
theorem get_mid (A : Option Addr) (n c B : Nat) (l : List Nat) (w : World) (hr : Rd w B 1 A n (l.map bv)) (hB : B ≤ w.heap.size) (hb : ∀ c ∈ l, c < 256) (h1 : 4 ≤ n) (h2 : n ≤ 256) (hc : n ≤ c) :
    Calls Try.prog 10 #[.slice A n c] w (GetPost w (getL l)) := by
  have hl : l.length = n := by have := hr.1; simpa using this
  have b1 : decide ((256 : Int) < (n : Int)) = false := decide_eq_false (by omega)
  have b2 : decide ((n : Int) < 4) = false := decide_eq_false (by omega)
  rcases ho : opens l with _ | _
  · have e : getL l = (0, [], 23) := by rw [getL, if_neg (by omega), if_neg (by omega), ho]; rfl
    rw [e]
    have Ho := Lib.hid ho
    clear ho
    go_enter Try.func10, Try.ntmps10
    go_wp2_with (first
      | (go_at_call 24; (with_reducible refine (open_any A n c _ l _ hr hB hb (by omega) hc).mono ?_)
         rintro e w2 ⟨A2, n2, c2, he, hown2, hb2⟩
         rw [Ho.out] at he
         subst he))
    go_ret3
    exact ⟨none, 0, 0, rfl, Rd.nil_ _ _ _ _, Nat.le_refl _, Nat.zero_le _, hb2⟩
  · obtain ⟨n', hn'⟩ : ∃ n', n = n' + 2 := ⟨n - 2, by omega⟩
    subst hn'
    have e : getL l = (l.getD 0 0, (l.take n').drop 1, 0) := by rw [getL, if_neg (by omega), if_neg (by omega), ho, if_pos rfl, hl]; rfl
    rw [e]
    have Ho := Lib.hid ho
    have Hl := Lib.hid hl
    clear ho hl
    go_enter Try.func10, Try.ntmps10
    go_wp2_with (first
      | (go_at_call 24; (with_reducible refine (open_any A (n' + 2) c _ l _ hr hB hb (by omega) hc).mono ?_)
         rintro e w2 ⟨A2, n2, c2, he, hown2, hb2⟩
         rw [Ho.out] at he hown2
         rw [if_pos rfl, Hl.out, show n' + 2 - 2 = n' from rfl] at hown2
         have hn2 := own_len hown2
         rw [List.length_map, List.length_take, Hl.out, show min n' (n' + 2) = n' by omega] at hn2
         subst hn2
         subst he))
    have hcap := own_cap hown2
    have hcm := own_cap2 hown2
    obtain ⟨_, g, rfl, _, _, hcell, _⟩ := own_some hown2 (by omega)
    have hl0 : 0 < l.length := by rw [Hl.out]; omega
    obtain ⟨x0, hx0⟩ : ∃ x0, x0 = l.getD 0 0 := ⟨_, rfl⟩
    rw [← hx0]
    have c0 := hcell 0 (.int .u8 (x0 : Nat)) (by
      rw [hx0]
      rw [List.getElem?_map, List.getElem?_take, if_pos (by omega), List.getElem?_eq_getElem hl0, List.getD_eq_getElem?_getD, List.getElem?_eq_getElem hl0]; rfl)
    have hr2 := Rd.of_own hown2
    have q0 : (0 : Int) < (n2 : Int) := by omega
    have hfin : Rd w2 w2.heap.size 1 (some ⟨g, 1, none⟩) (n2 - 1) (((l.take n2).drop 1).map bv) := by
      rw [List.map_drop]
      exact hr2.drop1 (by omega)
    have Hfin := Lib.hid hfin
    have Hx0 := Lib.hid hx0
    clear hcell hfin hx0
    go_quiet (fail)
    go_wp2_with fail
    go_ret3
    unfold GetPost
    rw [← Hx0.out]
    exact ⟨_, _, _, rfl, Hfin.out.keep fun p _ => rfl, Nat.sub_le_sub_right hcap 1, Nat.le_trans (Nat.sub_le _ _) hcm, hb2.trans ⟨rfl, rfl, rfl, Nat.le_refl _, fun _ _ => rfl⟩⟩
theorem get_far (A : Option Addr) (n c : Nat) (w : World) (l : List Nat) (hl : l.length = n) (hn : n ≤ 9223372036854775807) (h : ¬ (4 ≤ n ∧ n ≤ 256)) :
    Calls Try.prog 10 #[.slice A n c] w (GetPost w (getL l)) := by
  have go : decide ((256 : Int) < (n : Int)) = true ∧ getL l = (0, [], 22) ∨ decide ((256 : Int) < (n : Int)) = false ∧ decide ((n : Int) < 4) = true ∧ getL l = (0, [], 21) := by
    by_cases h2 : 256 < n
    · exact .inl ⟨decide_eq_true (by omega), by rw [getL, if_pos (by omega)]⟩
    · exact .inr ⟨decide_eq_false (by omega), decide_eq_true (by omega), by rw [getL, if_neg (by omega), if_pos (by omega)]⟩
  rcases go with ⟨b1, e⟩ | ⟨b1, b2, e⟩
  all_goals
    rw [e]
    clear e
    go_enter Try.func10, Try.ntmps10
    go_wp2_with fail
    go_ret3
    exact ⟨none, 0, 0, rfl, Rd.nil_ _ _ _ _, Nat.le_refl _, Nat.zero_le _, Below.refl _ _⟩
/-- Get, of anything -/
theorem get_any (A : Option Addr) (n c B : Nat) (l : List Nat) (w : World) (hr : Rd w B 1 A n (l.map bv)) (hB : B ≤ w.heap.size) (hb : ∀ c ∈ l, c < 256) (hc : n ≤ c) (hn : n ≤ 9223372036854775807) :
    Calls Try.prog 10 #[.slice A n c] w (GetPost w (getL l)) := by
  have hl : l.length = n := by have := hr.1; simpa using this
  by_cases h : 4 ≤ n ∧ n ≤ 256
  · exact get_mid A n c B l w hr hB hb h.1 h.2 hc
  · exact get_far A n c w l hl hn h
end Go.Proofs.Ytkajhobgelaigaa
