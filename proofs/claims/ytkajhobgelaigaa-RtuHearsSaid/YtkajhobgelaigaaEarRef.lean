/- The reference's ear (watchkeeperref02) as words on memory; its methods. -/
import Derived.Test.YtkajhobgelaigaaEar
import Derived.Test.YtkajhobgelaigaaRtuRef
set_option linter.unusedVariables false
set_option linter.unusedSimpArgs false
set_option maxRecDepth 100000
namespace Go.Proofs.Ytkajhobgelaigaa
open Go Go.RowKit CrcMath

/-- what it heard since the last silence: h, in block g -/
structure HQ (w : World) (p g : Nat) (h : List Nat) : Prop where
  pg : p ≠ g
  hb : ∀ c ∈ h, c < 256
  hp : ∃ A n c, w.heap[p]? = some (.cells #[.slice A n c] 52) ∧ Rd w w.heap.size 1 A n (h.map bv) ∧ n ≤ c ∧ (∀ b o, A = some ⟨b, o, none⟩ → b = g)
def Wide (w : World) (p : Nat) : Nat → Prop := fun k => k < w.heap.size ∧ k ≠ p
section
variable {w w' : World} {p g : Nat} {h : List Nat}
theorem HQ.pold (H : HQ w p g h) : p < w.heap.size := by
  obtain ⟨A, n, c, h1, _⟩ := H.hp
  exact (Array.getElem?_eq_some_iff.1 h1).1
/-- what leaves both blocks alone -/
theorem HQ.kept (H : HQ w p g h) (hp : w'.heap[p]? = w.heap[p]?) (hg : h ≠ [] → w'.heap[g]? = w.heap[g]?) (hs : w.heap.size ≤ w'.heap.size) : HQ w' p g h := by
  obtain ⟨A, n, c, h1, h2, h3, h4⟩ := H.hp
  refine ⟨H.pg, H.hb, A, n, c, hp.trans h1, ?_, h3, h4⟩
  have hn := h2.1
  refine ⟨hn, fun hn0 => ?_⟩
  obtain ⟨b, o, rfl, hb, hc⟩ := h2.2 hn0
  obtain rfl := h4 b o rfl
  have hne : h ≠ [] := by
    rintro rfl
    simp at hn; omega
  exact ⟨b, o, rfl, by omega, fun j u hu => by rw [World.cell?_of_block (w := w) (hg hne)]; exact hc j u hu⟩
theorem HQ.gold (H : HQ w p g h) (hne : h ≠ []) : g < w.heap.size := by
  obtain ⟨A, n, c, h1, h2, h3, h4⟩ := H.hp
  have hn := h2.1
  have : 0 < n := by
    rcases h with _ | _
    · exact absurd rfl hne
    · simp at hn; omega
  obtain ⟨b, o, rfl, hb, hc⟩ := h2.2 this
  obtain rfl := h4 b o rfl
  exact hb
theorem HQ.below (H : HQ w p g h) (hb : Below w.heap.size w w') : HQ w' p g h := H.kept (hb.block _ H.pold) (fun hne => hb.block _ (H.gold hne)) hb.size
theorem HQ.of_below {B : Nat} (H : HQ w p g h) (hB : B = w.heap.size) (hb : Below B w w') : HQ w' p g h := by subst hB; exact H.below hb
end
theorem qnew_any (w : World) :
    Calls Try.prog 15 #[] w fun e w' => e = .returned (.pointer (some ⟨w.heap.size, 0, none⟩)) ∧ HQ w' w.heap.size (w.heap.size + 1) [] ∧ Below w.heap.size w w' := by
  go_enter Try.func15, Try.ntmps15
  go_wp2_with fail
  go_ret
  exact ⟨rfl, ⟨by omega, by simp, none, 0, 0, heap_alloc_new w _, Rd.nil_ _ _ _ _, Nat.le_refl _, fun b o e => by cases e⟩, (Below.refl _ _).alloc (Nat.le_refl _) _⟩
theorem qmany_any (p g : Nat) (h : List Nat) (w : World) (hH : HQ w p g h) (hl : h.length ≤ 100000) :
    Calls Try.prog 22 #[.pointer (some ⟨p, 0, none⟩)] w fun e w' => e = .returned (.int .i64 (min h.length 257 : Nat)) ∧ w' = w := by
  obtain ⟨A, n, c, h1, h2, h3, h4⟩ := hH.hp
  have hn : h.length = n := by have := h2.1; simpa using this
  rw [hn]
  have hn2 : (n : Int) ≤ 100000 := by omega
  have c1 := cell_of_row w p 0 _ _ _ h1
  simp at c1
  by_cases hk : n ≤ 257
  · have e : ((min n 257 : Nat) : Int) = (n : Int) := by omega
    have hk' : (n : Int) ≤ 257 := by omega
    rw [e]
    go_enter Try.func22, Try.ntmps22
    go_wp2_with fail
    all_goals (go_ret; first | exact ⟨rfl, rfl⟩ | (exfalso; omega))
  · have e : ((min n 257 : Nat) : Int) = 257 := by omega
    have hk' : (257 : Int) < (n : Int) := by omega
    rw [e]
    go_enter Try.func22, Try.ntmps22
    go_wp2_with fail
    all_goals (go_ret; first | exact ⟨rfl, rfl⟩ | (exfalso; omega))
/-- Hear -/
theorem qhear_any (p g : Nat) (h : List Nat) (w : World) (A1 : Option Addr) (n1 c1 : Nat) (b : List Nat) (hH : HQ w p g h) (hr : Rd w w.heap.size 1 A1 n1 (b.map bv)) (hb : ∀ c ∈ b, c < 256) (hl : h.length ≤ 100000) (hn : n1 ≤ 100000) :
    Calls Try.prog 20 #[.pointer (some ⟨p, 0, none⟩), .slice A1 n1 c1] w fun e w' => e = .returned (.tuple #[]) ∧ (∃ g', w.heap.size ≤ g' ∧ g' < w'.heap.size ∧ HQ w' p g' (h ++ b)) ∧ Kept (Wide w p) w w' := by
  obtain ⟨A, n, c, h1, h2, h3, h4⟩ := hH.hp
  have hnl : h.length = n := by have := h2.1; simpa using this
  have hbl : b.length = n1 := by have := hr.1; simpa using this
  obtain ⟨i0, hi, hz0, hz1, hz2⟩ := info_parts info_u8
  have cc := cell_of_row w p 0 _ _ _ h1
  simp at cc
  have ff := frozen_of_row w p 0 _ _ h1
  have hp := hH.pold
  have hownE : (w.alloc (.cells #[] 5)).ownsRow w.heap.size 5 1 (.slice (some ⟨w.heap.size, 0, none⟩) 0 0) 0 [] := World.ownsRow_made w #[] 0 (Nat.le_refl _) (by unfold maxLen; omega) rfl
  have hbE : Below w.heap.size w (w.alloc (.cells #[] 5)) := (Below.refl _ _).alloc (Nat.le_refl _) _
  have hrE := h2.below hbE
  go_enter Try.func20, Try.ntmps20
  go_wp2_with (first
    | (at_builtin
       refine wpList_app _ rfl (.tmp 5) (.tmp 9) 22 rfl w.heap.size 5 i0 (.int .u8 0) 1 1 Try.underlying22 hi hz0 hz1 hz2 rfl (by omega) _ 0 _ rfl hownE w.heap.size A n c (h.map bv) rfl hrE (bv_one h) ?g2 ?g3 ?g4 ?_))
  case g2 => unfold maxLen; omega
  case g3 => omega
  case g4 => simp
  intro v3 w3 hown3 hg3 _
  obtain ⟨A3, c3, rfl⟩ := own_shape hown3
  have hown3 : w3.ownsRow w.heap.size 5 1 (.slice A3 n c3) n (h.map bv) := by simpa using hown3
  have hb3 : Below w.heap.size w w3 := hbE.grown hg3 (by simp) (fun k hk => by simp [Value.ownBlock] at hk; omega)
  have hr3 := hr.below hb3
  have hs3 := hb3.size
  go_wp2_with (first
    | (at_builtin
       refine wpList_app _ rfl (.tmp 10) (.tmp 11) 22 rfl w.heap.size 5 i0 (.int .u8 0) 1 1 Try.underlying22 hi hz0 hz1 hz2 rfl (by omega) _ n _ rfl hown3 w.heap.size A1 n1 c1 (b.map bv) rfl hr3 (bv_one b) ?g2 ?g3 ?g4 ?_))
  case g2 => unfold maxLen; omega
  case g3 => omega
  case g4 => exact hs3
  intro v4 w4 hown4 hg4 _
  obtain ⟨A4, c4, rfl⟩ := own_shape hown4
  rw [← List.map_append] at hown4
  have hb4 : Below w.heap.size w w4 := hb3.grown hg4 hs3 (fun k hk => (hown3.lt k hk).1)
  have hp4 : w4.heap[p]? = some (.cells #[.slice A n c] 52) := (hb4.block _ hp).trans h1
  have c4' := cell_of_row w4 p 0 _ _ _ hp4
  simp at c4'
  have f4 := frozen_of_row w4 p 0 _ _ hp4
  have hfin : (∃ g', w.heap.size ≤ g' ∧ g' < (w4.setCell ⟨p, 0, none⟩ (.slice A4 (n + n1) c4)).heap.size ∧ HQ (w4.setCell ⟨p, 0, none⟩ (.slice A4 (n + n1) c4)) p g' (h ++ b)) ∧ Kept (Wide w p) w (w4.setCell ⟨p, 0, none⟩ (.slice A4 (n + n1) c4)) := by
    have hsz : (w4.setCell ⟨p, 0, none⟩ (.slice A4 (n + n1) c4)).heap.size = w4.heap.size := by simp [World.setCell]
    have hlt4 : w.heap.size < w4.heap.size := by
      have := hg3.size
      rw [World.size_alloc] at this
      have := hg4.size
      omega
    have hown5 : (w4.setCell ⟨p, 0, none⟩ (.slice A4 (n + n1) c4)).ownsRow w.heap.size 5 1 (.slice A4 (n + n1) c4) (n + n1) ((h ++ b).map bv) := by
      refine hown4.kept (row := some p) ⟨rfl, rfl, rfl, by rw [hsz]; exact Nat.le_refl _, fun k hk hne => Below.heap_setCell _ _ _ _ (fun e => hne (by rw [e]))⟩ (.inr fun e => ?_)
      have := (hown4.lt _ e).1; omega
    obtain ⟨g', hg1, hg2, hg3'⟩ : ∃ g', w.heap.size ≤ g' ∧ g' < w4.heap.size ∧ ∀ b o, A4 = some ⟨b, o, none⟩ → b = g' := by
      rcases hown4.2 with ⟨hv, _⟩ | ⟨g, cap, cur, hv, hb, hg, _⟩
      · injection hv with hv _ _
        exact ⟨w.heap.size, Nat.le_refl _, hlt4, fun b o e => by rw [hv] at e; cases e⟩
      · injection hv with hv _ _
        refine ⟨g, hb, (Array.getElem?_eq_some_iff.1 hg).1, fun b o e => ?_⟩
        rw [hv] at e
        injection e with e
        injection e with e
        exact e.symm
    refine ⟨⟨g', hg1, by rw [hsz]; exact hg2, ⟨by omega, fun c hc => ?_, A4, n + n1, c4, ?_, ?_, own_cap hown4, hg3'⟩⟩, ?_⟩
    · rcases List.mem_append.1 hc with hc | hc
      · exact hH.hb c hc
      · exact hb c hc
    · have := heap_set_same (j := 0) (.slice A4 (n + n1) c4) hp4
      simpa using this
    · exact Rd.of_own hown5
    · exact (Kept.of (U := Wide w p) hb4 (fun k hk => hk.1)).setCell (p := ⟨p, 0, none⟩) (fun hk => hk.2 rfl) _
  have Hfin := Lib.hid hfin
  clear hfin
  go_wp2_with fail
  go_end0
  exact ⟨rfl, Hfin.out.1, Hfin.out.2⟩
set_option maxHeartbeats 1000000 in
theorem qsil_any (p g : Nat) (h : List Nat) (w : World) (hH : HQ w p g h) (hl : h.length ≤ 100000) :
    Calls Try.prog 18 #[.pointer (some ⟨p, 0, none⟩)] w fun e w' =>
      ∃ A n c, e = .returned (.tuple #[.int .u8 (silL h).1, .slice A n c, .int .i64 (silL h).2.2.1, .bool (silL h).2.2.2]) ∧ Rd w' w'.heap.size 1 A n ((silL h).2.1.map bv) ∧ HQ w' p g [] ∧ Kept (Wide w p) w w' := by
  obtain ⟨A, n, c, h1, h2, h3, h4⟩ := hH.hp
  have hnl : h.length = n := by have := h2.1; simpa using this
  have cc := cell_of_row w p 0 _ _ _ h1
  simp at cc
  by_cases h0 : h = []
  · subst h0
    obtain rfl : n = 0 := by simpa using hnl.symm
    go_enter Try.func18, Try.ntmps18
    go_wp2_with fail
    refine bodyPost_ret (v := .tuple #[.int .u8 0, .slice none 0 0, .int .i64 0, .bool false]) (by simp [results, Try.results18, go_sem]) rfl ?_
    exact ⟨none, 0, 0, rfl, Rd.nil_ _ _ _ _, hH, Kept.refl _ _⟩
  · obtain ⟨gg, hg⟩ : ∃ gg, gg = getL h := ⟨_, rfl⟩
    have hs : silL h = (gg.1, gg.2.1, gg.2.2, true) := by rw [silL, if_neg h0, ← hg]
    rw [hs]
    have hn1 : 1 ≤ n := by
      rcases h with _ | _
      · exact absurd rfl h0
      · simp at hnl; omega
    have t0 : ((n : Int) == 0) = false := by rw [beq_eq_false_iff_ne]; omega
    have t1 : (n = 0) = False := eq_false (by omega)
    have hp := hH.pold
    have HH := Lib.hid hH
    have Hg := Lib.hid hg
    have Hb := Lib.hid hH.hb
    have Hc := Lib.hid (fun (w' : World) (hb : Below w.heap.size w w') => (hb.cell (p := ⟨p, 0, none⟩) hp).trans cc)
    have Hp := Lib.hid (fun (w' : World) (hb : Below w.heap.size w w') => (hb.block p hp).trans h1)
    clear hH hg hs h0
    go_enter Try.func18, Try.ntmps18
    go_wp2_with (first
      | (go_at_call 11; (with_reducible refine (rget_any A n c _ h w h2 (Nat.le_refl _) Hb.out h3 (by omega)).mono ?_)
         rintro e w2 ⟨A2, n2, c2, he, hr2, _, _, hb2⟩
         rw [← Hg.out] at he hr2
         subst he
         have c2' := Hc.out w2 hb2
         have f2 := frozen_of_row w2 p 0 _ _ (Hp.out w2 hb2)))
    refine bodyPost_ret (v := .tuple #[.int .u8 gg.1, .slice A2 n2 c2, .int .i64 gg.2.2, .bool true]) (by simp [results, Try.results18, go_sem]) rfl ?_
    have hp2 := Hp.out w2 hb2
    have hK : Kept (Wide w p) w (w2.setCell ⟨p, 0, none⟩ (.slice none 0 0)) := (Kept.of (U := Wide w p) hb2 (fun k hk => hk.1)).setCell (p := ⟨p, 0, none⟩) (fun hk => hk.2 rfl) _
    refine ⟨_, _, _, rfl, ?_, ⟨HH.out.pg, by simp, none, 0, 0, ?_, Rd.nil_ _ _ _ _, Nat.le_refl _, fun b o e => by cases e⟩, hK⟩
    · refine ⟨hr2.1, fun hn0 => ?_⟩
      obtain ⟨b, o, rfl, hb, hc⟩ := hr2.2 hn0
      refine ⟨b, o, rfl, by simpa [World.setCell] using hb, fun j u hu => ?_⟩
      have hcu := hc j u hu
      have hbp : b ≠ p := by
        rintro rfl
        rw [cell_of_row w2 b _ _ _ _ hp2] at hcu
        obtain ⟨x, _, hx⟩ := List.mem_map.1 (List.mem_of_getElem? hu)
        rw [← hx] at hcu
        have hj := (Array.getElem?_eq_some_iff.1 hcu).1
        have hj0 : o + j = 0 := by simp at hj; omega
        simp [hj0, bv] at hcu
      rw [World.cell?_of_block (w := w2) (Below.heap_setCell _ _ _ _ hbp)]
      exact hcu
    · have := heap_set_same (j := 0) (.slice none 0 0) hp2
      simpa using this
end Go.Proofs.Ytkajhobgelaigaa
