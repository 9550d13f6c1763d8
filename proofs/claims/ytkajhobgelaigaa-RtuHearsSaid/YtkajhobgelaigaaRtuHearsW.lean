/- RtuHears, walked. -/
import Derived.Test.YtkajhobgelaigaaRtuTwoW
import Derived.Test.YtkajhobgelaigaaEarRef
import Derived.Test.YtkajhobgelaigaaRtuGreat
set_option linter.unusedVariables false
set_option linter.unusedSimpArgs false
set_option maxRecDepth 100000
namespace Go.Proofs.Ytkajhobgelaigaa
open Go Go.RowKit CrcMath

/-- both ears, side by side -/
structure Ears (w : World) (p q g : Nat) (h : List Nat) : Prop where
  x : HE w (Wide w p) p h
  y : HQ w q g h
  pq : p ≠ q
  pg : p ≠ g
section
variable {w w' : World} {p q g : Nat} {h h' : List Nat}
theorem Ears.make (hx : HE w (Wide w p) p h) (hy : HQ w q g h) (hpq : p ≠ q) (hpg : p ≠ g) : Ears w p q g h := ⟨hx, hy, hpq, hpg⟩
theorem Ears.left (H : Ears w p q g h) (hk : Kept (Wide w p) w w') : HQ w' q g h :=
  H.y.kept (hk.block _ ⟨H.y.pold, fun e => H.pq e.symm⟩) (fun hne => hk.block _ ⟨H.y.gold hne, fun e => H.pg e.symm⟩) hk.size
theorem HE.keepq {U : Nat → Prop} (hx : HE w U p h) (hpq : p ≠ q) (hk : Kept (Wide w q) w w') : HE w' U p h := by
  obtain ⟨R, h1, h2, h3, h4⟩ := hx.hp
  exact ⟨hx.up, fun k hk' => Nat.lt_of_lt_of_le (hx.old k hk') hk.size, hx.hb, R, h1, h2, h3, (hk.block p ⟨(Array.getElem?_eq_some_iff.1 h4).1, hpq⟩).trans h4⟩
theorem Rd.keepq {n : Nat} {A : Option Addr} {xs : List Nat} (h2 : Rd w w.heap.size 1 A n (xs.map bv)) (hy : HQ w q g h) (hk : Kept (Wide w q) w w') : Rd w' w'.heap.size 1 A n (xs.map bv) := by
  refine ⟨h2.1, fun hn0 => ?_⟩
  obtain ⟨b, o, rfl, hb, hc⟩ := h2.2 hn0
  have hbq : b ≠ q := by
    rintro rfl
    obtain ⟨A', n', c', k1, _⟩ := hy.hp
    obtain ⟨u, hu⟩ : ∃ u, (xs.map bv)[0]? = some u := ⟨_, List.getElem?_eq_getElem (by have := h2.1; omega)⟩
    have hcu := hc 0 u hu
    rw [cell_of_row w b _ _ _ _ k1] at hcu
    obtain ⟨x, _, hx⟩ := List.mem_map.1 (List.mem_of_getElem? hu)
    rw [← hx] at hcu
    have hj := (Array.getElem?_eq_some_iff.1 hcu).1
    have hj0 : o + 0 = 0 := by simp at hj; omega
    simp [hj0, bv] at hcu
  exact ⟨b, o, rfl, by have := hk.size; omega, fun j u hu => by rw [World.cell?_of_block (hk.block b ⟨hb, hbq⟩)]; exact hc j u hu⟩
theorem Rd.keepw {B n : Nat} {A : Option Addr} {xs : List Value} (h : Rd w B 1 A n xs) (hk : Kept (Wide w p) w w') (hp : B ≤ p) (hB : B ≤ w.heap.size) : Rd w' B 1 A n xs :=
  h.keep fun a ha => World.cell?_of_block (hk.block _ ⟨by omega, by omega⟩)
end
set_option maxHeartbeats 4000000 in
theorem hears_walk (A : Option Addr) (n c : Nat) (l : List Opr) (w : World) (hr : Ops w w.heap.size A n l ∧ n ≤ maxLen) :
    Calls Try.prog 5 #[.slice A n c] w fun e w' => e = .returned (.bool true) ∧ Below w.heap.size w w' := by
  obtain ⟨hr, hnm⟩ := hr
  go_enter Try.func5, Try.ntmps5
  go_wp2_with (first
    | (go_at_call 9; (with_reducible refine (head_any _).mono ?_); rintro e w1 ⟨rfl, hb1⟩)
    | (go_at_call 14; (with_reducible refine (enew_any (fun k => k < w1.heap.size) w1 (fun k hk => hk)).mono ?_)
       rintro e w2 ⟨rfl, hE2, hb2⟩)
    | (go_at_call 15; (with_reducible refine (qnew_any w2).mono ?_)
       rintro e w3 ⟨rfl, hQ3, hb3⟩
       have hp2 := hE2.pold
       have hE3 := (hE2.below hb3).wide
       have hT3 : Ears w3 w1.heap.size w2.heap.size (w2.heap.size + 1) [] := Ears.make hE3 hQ3 (by omega) (by omega)
       have hbw3 := (hb1.trans (hb2.mono hb1.size)).trans (hb3.mono (Nat.le_trans hb1.size hb2.size))
       have hr3 := hr.below hbw3)
    | (go_at_call 16; (with_reducible refine (great_any A n c _ l _ hr3 hnm).mono ?_); rintro e w3 ⟨b, rfl, h400, rfl⟩))
  · go_ret
    exact ⟨ret_bool (by simp), hbw3⟩
  · first
      | subst (‹_ = false›)
      | (obtain rfl : b = false := by simpa using ‹¬ b = true›)
    have hlen : n + lens l < 20000 := h400 rfl
    have hp1 : w.heap.size ≤ w1.heap.size := hb1.size
    have hp12 : w1.heap.size < w2.heap.size := hp2
    have Hp1 := Lib.hid hp1
    have Hp12 := Lib.hid hp12
    clear h400 hE2 hE3 hQ3 hr3 hp1 hp12 hp2
    go_loopg [6] n (fun q i wr => ∃ j : Nat, q + j = n ∧ i = .int .i64 j ∧ Below w.heap.size w wr ∧ ∃ g h, Ears wr w1.heap.size w2.heap.size g h ∧ h.length ≤ lens (l.take j))
    case atStart => exact ⟨0, by omega, rfl, hbw3, _, [], hT3, by simp⟩
    case round =>
      obtain ⟨j, hj, rfl, hbr, g, h, hT, hhl⟩ := hrel
      clear hT3 hbw3
      by_cases hlt : j < n
      · have hi0 : (0 : Int) ≤ (j : Int) := by omega
        have hi1 : (j : Int) < (n : Int) := by omega
        have hrr := hr.below hbr
        obtain ⟨b, o, rfl, hbB, hc⟩ := hrr.2.2 (by omega)
        obtain ⟨r, hr1⟩ : ∃ r, l[j]? = some r := ⟨_, List.getElem?_eq_getElem (by have := hr.1; omega)⟩
        obtain ⟨c0, c1⟩ := hc j r hr1
        obtain ⟨rb, rlt, rcap, rcm, rw_⟩ := hrr.2.1 r (List.mem_of_getElem? hr1)
        have hsn := lens_snoc l j r hr1
        have htk := lens_take l (j + 1)
        have hrl : r.len ≤ 20000 := by omega
        have hh1 : h.length ≤ 20000 := by omega
        have hbl : r.b.length = r.len := by have := rb.1; simpa using this
        have Hsn := Lib.hid hsn
        have Hbl := Lib.hid hbl
        clear hc hr1 hsn hbl htk
        have go : (r.what == 2) = true ∨ (r.what == 2) = false := by cases (r.what == 2) <;> simp
        rcases go with t1 | t1
        · obtain ⟨⟨su, sp, se, si⟩, hs⟩ : ∃ s, s = silL h := ⟨_, rfl⟩
          have Hs := Lib.hid hs
          clear hs
          go_wp2_with (first
            | (go_at_call 17; (with_reducible refine (sil_any _ _ _ _ hT.x).mono ?_)
               rintro e w4 ⟨A4, n4, c4, he, hr4, hE4, hK4⟩
               rw [← Hs.out] at he hr4
               subst he
               have hQ4 := hT.left hK4
               have hb4 := hbr.trans (hK4.below (B := w.heap.size) fun k hk => ⟨by have := hbr.size; omega, by have := Hp1.out; omega⟩)
               have hE4' := hE4.wide)
            | (go_at_call 18; (with_reducible refine (qsil_any _ _ _ _ hQ4 (by omega)).mono ?_)
               rintro e w5 ⟨A5, n5, c5, he, hr5, hQ5, hK5⟩
               rw [← Hs.out] at he hr5
               subst he
               have hE5 := (hE4'.keepq hT.pq hK5).wide
               have hb5 := hb4.trans (hK5.below (B := w.heap.size) fun k hk => ⟨by have := hb4.size; omega, by have := Hp1.out; have := Hp12.out; omega⟩)
               have hT5 : Ears w5 w1.heap.size w2.heap.size g [] := Ears.make hE5 hQ5 hT.pq hT.pg
               have kv5 := kcvB _ _ _ c5 _ sp hr5
               have kv4 := kcvB _ _ _ c4 _ sp (hr4.keepq hQ4 hK5)
               clear hT hQ4 hE4 hE4' hK4 hr4 hr5 hQ5 hK5 hE5)
            | (go_at_call 21; (with_reducible refine (emany_any _ _ _ _ hT5.x).mono ?_)
               rintro e w6 ⟨rfl, rfl⟩)
            | (go_at_call 22; (with_reducible refine (qmany_any _ _ _ _ hT5.y (by simp)).mono ?_)
               rintro e w6 ⟨rfl, rfl⟩)
            | fail)
          go_roundg (gk - 1)
          case measure => omega
          case rel => exact ⟨j + 1, by omega, by go_num, hb5, g, [], hT5, by simp⟩
        · have Hrb : Hid (Rd wr wr.heap.size 1 r.A r.len (r.b.map bv)) := rb.more hbr.size
          go_wp2_with (first
            | (go_at_call 19; (with_reducible refine (hear_any _ _ _ _ _ _ _ r.b hT.x Hrb.out rlt (by omega)).mono ?_)
               rintro e w4 ⟨rfl, hE4, hK4⟩
               have hQ4 := hT.left hK4
               have hb4 := hbr.trans (hK4.below (B := w.heap.size) fun k hk => ⟨by have := hbr.size; omega, by have := Hp1.out; omega⟩)
               have hrb4 := (rb.keepw hK4 Hp1.out hbr.size).more hb4.size
               have c14 := (hb4.cell (p := ⟨b, o + j * 2 + 1, none⟩) hbB).trans ((hbr.cell (p := ⟨b, o + j * 2 + 1, none⟩) hbB).symm.trans c1)
               have hE4' := hE4.wide)
            | (go_at_call 20; (with_reducible refine (qhear_any _ _ _ _ _ _ _ r.b hQ4 hrb4 rlt (by omega) (by omega)).mono ?_)
               rintro e w5 ⟨rfl, ⟨g', hg1, hg2, hQ5⟩, hK5⟩
               have hE5 := (hE4'.keepq hT.pq hK5).wide
               have hb5 := hb4.trans (hK5.below (B := w.heap.size) fun k hk => ⟨by have := hb4.size; omega, by have := Hp1.out; have := Hp12.out; omega⟩)
               have hT5 : Ears w5 w1.heap.size w2.heap.size g' (h ++ r.b) := Ears.make hE5 hQ5 hT.pq (by have := hE4.pold; omega)
               have hl5 : Hid ((h ++ r.b).length ≤ lens (l.take (j + 1))) := by
                 show _ ≤ _
                 rw [List.length_append, Hsn.out, Hbl.out]; omega
               have hl6 : Hid ((h ++ r.b).length ≤ 100000) := by show _ ≤ _; rw [List.length_append, Hbl.out]; omega
               clear hT hQ4 hE4 hE4' hK4 hQ5 hK5 hE5 hrb4)
            | (go_at_call 21; (with_reducible refine (emany_any _ _ _ _ hT5.x).mono ?_)
               rintro e w6 ⟨rfl, rfl⟩)
            | (go_at_call 22; (with_reducible refine (qmany_any _ _ _ _ hT5.y hl6.out).mono ?_)
               rintro e w6 ⟨rfl, rfl⟩)
            | fail)
          go_roundg (gk - 1)
          case measure => omega
          case rel => exact ⟨j + 1, by omega, by go_num, hb5, g', _, hT5, hl5.out⟩
      · obtain rfl : j = n := by omega
        go_wp2_with fail
        go_ret
        exact ⟨ret_bool (by simp), hbr⟩
end Go.Proofs.Ytkajhobgelaigaa
