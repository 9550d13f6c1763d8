/- The document's disk: what it keeps of the sector that was torn last; write, Mixed, size, sectors. -/
import Derived.Test.YtcdgaeenfhpnkaaPk36
import Derived.Test.YtcdgaeenfhpnkaaPk37
import Derived.Test.YtcdgaeenfhpnkaaPk38
import Derived.Test.YtcdgaeenfhpnkaaPk40
import Derived.Test.YtcdgaeenfhpnkaaPk41
set_option linter.unusedVariables false
set_option linter.unusedSimpArgs false
set_option maxRecDepth 100000
namespace Go.Proofs.Ytcdgaeenfhpnkaa.Cr
open Go Go.RowKit CrcMath
attribute [local go_sem] Oper.semAt_some

def tornI : Option Nat → Int
  | none => -1
  | some a => a
structure HT (w : World) (U : Nat → Prop) (p g : Nat) (r : RD) : Prop where
  hr : HR w U p g r.d (tornI r.torn, bstr r.was, bstr r.meant)
  lt : ∀ a, r.torn = some a → a < r.d.L.length
  wb : ∀ x ∈ r.was, x < 256
  mb : ∀ x ∈ r.meant, x < 256
section
variable {w w' : World} {U : Nat → Prop} {p g : Nat} {r : RD}
theorem HT.below (h : HT w U p g r) (hb : Below w.heap.size w w') : HT w' U p g r := ⟨h.hr.below hb, h.lt, h.wb, h.mb⟩
theorem HT.parts (h : HT w U p g r) : ∃ x, HRc w U p g r.d x ∧ x.torn = tornI r.torn ∧ x.was = bstr r.was ∧ x.meant = bstr r.meant := by
  obtain ⟨x, h1, h2⟩ := h.hr
  injection h2 with h2 h3
  injection h3 with h3 h4
  exact ⟨x, h1, h2, h3, h4⟩
theorem HT.ok (h : HT w U p g r) : r.d.ok := by
  obtain ⟨x, h1, _⟩ := h.hr
  exact h1.ok
end
theorem write_down (d : DD) (i : Int) (b : List Nat) (h : d.down = true) : d.write i b = (101, d) := by unfold DD.write; rw [if_pos h]
theorem rwrite_t (r : RD) (U : Nat → Prop) (p g : Nat) (w : World) (k : Nat) (A : Option Addr) (n m : Nat) (b : List Nat) (h : HT w U p g r) (hk : k < r.d.L.length) (hr : Rd w w.heap.size 1 A n (b.map bv)) (hn : n ≤ 64) (hb : ∀ c ∈ b, c < 256) (hw : r.d.writes < 1000000) :
    Calls Try.prog 99 #[.pointer (some ⟨p, 0, none⟩), .int .i64 k, .slice A n m] w fun e w' => e = .returned (.int .i64 (r.write k b).1) ∧ HT w' U p g (r.write k b).2 ∧ Kept U w w' := by
  obtain ⟨x, h1, h2, h3, h4⟩ := h.parts
  by_cases hd : r.d.down = true
  · have e : r.write (k : Int) b = (101, r) := by
      unfold RD.write
      rw [write_down _ _ _ hd]
      dsimp only
      rw [if_neg (fun hh => by rw [hd] at hh; simp at hh)]
    rw [e]
    refine (rwrite_down _ U p g r.d x w k _ h1 rfl hd).mono ?_
    rintro ed w' ⟨he, hr', hk'⟩
    exact ⟨he, ⟨by rw [h2, h3, h4] at hr'; exact hr', h.lt, h.wb, h.mb⟩, hk'⟩
  · have hd : r.d.down = false := by simpa using hd
    obtain ⟨old, hold⟩ : ∃ o, r.d.L[k]? = some o := ⟨_, List.getElem?_eq_getElem hk⟩
    refine (rwrite_fine _ U p g r.d x w k A n m b old h1 rfl hd hold hr hn hb hw).mono ?_
    rintro ed w' ⟨he, hr', hk'⟩
    have hlen := write_len r.d (k : Int) b
    have hbl : b.length = n := by have := hr.1; simpa using this
    have hc3 : 0 ≤ (k : Int) ∧ (k : Int) < r.d.L.length ∧ b.length ≤ 64 := ⟨by omega, by omega, by omega⟩
    have ho : ∀ c ∈ old, c < 256 := (h1.ok.1 old (List.mem_of_getElem? hold)).2
    have hg : r.d.L.getD k [] = old := by rw [List.getD_eq_getElem?_getD, hold]; rfl
    rw [h2, h3, h4] at hr'
    by_cases hcut : ∃ m0, r.d.cut = some (0, m0)
    · obtain ⟨m0, hcut⟩ := hcut
      have e : r.d.write k b = (101, { r.d with L := r.d.L.set k ((pad b).take m0 ++ old.drop m0), down := true, cut := none }) := by
        rw [DD.write, if_neg (by rw [hd]; simp), if_pos hc3, hcut]
        simp only [Int.toNat_natCast, hg]
      have e2 : r.write (k : Int) b = (101, ⟨(r.d.write k b).2, some k, old, pad b⟩) := by
        unfold RD.write
        rw [e]
        dsimp only
        rw [if_pos ⟨rfl, hd⟩, Int.toNat_natCast, hg]
      have ek : Kf r.d k b (tornI r.torn, bstr r.was, bstr r.meant) = ((k : Int), bstr old, bstr (pad b)) := by unfold Kf; rw [hcut, hg]; rfl
      rw [ek] at hr'
      rw [e2]
      refine ⟨by rw [he, e], ⟨hr', fun a ha => ?_, ho, pad_lt b hb⟩, hk'⟩
      injection ha with ha
      rw [← ha, hlen]
      exact hk
    · have ek : Kf r.d k b (tornI r.torn, bstr r.was, bstr r.meant) = (tornI r.torn, bstr r.was, bstr r.meant) := by
        unfold Kf
        split
        · rename_i m0 hh; exact absurd ⟨m0, hh⟩ hcut
        · rfl
      have edn : (r.d.write k b).2.down = false := by
        rw [DD.write, if_neg (by rw [hd]; simp), if_pos hc3]
        rcases hc : r.d.cut with _ | ⟨_ | a0, m0⟩
        · exact hd
        · exact absurd ⟨m0, hc⟩ hcut
        · exact hd
      have e2 : r.write (k : Int) b = ((r.d.write k b).1, ⟨(r.d.write k b).2, r.torn, r.was, r.meant⟩) := by
        unfold RD.write
        rw [if_neg (fun hh => by rw [edn] at hh; simp at hh)]
      rw [ek] at hr'
      rw [e2]
      exact ⟨he, ⟨hr', fun a ha => by rw [hlen]; exact h.lt a ha, h.wb, h.mb⟩, hk'⟩
theorem mixed_any (r : RD) (U : Nat → Prop) (p g : Nat) (w : World) (h : HT w U p g r) :
    Calls Try.prog 61 #[.pointer (some ⟨p, 0, none⟩)] w fun e w' => e = .returned (sv r.mixed) ∧ Below w.heap.size w w' := by
  obtain ⟨x, h1, h2, h3, h4⟩ := h.parts
  have c0 := cell_of_row w p 0 _ _ _ h1.hp
  have c5 := cell_of_row w p 5 _ _ _ h1.hp
  have c6 := cell_of_row w p 6 _ _ _ h1.hp
  have c7 := cell_of_row w p 7 _ _ _ h1.hp
  rw [h2] at c5
  rw [h3] at c6
  rw [h4] at c7
  simp at c0 c5 c6 c7
  rcases ht : r.torn with _ | a
  · rw [ht] at c5
    have e : r.mixed = [] := by unfold RD.mixed; rw [ht]
    rw [e]
    unfold tornI at c5
    clear h1
    go_enter Try.func61, Try.ntmps61
    go_wp2_with fail
    go_quiet (fail)
    go_wp2_with fail
    go_ret
    exact ⟨rfl, ⟨rfl, rfl, rfl, Nat.le_refl _, fun _ _ => rfl⟩⟩
  · rw [ht] at c5
    have hal := h.lt a ht
    obtain ⟨s, hs⟩ : ∃ o, r.d.L[a]? = some o := ⟨_, List.getElem?_eq_getElem hal⟩
    have cs := row_str h1.hg a s hs
    have hg : r.d.L.getD a [] = s := by rw [List.getD_eq_getElem?_getD, hs]; rfl
    have hsb : ∀ c ∈ s, c < 256 := (h1.ok.1 s (List.mem_of_getElem? hs)).2
    have b1 : decide ((a : Int) < 0) = false := decide_eq_false (by omega)
    have t1 : (0 : Int) ≤ (a : Int) := by omega
    have t2 : (a : Int) < (r.d.L.length : Int) := by omega
    have hwb := h.wb
    have hmb := h.mb
    unfold tornI at c5
    have Em : Hid (r.mixed = if s = r.was ∨ s = r.meant then [] else s) := by
      show _ = _
      unfold RD.mixed
      rw [ht]
      dsimp only
      rw [hg]
    clear h1 hg h hal hs
    by_cases e1 : s = r.was
    · have Em2 : Hid (r.mixed = []) := Em.out.trans (if_pos (.inl e1))
      rw [← e1] at c6
      clear Em e1 hwb
      go_enter Try.func61, Try.ntmps61
      go_wp2_with fail
      go_quiet (fail)
      go_wp2_with fail
      go_ret
      rw [Em2.out]
      exact ⟨rfl, ⟨rfl, rfl, rfl, Nat.le_refl _, fun _ _ => rfl⟩⟩
    · have n1 : ((bstr s).toList == (bstr r.was).toList) = false := bstr_ne (fun hh => e1 (bstr_inj hsb hwb hh))
      by_cases e2 : s = r.meant
      · have Em2 : Hid (r.mixed = []) := Em.out.trans (if_pos (.inr e2))
        rw [← e2] at c7
        clear Em e1 e2 hwb hmb
        go_enter Try.func61, Try.ntmps61
        go_wp2_with fail
        go_quiet (fail)
        go_wp2_with fail
        go_ret
        rw [Em2.out]
        exact ⟨rfl, ⟨rfl, rfl, rfl, Nat.le_refl _, fun _ _ => rfl⟩⟩
      · have n2 : ((bstr s).toList == (bstr r.meant).toList) = false := bstr_ne (fun hh => e2 (bstr_inj hsb hmb hh))
        have Em2 : Hid (r.mixed = s) := Em.out.trans (if_neg (by rintro (hh | hh); exact e1 hh; exact e2 hh))
        clear Em e1 e2 hwb hmb
        go_enter Try.func61, Try.ntmps61
        go_wp2_with fail
        go_quiet (fail)
        go_wp2_with fail
        go_quiet (fail)
        go_wp2_with fail
        go_ret
        rw [Em2.out]
        exact ⟨rfl, ⟨rfl, rfl, rfl, Nat.le_refl _, fun _ _ => rfl⟩⟩
theorem rsize_any (r : RD) (U : Nat → Prop) (p g : Nat) (w : World) (h : HT w U p g r) :
    Calls Try.prog 91 #[.pointer (some ⟨p, 0, none⟩)] w fun e w' => e = .returned (.int .i64 ((r.d.L.length / 2 : Nat) : Int)) ∧ w' = w := by
  obtain ⟨x, h1, _⟩ := h.parts
  have c0 := cell_of_row w p 0 _ _ _ h1.hp
  simp at c0
  have hl := h1.ok.2.1
  clear h1 h
  go_enter Try.func91, Try.ntmps91
  go_wp2_with fail
  go_ret
  exact ⟨by rfl, rfl⟩
theorem sectors_any (A : Option Addr) (n c : Nat) (w : World) (hn : n ≤ 100000) :
    Calls Try.prog 88 #[.slice A n c] w fun e w' => e = .returned (.int .i64 (((n + 55) / 56 : Nat) : Int)) ∧ w' = w := by
  go_enter Try.func88, Try.ntmps88
  go_wp2_with fail
  go_ret
  exact ⟨by rfl, rfl⟩
end Go.Proofs.Ytcdgaeenfhpnkaa.Cr
/- The document's log: the sectors of a record. -/
set_option linter.unusedVariables false
set_option linter.unusedSimpArgs false
set_option maxRecDepth 100000
namespace Go.Proofs.Ytcdgaeenfhpnkaa.Cr
open Go Go.RowKit CrcMath
attribute [local go_sem] Oper.semAt_some

theorem rput_any (A : Option Addr) (n c B : Nat) (b : List Nat) (turn i : Nat) (w : World) (hr : Rd w B 1 A n (b.map bv)) (hB : B ≤ w.heap.size) (hb : ∀ x ∈ b, x < 256) (hn : 1 ≤ n ∧ n ≤ 448) (hi : i < needsN b) (ht : turn < 65536) (hnc : n ≤ c) (hcm : c ≤ maxLen) :
    Calls Try.prog 100 #[.slice A n c, .int .i64 turn, .int .i64 i] w fun e w' => ∃ A' c', e = .returned (.slice A' 64 c') ∧ w'.ownsRow w.heap.size 5 1 (.slice A' 64 c') 64 ((secP turn i (needsN b) (chunkN b i)).map bv) ∧ Below w.heap.size w w' := by
  have hll : b.length = n := by have := hr.1; simpa using this
  have hc63 : c ≤ 9223372036854775807 := by unfold maxLen at hcm; omega
  obtain ⟨i0, hi8, hz0, hz1, hz2⟩ := info_parts info_u8
  obtain ⟨g, o, rfl, hgB, hcell⟩ := hr.2 (by omega)
  obtain ⟨s, hs⟩ : ∃ s, s = needsN b := ⟨_, rfl⟩
  have hs1 : s = (n + 55) / 56 := by rw [hs, needsN, hll]
  obtain ⟨m, hm⟩ : ∃ m, m = min 56 (n - 56 * i) := ⟨_, rfl⟩
  have hi8' : i < 8 := by omega
  have hin : 56 * i < n := by omega
  have hm0 : 0 < m := by omega
  have hm1 : m ≤ 56 := by omega
  have hck : (chunkN b i).length = m := by rw [chunk_len b n i hll, hm]
  have Hck := Lib.hid hck
  have Hpc : Hid (Rd w B 1 (some ⟨g, o + 56 * i, none⟩) m ((chunkN b i).map bv)) := by
    show Rd _ _ _ _ _ _
    have h := hr.piece (56 * i) m (by omega)
    have e : (b.drop (56 * i)).take m = chunkN b i := by
      unfold chunkN
      rw [hm, ← hll, ← List.length_drop, List.take_eq_take_iff]
      omega
    rw [e] at h
    exact h
  have hcb : Hid (∀ x ∈ chunkN b i, x < 256) := fun x hx => hb x (List.mem_of_mem_drop (List.mem_of_mem_take hx))
  obtain ⟨C, hC⟩ : ∃ C, C = chunkN b i := ⟨_, rfl⟩
  rw [← hC] at Hck Hpc hcb
  obtain ⟨f, hf⟩ : ∃ f, f = 56 * i := ⟨_, rfl⟩
  have hfi : 56 * (i : Int) = (f : Int) := by omega
  have x2 : (f : Int) ≤ (n : Int) := by omega
  have x2' : f ≤ n := by omega
  have x3 : (n : Int) ≤ (c : Int) := by omega
  have x4 : ¬ c = f := by omega
  have x5 : (turn : Int) / 256 < 256 := by omega
  have x6 : (0 : Int) ≤ (turn : Int) / 256 := by omega
  have X : Hid (m ≤ 56 ∧ 0 < m ∧ n ≤ 448 ∧ 1 ≤ n ∧ n ≤ c) := ⟨hm1, hm0, hn.2, hn.1, hnc⟩
  rw [← hs, ← hC]
  clear hck hr hcell hll
  have split : ((f : Int) + 56 ≤ (n : Int) ∧ m = 56) ∨ ((n : Int) < (f : Int) + 56 ∧ n - f = m) := by omega
  clear hm
  have Hg0 := Lib.hid hi
  have Hs1 := Lib.hid hs1
  have s8 : (s : Int) < 256 := by omega
  have m8 : (m : Int) < 256 := by omega
  have i8 : (i : Int) < 256 := by omega
  clear hs hi hs1
  clear hi8' hin hm0 hm1 hC
  rw [← hf] at Hpc
  clear hf
  have split2 : (∃ t : Nat, (f : Int) + 56 = (t : Int) ∧ (t : Int) ≤ (n : Int) ∧ f ≤ t ∧ t ≤ n ∧ t - f = m) ∨ ((n : Int) < (f : Int) + 56 ∧ n - f = m) := by
    rcases split with h | h
    · exact .inl ⟨f + 56, by omega, by omega, by omega, by omega, by omega⟩
    · exact .inr h
  clear split
  rcases split2 with ⟨t, y0, y1, y2, y3, em⟩ | ⟨y1, em⟩
  all_goals
    have Em := Lib.hid em
    clear em
    go_enter Try.func100, Try.ntmps100
    go_wp2_with (first
      | (go_at_call 88; (with_reducible refine (sectors_any _ n c _ (by have := X.out; omega)).mono ?_)
         rintro e w2 ⟨rfl, hw2⟩
         obtain rfl := hw2.symm
         rw [← Hs1.out]
         rw [Em.out]
         have Hlit := Lib.hid (own_new w 5 1 6 [.int .u8 87, .int .u8 ((turn : Int) / 256), .int .u8 ((turn : Int) % 256), .int .u8 (i : Int), .int .u8 (s : Int), .int .u8 (m : Int)] (by unfold maxLen; omega) rfl)
         have Hpc2 : Hid (Rd (w.alloc (.cells [.int .u8 87, .int .u8 ((turn : Int) / 256), .int .u8 ((turn : Int) % 256), .int .u8 (i : Int), .int .u8 (s : Int), .int .u8 (m : Int)].toArray 5)) w.heap.size 1 (some ⟨g, o + f, none⟩) m (C.map bv)) := (Hpc.out.more hB).below (al_ _ _))
      | (at_builtin
         refine wpList_app _ rfl (.tmp 33) (.tmp 34) 27 rfl w.heap.size 5 i0 (.int .u8 0) 1 1 Try.underlying27 hi8 hz0 hz1 hz2 rfl (by omega) _ 6 _ rfl Hlit.out w.heap.size (some ⟨g, o + f, none⟩) m (c - f) (C.map bv) rfl Hpc2.out (bv_one _) ?g1 ?g2 ?g3 ?_
         case g1 => unfold maxLen; have := X.out; omega
         case g2 => omega
         case g3 => exact (al_ w _).size
         intro v3 w3 hown3 hg3 hat3
         obtain ⟨A3, c3, rfl⟩ := own_shape hown3
         have HB3 : Hid (Below w.heap.size w w3) := (al_ w _).grown hg3 (al_ w _).size (fun q hq => (own_blk' Hlit.out q hq).1)
         have HO3 : Hid (w3.ownsRow w.heap.size 5 1 (.slice A3 (6 + m) c3) (6 + m) (([87, turn / 256, turn % 256, i, s, m] ++ C ++ List.replicate 0 0).map bv)) := by
           show World.ownsRow _ _ _ _ _ _ _
           have e : ([87, turn / 256, turn % 256, i, s, m] ++ C ++ List.replicate 0 0).map bv = [.int .u8 87, .int .u8 ((turn : Int) / 256), .int .u8 ((turn : Int) % 256), .int .u8 (i : Int), .int .u8 (s : Int), .int .u8 (m : Int)] ++ C.map bv := by simp [bv]
           rw [e]; exact hown3
         clear hown3 hg3 hat3 Hlit Hpc2))
    go_loopg [9] (56 - m) (fun k v wr => ∃ (j co : Nat) (Ao : Option Addr), k + j = 56 - m ∧ v = .slice Ao (6 + m + j) co ∧ wr.ownsRow w.heap.size 5 1 (.slice Ao (6 + m + j) co) (6 + m + j) (([87, turn / 256, turn % 256, i, s, m] ++ C ++ List.replicate j 0).map bv) ∧ Below w.heap.size w wr)
    case atStart => exact ⟨0, c3, A3, by omega, rfl, HO3.out, HB3.out⟩
    case round =>
      obtain ⟨j, co, Ao, hj, rfl, hown, hbel⟩ := hrel
      have Hown := Lib.hid hown
      have Hbel := Lib.hid hbel
      clear hown hbel
      by_cases hlt : m + j < 56
      · have q1 : 6 + (m : Int) + (j : Int) < 62 := by omega
        have Hlit := Lib.hid (own_new wr 5 1 1 [.int .u8 0] (by unfold maxLen; omega) rfl)
        go_wp2_with (first
          | (at_builtin
             refine wpList_app _ rfl (.tmp 39) (.tmp 40) 27 rfl w.heap.size 5 i0 (.int .u8 0) 1 1 Try.underlying27 hi8 hz0 hz1 hz2 rfl (by omega) (.slice Ao (6 + m + j) co) (6 + m + j) _ rfl (own_below Hown.out (al_ wr _)) _ (some ⟨wr.heap.size, 0, none⟩) 1 1 _ rfl (Rd.of_own Hlit.out) (fun u hu => by simp at hu; rcases hu with rfl; rfl) ?g1 ?g2 ?g3 ?_
             case g1 => unfold maxLen; omega
             case g2 => omega
             case g3 => exact Nat.le_trans Hbel.out.size (al_ wr _).size
             intro v4 w4 hown4 hg4 hat4
             obtain ⟨A4, c4, rfl⟩ := own_shape hown4
             have HB4 : Hid (Below w.heap.size w w4) := (Hbel.out.trans ((al_ wr _).mono Hbel.out.size)).grown hg4 (Nat.le_trans Hbel.out.size (al_ wr _).size) (fun q hq => (own_blk' Hown.out q hq).1)
             have HO4 : Hid (w4.ownsRow w.heap.size 5 1 (.slice A4 (6 + m + (j + 1)) c4) (6 + m + (j + 1)) (([87, turn / 256, turn % 256, i, s, m] ++ C ++ List.replicate (j + 1) 0).map bv)) := by
               show World.ownsRow _ _ _ _ _ _ _
               have e : ([87, turn / 256, turn % 256, i, s, m] ++ C ++ List.replicate (j + 1) 0).map bv = ([87, turn / 256, turn % 256, i, s, m] ++ C ++ List.replicate j 0).map bv ++ [.int .u8 0] := by
                 rw [List.replicate_succ', ← List.append_assoc, List.map_append]; rfl
               rw [e]; exact hown4
             clear hown4 hg4 hat4 Hlit))
        go_roundg (gk - 1)
        case measure => omega
        case rel => exact ⟨j + 1, _, _, by omega, rfl, HO4.out, HB4.out⟩
      · have q1 : ¬ 6 + (m : Int) + (j : Int) < 62 := by omega
        have hX := X.out
        have hmj : m + j = 56 := by omega
        have HO5 : Hid (Rd wr wr.heap.size 1 Ao 62 ((encP turn i s C).map bv)) := by
          show Rd _ _ _ _ _ _
          have h := Rd.of_own Hown.out
          rw [show 6 + m + j = 62 by omega] at h
          have e : [87, turn / 256, turn % 256, i, s, m] ++ C ++ List.replicate j 0 = encP turn i s C := by
            unfold encP
            rw [Hck.out, show 56 - m = j by omega]
          rw [e] at h
          exact h
        have HE : Hid (∀ x ∈ encP turn i s C, x < 256) := encP_lt turn i s C ht (by omega) (by omega) (by rw [Hck.out]; omega) hcb.out
        have e62 : 6 + m + j = 62 := by omega
        clear hX hmj hlt hj
        go_wp2_with (first
          | (go_at_call 104
             rw [e62]
             (with_reducible refine (rseal_any _ 62 _ _ _ _ HO5.out (Nat.le_refl _) HE.out (by decide)).mono ?_)
             rintro e w5 ⟨A5, c5, rfl, hown5, hb5⟩))
        go_ret
        exact ⟨A5, c5, rfl, own_base hown5 Hbel.out.size, Hbel.out.trans (hb5.mono Hbel.out.size)⟩
end Go.Proofs.Ytcdgaeenfhpnkaa.Cr
/- The document's log: what a sector tells. -/
set_option linter.unusedVariables false
set_option linter.unusedSimpArgs false
set_option maxRecDepth 100000
namespace Go.Proofs.Ytcdgaeenfhpnkaa.Cr
open Go Go.RowKit CrcMath
attribute [local go_sem] Oper.semAt_some

theorem below_nq {B : Nat} {a w : World} (h : Below B a w) (n : Nat) : Below B a (w.drewN n) := ⟨h.os, h.tape, h.output, h.size, h.block⟩
def GetP (w : World) (g : Gt) (e : Ending) (w' : World) : Prop :=
  ∃ A c, e = .returned (.tuple #[.int .i64 g.t, .int .i64 g.which, .int .i64 g.many, .slice A g.part.length c]) ∧ g.part.length ≤ c ∧ c ≤ maxLen ∧ Rd w' w'.heap.size 1 A g.part.length (g.part.map bv) ∧ Below w.heap.size w w'
theorem GetP.no {w w' : World} (hb : Below w.heap.size w w') : GetP w ⟨0, 0, 0, []⟩ (.returned (.tuple #[.int .i64 0, .int .i64 0, .int .i64 0, .slice none 0 0])) w' :=
  ⟨none, 0, rfl, Nat.le_refl _, Nat.zero_le _, ⟨rfl, fun h => absurd h (Nat.lt_irrefl 0)⟩, hb⟩
set_option maxHeartbeats 4000000 in
theorem get_any (A : Option Addr) (c B : Nat) (s : List Nat) (w : World) (hr : Rd w B 1 A 64 (s.map bv)) (hB : B ≤ w.heap.size) (hb : ∀ c ∈ s, c < 256) (hc : 64 ≤ c) :
    Calls Try.prog 103 #[.slice A 64 c] w (GetP w (getF s)) := by
  have hl : s.length = 64 := by have := hr.1; simpa using this
  have Hl := Lib.hid hl
  rcases ho : opens s with _ | _
  · have Ho := Lib.hid ho
    have HG : Hid (getF s = ⟨0, 0, 0, []⟩) := by show _ = _; unfold getF; rw [ho]; rfl
    clear ho hl
    go_enter Try.func103, Try.ntmps103
    go_wp2_with (first
      | (go_at_call 60; (with_reducible refine (ropen_any A 64 c B s _ hr hB hb (by omega) hc).mono ?_)
         rintro e w1 hp
         unfold OpenPost at hp
         rw [Ho.out] at hp
         obtain ⟨A1, n1, cc, he, hown1, hb1⟩ := hp
         subst he
         have HB1 := Lib.hid hb1
         clear hown1 hb1))
    refine bodyPost_ret (v := .tuple #[.int .i64 0, .int .i64 0, .int .i64 0, .slice none 0 0]) ?_ rfl ?_
    · simp [results, Try.results103, go_sem]
    · rw [HG.out]; exact GetP.no HB1.out
  obtain ⟨b, hbe⟩ : ∃ b, b = s.take 62 := ⟨_, rfl⟩
  have hbl : b.length = 62 := by rw [hbe, List.length_take, hl]; rfl
  have hb256 : ∀ x ∈ b, x < 256 := fun x hx => hb x (List.mem_of_mem_take (by rw [← hbe]; exact hx))
  have HG : Hid (getF s = getB b) := by show _ = _; unfold getF; rw [ho, if_pos rfl, hbe]
  have nth : ∀ i, i < 62 → (b.map bv)[i]? = some (.int .u8 ((b.getD i 0 : Nat) : Int)) := fun i hi => by
    rw [List.getElem?_map, List.getD_eq_getElem?_getD, List.getElem?_eq_getElem (by omega)]; rfl
  have lt : ∀ i, b.getD i 0 < 256 := fun i => by
    rw [List.getD_eq_getElem?_getD]
    cases h : b[i]? with
    | none => show 0 < 256; omega
    | some x => exact hb256 x (List.mem_of_getElem? h)
  have e0 := Lib.hid (nth 0 (by omega))
  have e1 := Lib.hid (nth 1 (by omega))
  have e2 := Lib.hid (nth 2 (by omega))
  have e3 := Lib.hid (nth 3 (by omega))
  have e4 := Lib.hid (nth 4 (by omega))
  have e5 := Lib.hid (nth 5 (by omega))
  obtain ⟨b0, hb0⟩ : ∃ x, b.getD 0 0 = x := ⟨_, rfl⟩
  obtain ⟨b1, hb1⟩ : ∃ x, b.getD 1 0 = x := ⟨_, rfl⟩
  obtain ⟨b2, hb2⟩ : ∃ x, b.getD 2 0 = x := ⟨_, rfl⟩
  obtain ⟨b3, hb3⟩ : ∃ x, b.getD 3 0 = x := ⟨_, rfl⟩
  obtain ⟨b4, hb4⟩ : ∃ x, b.getD 4 0 = x := ⟨_, rfl⟩
  obtain ⟨b5, hb5⟩ : ∃ x, b.getD 5 0 = x := ⟨_, rfl⟩
  have HGB : Hid (getB b = if b0 ≠ 87 ∨ 56 < b5 then ⟨0, 0, 0, []⟩ else if (b.drop (6 + b5)).all (fun x => x == 0) then ⟨256 * b1 + b2, b3, b4, (b.drop 6).take b5⟩ else ⟨0, 0, 0, []⟩) := by
    show _ = _
    rw [← hb0, ← hb1, ← hb2, ← hb3, ← hb4, ← hb5]
    rfl
  have l0 := lt 0
  have l1 := lt 1
  have l2 := lt 2
  have l3 := lt 3
  have l4 := lt 4
  have l5 := lt 5
  rw [hb0] at e0 l0
  rw [hb1] at e1 l1
  rw [hb2] at e2 l2
  rw [hb3] at e3 l3
  rw [hb4] at e4 l4
  rw [hb5] at e5 l5
  have Ho := Lib.hid ho
  have Hbl := Lib.hid hbl
  have Hbe := Lib.hid hbe
  have Hb256 := Lib.hid hb256
  clear hl ho hbe hbl nth lt hb0 hb1 hb2 hb3 hb4 hb5 hb256
  have arm0 : Hid (∀ e w1, OpenPost w s e w1 → ∃ g cc, e = .returned (.tuple #[.slice (some ⟨g, 0, none⟩) 62 cc, .bool true]) ∧ Below w.heap.size w w1 ∧ g < w1.heap.size ∧ 62 ≤ cc ∧ cc ≤ maxLen ∧ (∀ j u, (b.map bv)[j]? = some u → w1.cell? ⟨g, j, none⟩ = some u) ∧ Rd w1 w1.heap.size 1 (some ⟨g, 0, none⟩) 62 (b.map bv)) := by
    show ∀ e w1, _
    intro e w1 hp
    unfold OpenPost at hp
    rw [Ho.out] at hp
    obtain ⟨A1, n1, cc, he, hown1, hb1⟩ := hp
    have hn1 : n1 = 62 := by have := own_len hown1; simp [Hl.out] at this; omega
    subst hn1
    rw [Hl.out, show (if true then s.take (64 - 2) else []) = b from Hbe.out.symm] at hown1
    have hmx := own_max hown1
    have hrd := Rd.of_own hown1
    obtain ⟨hcc, g, rfl, hg0, hg1, hcell, _⟩ := own_some hown1 (by omega)
    exact ⟨g, cc, he, hb1, hg1, hcc, hmx.2, hcell, hrd⟩
  by_cases h1 : b0 ≠ 87 ∨ 56 < b5
  · have HN : Hid (getF s = ⟨0, 0, 0, []⟩) := by show _ = _; rw [HG.out, HGB.out, if_pos h1]
    have sp : ((b0 : Int) != 87) = true ∨ ((b0 : Int) != 87) = false ∧ decide ((56 : Int) < (b5 : Int)) = true := by
      by_cases h2 : b0 = 87
      · exact .inr ⟨by rw [h2]; rfl, decide_eq_true (by omega)⟩
      · exact .inl (by rw [bne_iff_ne]; omega)
    clear h1 HGB HG
    rcases sp with t0 | ⟨t0, t1⟩
    all_goals
      go_enter Try.func103, Try.ntmps103
      go_wp2_with (first
        | (go_at_call 60; (with_reducible refine (ropen_any A 64 c B s _ hr hB hb (by omega) hc).mono ?_)
           rintro e w1 hp
           obtain ⟨g, cc, rfl, hb1, hg1, hcc, hcm, hcell, hrd⟩ := arm0.out e w1 hp
           have c0 : w1.cell? ⟨g, 0, none⟩ = some (.int .u8 b0) := hcell 0 _ (e0.out)
           have c5 : w1.cell? ⟨g, 5, none⟩ = some (.int .u8 b5) := hcell 5 _ (e5.out)
           have HB1 := Lib.hid hb1
           clear hp hb1 hcell hrd))
      refine bodyPost_ret (v := .tuple #[.int .i64 0, .int .i64 0, .int .i64 0, .slice none 0 0]) ?_ rfl ?_
      · simp [results, Try.results103, go_sem]
      · rw [HN.out]; exact GetP.no HB1.out
  · have hb87 : b0 = 87 := by omega
    have hb56 : b5 ≤ 56 := by omega
    have t0 : ((b0 : Int) != 87) = false := by rw [hb87]; rfl
    have t1 : decide ((56 : Int) < (b5 : Int)) = false := decide_eq_false (by omega)
    have HG2 : Hid (getF s = if (b.drop (6 + b5)).all (fun x => x == 0) then ⟨256 * b1 + b2, b3, b4, (b.drop 6).take b5⟩ else ⟨0, 0, 0, []⟩) := by show _ = _; rw [HG.out, HGB.out, if_neg h1]
    have HL5 : Hid (((b.drop 6).take b5).length = b5) := by show _ = _; rw [List.length_take, List.length_drop, Hbl.out]; omega
    have Hlen : Hid ((b.drop (6 + b5)).length = 56 - b5) := by show _ = _; rw [List.length_drop, Hbl.out]; omega
    have Hpart : Hid (∀ W, Rd W W.heap.size 1 (some ⟨0, 0, none⟩) 0 [] → True) := fun _ _ => trivial
    clear h1 HGB HG hb87
    go_enter Try.func103, Try.ntmps103
    go_wp2_with (first
      | (go_at_call 60; (with_reducible refine (ropen_any A 64 c B s _ hr hB hb (by omega) hc).mono ?_)
         rintro e w1 hp
         obtain ⟨g, cc, rfl, hb1, hg1, hcc, hcm, hcell, hrd⟩ := arm0.out e w1 hp
         have c0 : w1.cell? ⟨g, 0, none⟩ = some (.int .u8 b0) := hcell 0 _ (e0.out)
         have c1 : w1.cell? ⟨g, 1, none⟩ = some (.int .u8 b1) := hcell 1 _ (e1.out)
         have c2 : w1.cell? ⟨g, 2, none⟩ = some (.int .u8 b2) := hcell 2 _ (e2.out)
         have c3 : w1.cell? ⟨g, 3, none⟩ = some (.int .u8 b3) := hcell 3 _ (e3.out)
         have c4 : w1.cell? ⟨g, 4, none⟩ = some (.int .u8 b4) := hcell 4 _ (e4.out)
         have c5 : w1.cell? ⟨g, 5, none⟩ = some (.int .u8 b5) := hcell 5 _ (e5.out)
         have Hcell := Lib.hid hcell
         have Hrd := Lib.hid hrd
         have HB1 := Lib.hid hb1
         have Hcm := Lib.hid hcm
         clear hp hb1 hcell hrd hcm))
    go_loopg [9] (56 - b5) (fun k i wr => ∃ j : Nat, k + j = 56 - b5 ∧ i = .int .i64 (6 + b5 + j : Nat) ∧ wr = w1 ∧ ((b.drop (6 + b5)).take j).all (fun x => x == 0) = true)
    case atStart => exact ⟨0, by omega, by go_num, rfl, rfl⟩
    case round =>
      obtain ⟨j, hj, rfl, rfl, hz⟩ := hrel
      have HZj := Lib.hid hz
      clear hz
      by_cases hlt : j < 56 - b5
      · obtain ⟨i, hi⟩ : ∃ i, i = 6 + b5 + j := ⟨_, rfl⟩
        have hi62 : (i : Int) < 62 := by omega
        have hi0 : (0 : Int) ≤ (i : Int) := by omega
        have hjl : j < (b.drop (6 + b5)).length := by rw [Hlen.out]; exact hlt
        obtain ⟨x, hx⟩ : ∃ x, x = (b.drop (6 + b5))[j] := ⟨_, rfl⟩
        have hxb : b[i]? = some x := by rw [hx, hi, List.getElem_drop, ← List.getElem?_eq_getElem]
        have hx256 : x < 256 := Hb256.out x (List.mem_of_getElem? hxb)
        have cx : wr.cell? ⟨g, i, none⟩ = some (.int .u8 x) := Hcell.out _ _ (by rw [List.getElem?_map, hxb]; rfl)
        have Hs : Hid (((b.drop (6 + b5)).take (j + 1)).all (fun x => x == 0) = (((b.drop (6 + b5)).take j).all (fun x => x == 0) && (x == 0))) := by
          show _ = _
          rw [List.take_succ_eq_append_getElem hjl, List.all_append, ← hx]; simp
        have Hx : Hid (x ∈ b.drop (6 + b5)) := by show _ ∈ _; rw [hx]; exact List.getElem_mem _
        have Hi := Lib.hid hi
        rw [← hi]
        clear hx hxb hjl hi
        by_cases hx0 : x = 0
        · have tx : ((x : Int) != 0) = false := by rw [hx0]; rfl
          have H0 : Hid (((b.drop (6 + b5)).take (j + 1)).all (fun x => x == 0) = true) := by show _ = _; rw [Hs.out, HZj.out, hx0]; rfl
          clear hx0
          go_wp2_with fail
          go_roundg (gk - 1)
          case measure => omega
          case rel => exact ⟨j + 1, by omega, by have := Hi.out; go_num, rfl, H0.out⟩
        · have tx : ((x : Int) != 0) = true := by rw [bne_iff_ne]; omega
          have HN : Hid (getF s = ⟨0, 0, 0, []⟩) := by
            show _ = _
            rw [HG2.out, if_neg]
            intro h
            rw [List.all_eq_true] at h
            have := h x Hx.out
            simp at this
            exact hx0 this
          clear hx0
          go_wp2_with fail
          refine bodyPost_ret (v := .tuple #[.int .i64 0, .int .i64 0, .int .i64 0, .slice none 0 0]) ?_ rfl ?_
          · simp [results, Try.results103, go_sem]
          · rw [HN.out]; exact GetP.no HB1.out
      · have HZ : (b.drop (6 + b5)).all (fun x => x == 0) = true := by
          have h := HZj.out
          rwa [List.take_of_length_le (by rw [Hlen.out]; omega)] at h
        have hi62 : ¬ ((6 + b5 + j : Nat) : Int) < 62 := by omega
        have HA : Hid (getF s = ⟨256 * b1 + b2, b3, b4, (b.drop 6).take b5⟩) := by show _ = _; rw [HG2.out, if_pos HZ]
        have hc62 : 6 + b5 ≤ cc := by omega
        clear HZ
        go_wp2_with fail
        go_quiet (fail)
        go_wp2_with fail
        refine bodyPost_ret (v := .tuple #[.int .i64 (256 * b1 + b2 : Nat), .int .i64 b3, .int .i64 b4, .slice (some ⟨g, 6, none⟩) b5 (cc - 6)]) ?_ rfl ?_
        · simp [results, Try.results103, go_sem]
        · rw [HA.out]
          refine ⟨some ⟨g, 6, none⟩, cc - 6, ?_, ?_, ?_, ?_, below_nq HB1.out _⟩
          · dsimp only; rw [HL5.out]
          · dsimp only; rw [HL5.out]; omega
          · have := Hcm.out; omega
          · dsimp only
            have hm := fun N => (Hrd.out.mid 6 b5 (by omega)).below (below_nq (Below.refl wr.heap.size wr) N)
            simpa [HL5.out] using hm _
end Go.Proofs.Ytcdgaeenfhpnkaa.Cr
