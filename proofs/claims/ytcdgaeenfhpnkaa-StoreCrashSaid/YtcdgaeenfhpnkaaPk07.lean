/- Package log: pieces: what its function hands over. -/
import Derived.Test.YtcdgaeenfhpnkaaPk06
set_option linter.unusedVariables false
set_option linter.unusedSimpArgs false
set_option maxRecDepth 100000
namespace Go.Proofs.Ytcdgaeenfhpnkaa
open Go Go.RowKit CrcMath
attribute [local go_sem] Oper.semAt_some

abbrev PX := Pc × Nat × Nat
def pxE (x : PX) : Array Value := #[pcV x.1 x.2.1 x.2.2]
def secs (d : DD) (fr many : Nat) : List (List Nat) := (d.L.drop fr).take many
def pxR (S : List (List Nat)) (B0 : Nat) (pre : List PX) (x : PX) (W : World) : Prop :=
  (∃ rest, told S = pre.map (·.1) ++ x.1 :: rest) ∧ B0 ≤ x.2.1 ∧ Rd W W.heap.size 1 (some ⟨x.2.1, 6, none⟩) x.1.bytes.length (x.1.bytes.map bv)
/-- the blocks that the iterator reads: the disk's, and its own three -/
def pxK (p q c B : Nat) (k : Nat) : Prop := k = p ∨ k = q ∨ k = c ∨ B ≤ k ∧ k < B + 3
structure PxI (W : World) (p q c B : Nat) (d : DD) (fr many : Nat) : Prop where
  hd : HDc W (fun _ => False) p q c d
  lt : p < W.heap.size ∧ q < W.heap.size ∧ c < W.heap.size
  b0 : W.heap[B]? = some (.cells #[.pointer (some ⟨p, 0, none⟩)] 36)
  b1 : W.heap[B + 1]? = some (.cells #[.int .i64 fr] 3)
  b2 : W.heap[B + 2]? = some (.cells #[.int .i64 many] 3)
theorem PxI.kept {W W' : World} {p q c B : Nat} {d : DD} {fr many : Nat} (h : PxI W p q c B d fr many) (hk : Kept (pxK p q c B) W W') : PxI W' p q c B d fr many := by
  refine ⟨⟨h.hd.ok, (fun _ hk => hk.elim), h.hd.pq, h.hd.up, h.hd.uq, (hk.block p (.inl rfl)).trans h.hd.hp, (hk.block q (.inr (.inl rfl))).trans h.hd.hq, fun a b e => ?_⟩, ?_, (hk.block B (.inr (.inr (.inr (by omega))))).trans h.b0, (hk.block (B + 1) (.inr (.inr (.inr (by omega))))).trans h.b1, (hk.block (B + 2) (.inr (.inr (.inr (by omega))))).trans h.b2⟩
  · obtain ⟨h1, h2, h3, h4⟩ := h.hd.hc a b e
    exact ⟨h1, h2, h3, (hk.block c (.inr (.inr (.inl rfl)))).trans h4⟩
  · have := h.lt
    have := hk.size
    omega
theorem PxI.old {W : World} {p q c B : Nat} {d : DD} {fr many : Nat} (h : PxI W p q c B d fr many) : ∀ k, pxK p q c B k → k < W.heap.size := by
  intro k hk
  have h1 := (Array.getElem?_eq_some_iff.1 h.b0).1
  have h2 := (Array.getElem?_eq_some_iff.1 h.b1).1
  have h3 := (Array.getElem?_eq_some_iff.1 h.b2).1
  have := h.lt
  rcases hk with rfl | rfl | rfl | hk
  · omega
  · omega
  · omega
  · have : k = B ∨ k = B + 1 ∨ k = B + 2 := by omega
    rcases this with rfl | rfl | rfl <;> assumption
theorem PxI.below {W W' : World} {p q c B : Nat} {d : DD} {fr many : Nat} (h : PxI W p q c B d fr many) (hb : Below W.heap.size W W') : PxI W' p q c B d fr many :=
  h.kept (Kept.of hb h.old)

theorem tell_none (A : Option Addr) (n c B : Nat) (s : List Nat) (w : World) (hr : Rd w B 1 A n (s.map bv)) (hB : B ≤ w.heap.size) (hb : ∀ c ∈ s, c < 256) (hn : n = 64) (hc : n ≤ c) (h : tellF s = none) :
    Calls Try.prog 94 #[.slice A n c] w fun e w' => e = .returned (.tuple #[pc0, .bool false]) ∧ Below w.heap.size w w' :=
  (tell_any A n c B s w hr hB hb hn hc).mono fun e w' ⟨hbl, hh⟩ => by
    rcases hh with ⟨_, he⟩ | ⟨p, g, c', hs, _⟩
    · exact ⟨he, hbl⟩
    · rw [h] at hs; cases hs
theorem tell_some (A : Option Addr) (n c B : Nat) (s : List Nat) (w : World) (hr : Rd w B 1 A n (s.map bv)) (hB : B ≤ w.heap.size) (hb : ∀ c ∈ s, c < 256) (hn : n = 64) (hc : n ≤ c) (p : Pc) (h : tellF s = some p) :
    Calls Try.prog 94 #[.slice A n c] w fun e w' => ∃ g c', e = .returned (.tuple #[pcV p g c', .bool true]) ∧ w.heap.size ≤ g ∧ Rd w' w'.heap.size 1 (some ⟨g, 6, none⟩) p.bytes.length (p.bytes.map bv) ∧ Below w.heap.size w w' :=
  (tell_any A n c B s w hr hB hb hn hc).mono fun e w' ⟨hbl, hh⟩ => by
    rcases hh with ⟨hs, _⟩ | ⟨p', g, c', hs, he, hg, hr⟩
    · rw [h] at hs; cases hs
    · rw [h] at hs
      injection hs with hs
      subst hs
      exact ⟨g, c', he, hg, hr, hbl⟩

set_option maxHeartbeats 4000000 in
theorem pieces_in (n l : Nat) (J Jx : List PX → World → Prop) (W : World) (p q c B : Nat) (d : DD) (fr many : Nat) (hI : PxI W p q c B d fr many) (hdn : d.down = false) (hfm : fr + many ≤ d.L.length)
    (hJ : ∀ pre A B, J pre A → Below A.heap.size A B → J pre B) (hY : Round (n - 1) Try.prog l pxE (pxR (secs d fr many) (B + 3)) (Kept (pxK p q c B)) J Jx) (h0 : J [] W) :
    CallsIn Fence.wide n Try.prog 92 #[.func (.yield l) #[] #[], .pointer (some ⟨B + 2, 0, none⟩), .pointer (some ⟨B, 0, none⟩), .pointer (some ⟨B + 1, 0, none⟩)] W fun e W' => (∃ v, e = .returned v) ∧
      ((∃ xs : List PX, told (secs d fr many) = xs.map (·.1) ∧ J xs W') ∨ (∃ pre : List PX, (∃ rest, told (secs d fr many) = pre.map (·.1) ++ rest) ∧ Jx pre W')) := by
  refine callsIn_of_wp Try.func92 rfl trivial ?_ rfl
  simp only [Try.ntmps92, List.size_toArray, List.length_cons, List.length_nil, Nat.reduceAdd, Nat.reduceSub, Array.replicate_succ, Array.replicate_zero, List.push_toArray, List.append_toArray, List.nil_append, List.cons_append]
  have hm256 : many ≤ 256 ∧ fr ≤ 256 := by have := hI.hd.ok.2.1; omega
  have m0 := cell_of_row W (B + 2) 0 _ _ _ hI.b2
  simp at m0
  gi_wp2
  clear m0
  gi_loopw [11] (fun i wr => ∃ (k : Nat) (pre : List PX), i = .int .i64 k ∧ k ≤ many ∧ pre.length = k ∧ told (secs d fr many) = pre.map (·.1) ++ told ((secs d fr many).drop k) ∧ J pre wr ∧ PxI wr p q c B d fr many) (fun i _ => many - (intOf i).toNat)
  case atStart => exact ⟨0, [], rfl, by omega, rfl, rfl, h0, hI⟩
  case round =>
    obtain ⟨k, pre, rfl, hk, hpl, htd, hJs, hP⟩ := hrel
    by_cases hlt : k < many
    · have hkL : fr + k < d.L.length := by omega
      obtain ⟨s, hs⟩ : ∃ s, s = d.L[fr + k] := ⟨_, rfl⟩
      have hsm : s ∈ d.L := by rw [hs]; exact List.getElem_mem _
      have hs64 := (hP.hd.ok.1 s hsm).1
      have hs256 := (hP.hd.ok.1 s hsm).2
      have hrd : d.read ((fr : Int) + (k : Int)) = (0, s) := by
        rw [DD.read, if_neg (by rw [hdn]; simp), if_pos (by omega)]
        have e : ((fr : Int) + (k : Int)).toNat = fr + k := by omega
        rw [e, List.getD_eq_getElem?_getD, List.getElem?_eq_getElem hkL, hs]; rfl
      have hdrop : (secs d fr many).drop k = s :: (secs d fr many).drop (k + 1) := by
        have hlen : k < (secs d fr many).length := by rw [secs, List.length_take, List.length_drop]; omega
        rw [List.drop_eq_getElem_cons hlen]
        congr 1
        rw [hs]
        simp [secs]
      have m0 := cell_of_row wr B 0 _ _ _ hP.b0
      have m1 := cell_of_row wr (B + 1) 0 _ _ _ hP.b1
      simp at m0 m1
      have HP := Lib.hid hP
      have HD : Hid (HD wr (fun _ => False) p q d) := ⟨c, hP.hd⟩
      have HRd := Lib.hid hrd
      have hi0 : (k : Int) < (many : Int) := by omega
      have Hs64 := Lib.hid hs64
      clear hs hsm hkL hP hrd hs64
      cases htl : tellF s with
      | none =>
        have HN := Lib.hid htl
        have HT : Hid (told (secs d fr many) = pre.map (·.1)) := by
          show _ = _
          rw [htd, hdrop]
          simp [told, htl]
        clear htl htd hdrop
        gi_wp2_with (first
          | (refine ⟨trivial, (fun h => by cases h), ?_⟩
             gi_at_call 93
             (with_reducible refine (callsIn_wide.2 (read_any (fun _ => False) p q d wr _ HD.out)).mono ?_)
             rintro e w1 ⟨A1, n1, c1, he, hown1, hb1⟩
             rw [HRd.out] at he hown1
             subst he
             have hn1 : n1 = 64 := by have := own_len hown1; rw [List.length_map, Hs64.out] at this; exact this
             subst hn1
             have hr1 := Rd.of_own hown1
             have hc1 := own_cap hown1
             clear hown1)
          | (refine ⟨trivial, (fun h => by cases h), ?_⟩
             gi_at_call 94
             (with_reducible refine (callsIn_wide.2 (tell_none A1 64 c1 _ s w1 hr1 (Nat.le_refl _) hs256 rfl hc1 HN.out)).mono ?_)
             rintro e w2 ⟨rfl, hb2⟩
             unfold pc0
             have HB : Hid (Below wr.heap.size wr w2) := hb1.trans (hb2.mono hb1.size)
             clear hb1 hb2 hr1)
          | fail)
        refine ⟨(fun _ _ => trivial), ?_⟩
        gi_wp2
        refine bodyPost_ret (results_none rfl _ _ _) rfl ?_
        exact ⟨⟨_, rfl⟩, .inl ⟨pre, HT.out, hJ _ _ _ hJs (HB.out.alloc HB.out.size _)⟩⟩
      | some pc =>
        have HN := Lib.hid htl
        have HT : Hid (told (secs d fr many) = pre.map (·.1) ++ pc :: told ((secs d fr many).drop (k + 1))) := by
          show _ = _
          rw [htd, hdrop]
          simp [told, htl]
        clear htl htd hdrop
        gi_wp2_with (first
          | (refine ⟨trivial, (fun h => by cases h), ?_⟩
             gi_at_call 93
             (with_reducible refine (callsIn_wide.2 (read_any (fun _ => False) p q d wr _ HD.out)).mono ?_)
             rintro e w1 ⟨A1, n1, c1, he, hown1, hb1⟩
             rw [HRd.out] at he hown1
             subst he
             have hn1 : n1 = 64 := by have := own_len hown1; rw [List.length_map, Hs64.out] at this; exact this
             subst hn1
             have hr1 := Rd.of_own hown1
             have hc1 := own_cap hown1
             clear hown1)
          | (refine ⟨trivial, (fun h => by cases h), ?_⟩
             gi_at_call 94
             (with_reducible refine (callsIn_wide.2 (tell_some A1 64 c1 _ s w1 hr1 (Nat.le_refl _) hs256 rfl hc1 pc HN.out)).mono ?_)
             rintro e w2 ⟨g, c2, rfl, hg2, hr2, hb2⟩
             have hgB : B + 3 ≤ g := by
               have h1 := (Array.getElem?_eq_some_iff.1 HP.out.b2).1
               have h2 := hb1.size
               omega
             clear hg2
             have HB : Hid (Below wr.heap.size wr w2) := hb1.trans (hb2.mono hb1.size)
             obtain ⟨W2, hW2⟩ : ∃ W, W = w2.alloc (.cells #[.int .i64 pc.turn, .int .i64 pc.which, .int .i64 pc.of_, .slice (some ⟨g, 6, none⟩) pc.bytes.length c2] 132) := ⟨_, rfl⟩
             have HW2 := Lib.hid hW2
             have HB2 : Hid (Below wr.heap.size wr W2) := by rw [hW2]; exact HB.out.alloc HB.out.size _
             have HR2 : Hid (Rd W2 W2.heap.size 1 (some ⟨g, 6, none⟩) pc.bytes.length (pc.bytes.map bv)) := by rw [hW2]; exact (hr2.alloc (Nat.le_refl _) _).more (by rw [World.size_alloc]; omega)
             obtain ⟨fn, tmps, assign, body, hy, hR⟩ := hY pre (pc, g, c2) W2 (hJ _ _ _ hJs HB2.out) ⟨⟨_, HT.out⟩, hgB, HR2.out⟩
             unfold pxE pcV at hy
             dsimp only at hy
             rw [hW2] at hy hR
             have HRd2 := Lib.hid hR
             unfold pcV
             clear hb1 hb2 hr1 hr2 hW2 hR hgB)
          | fail)
        refine ⟨(fun h => by cases h), ?_⟩
        refine HRd2.out.mono ?_
        rw [← HW2.out]
        rintro e W3 (⟨rfl, hJ3, hk3⟩ | ⟨rfl, hJx3⟩)
        · have hP3 := Lib.hid ((HP.out.below HB2.out).kept hk3)
          have HJ3 := Lib.hid hJ3
          have HT3 : Hid (told (secs d fr many) = (pre ++ [(pc, g, c2)]).map (·.1) ++ told ((secs d fr many).drop (k + 1))) := by
            show _ = _
            rw [HT.out]; simp
          clear hJ3 hk3 hy
          gi_wp2
          go_roundw
          case rel => exact ⟨k + 1, pre ++ [(pc, g, c2)], by go_num, by omega, by simp [hpl], HT3.out, HJ3.out, hP3.out⟩
          case measure => simp [intOf]; omega
        · have HJx3 := Lib.hid hJx3
          clear hJx3 hy
          gi_wp2
          refine bodyPost_ret (results_none rfl _ _ _) rfl ?_
          exact ⟨⟨_, rfl⟩, .inr ⟨pre ++ [(pc, g, c2)], ⟨told ((secs d fr many).drop (k + 1)), by rw [HT.out]; simp⟩, HJx3.out⟩⟩
    · obtain rfl : k = many := by omega
      have HT := Lib.hid htd
      clear htd
      gi_wp2
      go_end0
      refine ⟨⟨_, rfl⟩, .inl ⟨pre, ?_, hJs⟩⟩
      rw [HT.out, List.drop_eq_nil_of_le (by rw [secs, List.length_take]; omega)]
      simp [told]
end Go.Proofs.Ytcdgaeenfhpnkaa
