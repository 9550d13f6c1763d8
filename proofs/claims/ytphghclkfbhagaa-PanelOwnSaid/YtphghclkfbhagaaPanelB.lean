/- Panels: something happens to each lamp (all). -/
import Derived.Test.YtphghclkfbhagaaPanel
set_option linter.unusedVariables false
set_option linter.unusedSimpArgs false
set_option maxRecDepth 100000
namespace Go.Proofs.Ytphghclkfbhagaa
open Go Go.RowKit

theorem branchN {P : Program} {ops : Array Oper} {Q : Exit → Act → World → Prop} {md : Region.Mode} {S : World → Prop} (i : Nat) (L : Array Bool) {o : Oper} {fuel : Nat} {listed : Array Bool} {l : List Value} {ds : List Deferred} {w : World}
    (hr : Region.ready md ops listed = [i]) (ho : ops[i]? = some o) (hd : o.dst = none) (hL : listed.setIfInBounds i true = L) (hg : Region.wanted o (yielded ops l.toArray) = true)
    (h : ∀ K' : Act → World → Prop, Shut (∀ v w, S w → (S w → wpAnyH P md ops Q S fuel L ⟨l.toArray, ds⟩ w) → K' (Act.put ⟨l.toArray, ds⟩ none v) w) → Oper.wp P o ⟨l.toArray, ds⟩ w K' Q) :
    wpAnyH P md ops Q S (fuel + 1) listed ⟨l.toArray, ds⟩ w := by
  subst hL
  refine wpAnyH_ready hr (by simp) (AllReadyH.cons ho (fun K hK => ?_) AllReadyH.nil)
  rw [if_pos hg]
  refine h K fun v w hS hW => hK.out _ _ hS fun hS' => ?_
  have := hW hS'
  exact this

theorem wp_call_val {P : Program} {o : Oper} {a : Act} {w : World} {K : Act → World → Prop} {Q : Exit → Act → World → Prop} (x y : Operand) (ats : Array TypeId)
    (ho : o.op = .call { callee := .value x, args := #[y], argTypes := ats }) (F : FuncId) (fn : Func) (hf : P.funcs[F]? = some fn) (hname : (fn.name == "runtime.NumGoroutine") = false) (hb : fn.body.isNone = false)
    (cap : Array Value) (v : Value) (hx : a.eval x = .func (.func F) #[] cap) (hy : a.eval y = v)
    (h : Calls P F (#[v] ++ cap) w fun e w' => ∃ u, e = .returned u ∧ K (a.put o.dst u) w') : o.wp P a w K Q := by
  have h1 : ¬ fn.name = "runtime.NumGoroutine" := by simpa using hname
  have h2 : ¬ fn.body = none := by cases hx : fn.body <;> simp_all
  have hrun : (execOp a.eval o).run P w = .ok (.enter F (#[v] ++ cap)) w := by
    unfold execOp
    simp [ho, resolve, Deferred.ofValue, invoke, callFunc, hx, hy, hf, h1, h2]
  unfold Oper.wp
  rw [hrun]
  refine h.mono ?_
  rintro e w' ⟨u, rfl, hk⟩
  exact hk

/-- each lamp up to number j: the states, and whether one has come to sound anew -/
def allS (K : List Int) (hap : Nat → Int) (S : List Int) : Nat → List Int × Bool
  | 0 => (S, false)
  | j + 1 => ((allS K hap S j).1.set j (nextI (K.getD j 0) ((allS K hap S j).1.getD j 0) (hap j)),
    (allS K hap S j).2 || (newI (nextI (K.getD j 0) ((allS K hap S j).1.getD j 0) (hap j)) && !newI ((allS K hap S j).1.getD j 0)))
theorem allS_len (K : List Int) (hap : Nat → Int) (S : List Int) (j : Nat) : (allS K hap S j).1.length = S.length := by
  induction j with
  | zero => rfl
  | succ j ih => simp [allS, ih]
theorem nextI_lt (k s h : Int) (hk : 1 ≤ k ∧ k ≤ 6) (hs : 0 ≤ s ∧ s < 9) (hh : 1 ≤ h ∧ h ≤ 5) : 0 ≤ nextI k s h ∧ nextI k s h < 9 := by
  obtain ⟨k1, k2⟩ := hk
  obtain ⟨s1, s2⟩ := hs
  obtain ⟨h1, h2⟩ := hh
  rcases six k1 k2 with rfl | rfl | rfl | rfl | rfl | rfl <;> rcases five h1 h2 with rfl | rfl | rfl | rfl | rfl <;> rcases nine s1 s2 with rfl | rfl | rfl | rfl | rfl | rfl | rfl | rfl | rfl <;> decide
theorem getD_mem {l : List Int} {j : Nat} (h : j < l.length) : l.getD j 0 ∈ l := by
  rw [List.getD_eq_getElem?_getD, List.getElem?_eq_getElem h]
  exact List.getElem_mem h
theorem HPc.turn {w1 w2 : World} {p q c : Nat} {A : Option Addr} {d : PD} (h : HPc w1 p q A c d) (j : Nat) (s : Int) (hs : 0 ≤ s ∧ s < 9) (hb : Below w1.heap.size w1 w2) :
    HPc (w2.setCell ⟨q, j, none⟩ (iv s)) p q A c { d with S := d.S.set j s } := by
  have h2 := h.below hb
  refine ⟨h.n64, by simpa using h.len, h.kk, fun x hx => ?_, h.pq, heap_set_other _ h2.hp h.pq, ?_, ?_⟩
  · rcases List.mem_or_eq_of_mem_set hx with hx | rfl
    · exact h.ss x hx
    · exact hs
  · refine h2.hk.keep (fun k _ hk _ => Below.heap_setCell _ _ _ _ hk) (by simp [World.setCell])
  · have := heap_set_same (j := j) (iv s) h2.hq
    rw [this]
    simp

set_option maxHeartbeats 4000000 in
theorem all_any (F : FuncId) (fn : Func) (hf : Try.prog.funcs[F]? = some fn) (hname : (fn.name == "runtime.NumGoroutine") = false) (hb : fn.body.isNone = false) (cap : Array Value)
    (hap : Nat → Int) (p q : Nat) (d : PD) (w : World) (h : HP w p q d) (hh : ∀ j, j < d.K.length → 1 ≤ hap j ∧ hap j ≤ 5)
    (hcl : ∀ j : Nat, j < d.K.length → ∀ w1, Kept (Off p q w) w w1 → Calls Try.prog F (#[.int .i64 (j : Int)] ++ cap) w1 fun e w2 => e = .returned (.int .i64 (hap j)) ∧ w2 = w1) :
    Calls Try.prog 22 #[.pointer (some ⟨p, 0, none⟩), .func (.func F) #[] cap] w fun e w' =>
      e = .returned (.bool (allS d.K hap d.S d.K.length).2) ∧ HP w' p q { d with S := (allS d.K hap d.S d.K.length).1 } ∧ Kept (Off p q w) w w' := by
  obtain ⟨A, c, h⟩ := h
  obtain ⟨n, hn⟩ : ∃ n, n = d.K.length := ⟨_, rfl⟩
  have Hn := Lib.hid hn
  have hn64 : n ≤ 64 := by rw [hn]; exact h.n64
  have c0 := cell_of_row w p 0 _ _ _ h.hp
  simp [← hn] at c0
  have HH : Hid (HPc w p q A c d) := h
  have Hcl : Hid (∀ j : Nat, j < n → ∀ w1, Kept (Off p q w) w w1 → Calls Try.prog F (#[.int .i64 (j : Int)] ++ cap) w1 fun e w2 => e = .returned (.int .i64 (hap j)) ∧ w2 = w1) := by rw [hn]; exact hcl
  have Hh : Hid (∀ j, j < n → 1 ≤ hap j ∧ hap j ≤ 5) := by rw [hn]; exact hh
  have Hf := Lib.hid hf
  have Hname := Lib.hid hname
  have Hb := Lib.hid hb
  clear h hn hcl hh hf hname hb
  go_enter Try.func22, Try.ntmps22
  go_wp2_with fail
  clear c0
  go_loopg [5, 13] n (fun k b i wr => ∃ j : Nat, k + j = n ∧ i = .int .i64 j ∧ b = .bool (allS d.K hap d.S j).2 ∧ HPc wr p q A c { d with S := (allS d.K hap d.S j).1 } ∧ Kept (Off p q w) w wr)
  case atStart => exact ⟨0, by omega, rfl, rfl, HH.out, Kept.refl _ _⟩
  case round =>
    obtain ⟨j, hj, rfl, rfl, hr, hk⟩ := hrel
    by_cases hlt : j < n
    · have hjK : j < d.K.length := by rw [← Hn.out]; exact hlt
      have hjS : j < (allS d.K hap d.S j).1.length := by have h1 := hr.len; simp only at h1; omega
      obtain ⟨k, hkk⟩ : ∃ k, k = d.K.getD j 0 := ⟨_, rfl⟩
      obtain ⟨s, hss⟩ : ∃ s, s = (allS d.K hap d.S j).1.getD j 0 := ⟨_, rfl⟩
      obtain ⟨x, hx⟩ : ∃ x, x = nextI k s (hap j) := ⟨_, rfl⟩
      obtain ⟨ba, hba⟩ : ∃ b, b = (allS d.K hap d.S j).2 := ⟨_, rfl⟩
      obtain ⟨hj1, hhj⟩ : ∃ h, h = hap j := ⟨_, rfl⟩
      have k1 : 1 ≤ k ∧ k ≤ 6 := by rw [hkk]; exact hr.kk _ (getD_mem hjK)
      have s1 : 0 ≤ s ∧ s < 9 := by rw [hss]; exact hr.ss _ (getD_mem hjS)
      have h1 := Hh.out j hlt
      have x1 : 0 ≤ x ∧ x < 9 := by rw [hx]; exact nextI_lt k s _ k1 s1 h1
      have hclj := Hcl.out j hlt
      have hi0 : (0 : Int) ≤ (j : Int) := by omega
      have hi1 : (j : Int) < (n : Int) := by omega
      have c0 := cell_of_row wr p 0 _ _ _ hr.hp
      have c1 := cell_of_row wr p 1 _ _ _ hr.hp
      simp [← Hn.out] at c0 c1
      obtain ⟨g, rfl, gp, gq, gl, gc⟩ := hr.hk (by show 0 < d.K.length; omega)
      have cg : wr.cell? ⟨g, j, none⟩ = some (.int .i64 k) := gc j k (by rw [hkk, List.getD_eq_getElem?_getD, List.getElem?_eq_getElem hjK]; rfl)
      have cq : wr.cell? ⟨q, j, none⟩ = some (.int .i64 s) := by
        rw [cell_of_row _ _ _ _ _ _ hr.hq]
        simp [hss, List.getD_eq_getElem?_getD, List.getElem?_eq_getElem hjS, iv]
      have fq : wr.frozen? ⟨q, j, none⟩ = false := frozen_of_row _ _ _ _ _ hr.hq
      have lp := hr.lp
      have lq := hr.lq
      have hpq := hr.pq
      have HR := Lib.hid hr
      have HK := Lib.hid hk
      have Hclj := Lib.hid hclj
      have h1' := Lib.hid h1
      have Hx := Lib.hid hx
      have Hkk := Lib.hid hkk
      have Hss := Lib.hid hss
      have Hba := Lib.hid hba
      have Hhj := Lib.hid hhj
      rw [← hba]
      clear hr hk hclj h1 hx hkk hss hba hhj gc hjS
      go_wp2_with fail
      refine startH (fun w' => Kept (Off p q wr) wr w' ∧ w'.cell? ⟨p, 0, none⟩ = some (.slice (some ⟨g, 0, none⟩) n c) ∧ w'.cell? ⟨p, 1, none⟩ = some (.slice (some ⟨q, 0, none⟩) n n) ∧ w'.cell? ⟨g, j, none⟩ = some (.int .i64 k)) 19 #[false, false, false, false, false, false, false, false, false, false, false, false, false, false, false, false, false, false, false] rfl rfl (by kernel_rfl) ?_ (fun hHeld => ?_)
      · (first | exact ⟨(Kept.refl _ _).drew, c0, c1, cg⟩ | assumption)
      refine takeH 0 23 #[true, false, false, false, false, false, false, false, false, false, false, false, false, false, false, false, false, false, false] (v := ?_) rfl rfl rfl (by kernel_rfl) (by kernel_rfl) (by kernel_rfl) (fun _ _ _ h => h) (Or.inl ⟨by rfl, ?_⟩) hHeld ?_
      rotate_left
      · (intro w' hSw; (try dsimp only at hSw); go_simp; (try with_reducible rfl))
      simp only [List.set_cons_zero, List.set_cons_succ]
      refine takeH 1 24 #[true, true, false, false, false, false, false, false, false, false, false, false, false, false, false, false, false, false, false] (v := ?_) rfl rfl rfl (by kernel_rfl) (by kernel_rfl) (by kernel_rfl) (fun _ _ _ h => h) (Or.inl ⟨by rfl, ?_⟩) hHeld ?_
      rotate_left
      · (intro w' hSw; (try dsimp only at hSw); go_simp; (try with_reducible rfl))
      simp only [List.set_cons_zero, List.set_cons_succ]
      refine takeH 2 25 #[true, true, true, false, false, false, false, false, false, false, false, false, false, false, false, false, false, false, false] (v := ?_) rfl rfl rfl (by kernel_rfl) (by kernel_rfl) (by kernel_rfl) (fun _ _ _ h => h) (Or.inl ⟨by rfl, ?_⟩) hHeld ?_
      rotate_left
      · (intro w' hSw; (try dsimp only at hSw); go_simp; (try with_reducible rfl))
      simp only [List.set_cons_zero, List.set_cons_succ]
      refine takeH 3 26 #[true, true, true, true, false, false, false, false, false, false, false, false, false, false, false, false, false, false, false] (v := ?_) rfl rfl rfl (by kernel_rfl) (by kernel_rfl) (by kernel_rfl) (fun _ _ _ h => h) (Or.inl ⟨by rfl, ?_⟩) hHeld ?_
      rotate_left
      · (intro w' hSw; (try dsimp only at hSw); go_simp; (try with_reducible rfl))
      simp only [List.set_cons_zero, List.set_cons_succ]
      refine takeH 4 27 #[true, true, true, true, true, false, false, false, false, false, false, false, false, false, false, false, false, false, false] (v := ?_) rfl rfl rfl (by kernel_rfl) (by kernel_rfl) (by kernel_rfl) (fun _ _ _ h => h) (Or.inl ⟨by rfl, ?_⟩) hHeld ?_
      rotate_left
      · (intro w' hSw; (try dsimp only at hSw); go_simp; (try with_reducible rfl))
      simp only [List.set_cons_zero, List.set_cons_succ]
      refine takeH 5 28 #[true, true, true, true, true, true, false, false, false, false, false, false, false, false, false, false, false, false, false] (v := ?_) rfl rfl rfl (by kernel_rfl) (by kernel_rfl) (by kernel_rfl) (fun _ _ _ h => h) (Or.inl ⟨by rfl, ?_⟩) hHeld ?_
      rotate_left
      · (intro w' hSw; (try dsimp only at hSw); go_simp; (try with_reducible rfl))
      simp only [List.set_cons_zero, List.set_cons_succ]
      refine takeH 6 29 #[true, true, true, true, true, true, true, false, false, false, false, false, false, false, false, false, false, false, false] (v := ?_) rfl rfl rfl (by kernel_rfl) (by kernel_rfl) (by kernel_rfl) (fun _ _ _ h => h) (Or.inl ⟨by rfl, ?_⟩) hHeld ?_
      rotate_left
      · (intro w' hSw; (try dsimp only at hSw); go_simp; (try with_reducible rfl))
      simp only [List.set_cons_zero, List.set_cons_succ]
      refine takeH 7 30 #[true, true, true, true, true, true, true, true, false, false, false, false, false, false, false, false, false, false, false] (v := ?_) rfl rfl rfl (by kernel_rfl) (by kernel_rfl) (by kernel_rfl) (fun _ _ _ h => h) (Or.inl ⟨by rfl, ?_⟩) hHeld ?_
      rotate_left
      · (intro w' hSw; (try dsimp only at hSw); go_simp; (try with_reducible rfl))
      simp only [List.set_cons_zero, List.set_cons_succ]
      refine takeH 8 31 #[true, true, true, true, true, true, true, true, true, false, false, false, false, false, false, false, false, false, false] (v := ?_) rfl rfl rfl (by kernel_rfl) (by kernel_rfl) (by kernel_rfl) (fun _ _ _ h => h) (Or.inl ⟨by rfl, ?_⟩) hHeld ?_
      rotate_left
      · (intro w' hSw; (try dsimp only at hSw); go_simp; (try with_reducible rfl))
      simp only [List.set_cons_zero, List.set_cons_succ]
      refine takeH 9 32 #[true, true, true, true, true, true, true, true, true, true, false, false, false, false, false, false, false, false, false] (v := ?_) rfl rfl rfl (by kernel_rfl) (by kernel_rfl) (by kernel_rfl) (fun _ _ _ h => h) (Or.inl ⟨by rfl, ?_⟩) hHeld ?_
      rotate_left
      · (intro w' hSw; (try dsimp only at hSw); go_simp; (try with_reducible rfl))
      simp only [List.set_cons_zero, List.set_cons_succ]
      refine takeH 10 33 #[true, true, true, true, true, true, true, true, true, true, true, false, false, false, false, false, false, false, false] (v := ?_) rfl rfl rfl (by kernel_rfl) (by kernel_rfl) (by kernel_rfl) (fun _ _ _ h => h) (Or.inl ⟨by rfl, ?_⟩) hHeld ?_
      rotate_left
      · (intro w' hSw; (try dsimp only at hSw); go_simp; (try with_reducible rfl))
      simp only [List.set_cons_zero, List.set_cons_succ]
      refine takeH 11 34 #[true, true, true, true, true, true, true, true, true, true, true, true, false, false, false, false, false, false, false] (v := ?_) rfl rfl rfl (by kernel_rfl) (by kernel_rfl) (by kernel_rfl) (fun _ _ _ h => h) (Or.inl ⟨by rfl, ?_⟩) hHeld ?_
      rotate_left
      · (intro w' hSw; (try dsimp only at hSw); go_simp; (try with_reducible rfl))
      simp only [List.set_cons_zero, List.set_cons_succ]
      refine takeH 12 35 #[true, true, true, true, true, true, true, true, true, true, true, true, true, false, false, false, false, false, false] (v := ?_) rfl rfl rfl (by kernel_rfl) (by kernel_rfl) (by kernel_rfl) (fun _ _ _ h => h) (Or.inl ⟨by rfl, ?_⟩) hHeld ?_
      rotate_left
      · (intro w' hSw; (try dsimp only at hSw); go_simp; (try with_reducible rfl))
      simp only [List.set_cons_zero, List.set_cons_succ]
      refine takeH 13 36 #[true, true, true, true, true, true, true, true, true, true, true, true, true, true, false, false, false, false, false] (v := ?_) rfl rfl rfl (by kernel_rfl) (by kernel_rfl) (by kernel_rfl) (fun _ _ _ h => h) (Or.inl ⟨by rfl, ?_⟩) hHeld ?_
      rotate_left
      · (intro w' hSw; (try dsimp only at hSw); go_simp; (try with_reducible rfl))
      simp only [List.set_cons_zero, List.set_cons_succ]
      refine takeH 14 37 #[true, true, true, true, true, true, true, true, true, true, true, true, true, true, true, false, false, false, false] (v := ?_) rfl rfl rfl (by kernel_rfl) (by kernel_rfl) (by kernel_rfl) (fun _ _ _ h => h) (Or.inl ⟨by rfl, ?_⟩) hHeld ?_
      rotate_left
      · (intro w' hSw; (try dsimp only at hSw); go_simp; (try with_reducible rfl))
      simp only [List.set_cons_zero, List.set_cons_succ]
      refine branchH 15 38 #[true, true, true, true, true, true, true, true, true, true, true, true, true, true, true, true, false, false, false] (by kernel_rfl) rfl rfl rfl (by rfl) (fun K hK => ?_)
      refine wp_call_val (.tmp 36) (.tmp 37) _ rfl F fn Hf.out Hname.out Hb.out cap _ rfl rfl ?_
      refine (Hclj.out _ (Off.trans HK.out hHeld.1)).mono ?_
      rintro e wn ⟨rfl, rfl⟩
      refine ⟨_, rfl, ?_⟩
      refine hK.out _ _ ?_ (fun hHeld' => ?_)
      · (first | exact ⟨(Kept.refl _ _).drew, c0, c1, cg⟩ | assumption)
      clear hK K hHeld
      have hHeld := hHeld'
      clear hHeld'
      simp only [List.set_cons_zero, List.set_cons_succ]
      refine branchH 16 39 #[true, true, true, true, true, true, true, true, true, true, true, true, true, true, true, true, true, false, false] (by kernel_rfl) rfl rfl rfl (by rfl) (fun K hK => ?_)
      go_simp
      (go_at_call 31; (with_reducible refine (next_any k s (hap j) _ k1 s1 h1'.out).mono ?_))
      rintro e w2 ⟨he, hb2⟩
      rw [← Hx.out] at he
      subst he
      have hB : Below wr.heap.size wr w2 := ((Below.refl _ wr).drew).trans hb2
      have hk2 : Kept (Off p q wr) wr w2 := Off.of hB
      have d0 := (hB.cell (p := ⟨p, 0, none⟩) lp).trans c0
      have d1 := (hB.cell (p := ⟨p, 1, none⟩) lp).trans c1
      have dg := (hB.cell (p := ⟨g, j, none⟩) gl).trans cg
      have dq := (hB.cell (p := ⟨q, j, none⟩) lq).trans cq
      have df := (hB.frozen (p := ⟨q, j, none⟩) lq).trans fq
      have hS2 := And.intro hk2 (And.intro d0 (And.intro d1 dg))
      clear hb2 hk2 d0 d1 dg
      refine hK.out _ _ ?_ (fun hHeld' => ?_)
      · (first | exact ⟨(Kept.refl _ _).drew, c0, c1, cg⟩ | assumption)
      clear hK K hHeld
      have hHeld := hHeld'
      clear hHeld'
      simp only [List.set_cons_zero, List.set_cons_succ]
      refine takeH 17 40 #[true, true, true, true, true, true, true, true, true, true, true, true, true, true, true, true, true, true, false] (v := ?_) rfl rfl rfl (by kernel_rfl) (by kernel_rfl) (by kernel_rfl) (fun _ _ _ h => h) (Or.inl ⟨by rfl, ?_⟩) hHeld ?_
      rotate_left
      · (intro w' hSw; (try dsimp only at hSw); go_simp; (try with_reducible rfl))
      simp only [List.set_cons_zero, List.set_cons_succ]
      refine branchN 18 #[true, true, true, true, true, true, true, true, true, true, true, true, true, true, true, true, true, true, true] (by kernel_rfl) rfl rfl rfl (by rfl) (fun K hK => ?_)
      go_simp
      have hS3 : Kept (Off p q wr) wr (w2.setCell ⟨q, j, none⟩ (.int .i64 x)) ∧ (w2.setCell ⟨q, j, none⟩ (.int .i64 x)).cell? ⟨p, 0, none⟩ = some (.slice (some ⟨g, 0, none⟩) n c) ∧
          (w2.setCell ⟨q, j, none⟩ (.int .i64 x)).cell? ⟨p, 1, none⟩ = some (.slice (some ⟨q, 0, none⟩) n n) ∧ (w2.setCell ⟨q, j, none⟩ (.int .i64 x)).cell? ⟨g, j, none⟩ = some (.int .i64 k) :=
        ⟨hHeld.1.setCell (p := ⟨q, j, none⟩) (fun h => h.2.2 rfl) _, (World.cell?_of_block (w := w2) (Below.heap_setCell _ _ _ _ hpq)).trans hHeld.2.1,
          (World.cell?_of_block (w := w2) (Below.heap_setCell _ _ _ _ hpq)).trans hHeld.2.2.1, (World.cell?_of_block (w := w2) (Below.heap_setCell _ _ _ _ gq)).trans hHeld.2.2.2⟩
      first | refine hK.out undef _ ?_ (fun hHeld' => ?_) | refine hK.out _ _ ?_ (fun hHeld' => ?_)
      · (first | exact ⟨(Kept.refl _ _).drew, c0, c1, cg⟩ | assumption)
      clear hK K hHeld
      have hHeld := hHeld'
      clear hHeld'
      try simp only [List.set_cons_zero, List.set_cons_succ]
      refine wpAnyH_done (by kernel_rfl) ?_ _
      refine NoPanic.normal ?_
      have hr3 := HR.out.turn j x x1 hB
      have hk3 := Off.trans HK.out hHeld.1
      obtain ⟨w3, hw3⟩ : ∃ w3, w3 = w2.setCell ⟨q, j, none⟩ (.int .i64 x) := ⟨_, rfl⟩
      have e3 : w2.setCell ⟨q, j, none⟩ (iv x) = w3 := hw3.symm
      rw [← hw3] at hHeld hk3 ⊢
      rw [e3] at hr3
      clear e3
      have c1 := hHeld.2.2.1
      have cx : w3.cell? ⟨q, j, none⟩ = some (.int .i64 x) := by
        have hjS : j < (allS d.K hap d.S j).1.length := by have h1 := HR.out.len; simp only at h1; have := Hn.out; omega
        rw [cell_of_row _ _ _ _ _ _ hr3.hq]
        simp [hjS, iv]
      clear hw3 hHeld c0 cg cq fq hB hS2 hS3 dq df
      have HR3 := Lib.hid hr3
      have HK3 := Lib.hid hk3
      have Hst : Hid (allS d.K hap d.S (j + 1) = ((allS d.K hap d.S j).1.set j x, ba || (newI x && !newI s))) := by
        show allS d.K hap d.S (j + 1) = _
        rw [Hba.out, Hx.out, Hkk.out, Hss.out]
        rfl
      clear hr3 hk3
      obtain ⟨n1, hn1⟩ : ∃ b, newI x = b := ⟨_, rfl⟩
      obtain ⟨n2, hn2⟩ : ∃ b, newI s = b := ⟨_, rfl⟩
      have Hn1 := Lib.hid hn1
      have Hn2 := Lib.hid hn2
      have Hst' : Hid (allS d.K hap d.S (j + 1) = ((allS d.K hap d.S j).1.set j x, ba || (n1 && !n2))) := by
        show allS d.K hap d.S (j + 1) = _
        rw [← Hn1.out, ← Hn2.out]; exact Hst.out
      clear hn1 hn2 Hst
      cases n1 <;> cases n2
      all_goals
        go_wp2_with (first
          | (go_at_call 32; (with_reducible refine (isnew_any x _ _ Hn1.out).mono ?_); rintro e w4 ⟨rfl, rfl⟩)
          | (go_at_call 32; (with_reducible refine (isnew_any s _ _ Hn2.out).mono ?_); rintro e w4 ⟨rfl, rfl⟩)
          | fail)
        go_roundg (gk - 1)
        case measure => omega
        case rel => exact ⟨j + 1, by omega, by go_num, by rw [Hst'.out]; simp, by rw [Hst'.out]; exact HR3.out, HK3.out⟩
    · obtain rfl : j = n := by omega
      have HR := Lib.hid hr
      have HK := Lib.hid hk
      obtain ⟨ba, hba⟩ : ∃ b, b = (allS d.K hap d.S j).2 := ⟨_, rfl⟩
      have Hba := Lib.hid hba
      rw [← hba]
      clear hr hk hba
      go_wp2_with fail
      go_ret
      rw [← Hn.out]
      exact ⟨by rw [Hba.out]; rfl, ⟨A, c, HR.out⟩, HK.out⟩
end Go.Proofs.Ytphghclkfbhagaa
