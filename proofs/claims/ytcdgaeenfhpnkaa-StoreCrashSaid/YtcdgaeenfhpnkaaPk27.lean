/- A region that draws its order and holds calls and slices that make memory: one fact an operation, each shown once, whatever order is drawn. -/
import Derived.Test.YtcdgaeenfhpnkaaPk01
set_option linter.unusedVariables false
set_option linter.unusedSimpArgs false
namespace Go.Proofs.Ytcdgaeenfhpnkaa
open Go Go.RowKit

def setAll (X : Nat → Value) : List (Nat × Nat) → List Value → List Value
  | [], l => l
  | (i, d) :: D, l => setAll X D (l.set d (X i))
def updX (X : Nat → Value) (i : Nat) (v : Value) : Nat → Value := fun k => if k = i then v else X k

theorem setAll_congr {X Y : Nat → Value} : ∀ (D : List (Nat × Nat)) (l : List Value), (∀ p ∈ D, X p.1 = Y p.1) → setAll X D l = setAll Y D l
  | [], _, _ => rfl
  | (i, d) :: D, l, h => by
    simp only [setAll]
    rw [h (i, d) (by simp)]
    exact setAll_congr D _ fun p hp => h p (by simp [hp])
theorem setAll_set {X : Nat → Value} (v : Value) (d : Nat) : ∀ (D : List (Nat × Nat)) (l : List Value), (∀ p ∈ D, p.2 ≠ d) → (setAll X D l).set d v = setAll X D (l.set d v)
  | [], _, _ => rfl
  | (i, e) :: D, l, h => by
    simp only [setAll]
    rw [setAll_set v d D _ (fun p hp => h p (by simp [hp]))]
    rw [List.set_comm _ _ (h (i, e) (by simp))]
theorem setAll_upd (X : Nat → Value) (i d : Nat) (v : Value) : ∀ (D : List (Nat × Nat)) (l : List Value), (D.map (·.1)).Nodup → (D.map (·.2)).Nodup → (i, d) ∈ D →
    (setAll X D l).set d v = setAll (updX X i v) D l
  | [], _, _, _, h => by simp at h
  | (j, e) :: D, l, h1, h2, h => by
    simp only [List.map_cons, List.nodup_cons] at h1 h2
    simp only [setAll]
    rcases List.mem_cons.1 h with h | h
    · injection h with ha hb
      subst ha hb
      rw [setAll_set v d D _ (fun p hp e => h2.1 (List.mem_map.2 ⟨p, hp, e⟩)), List.set_set]
      rw [setAll_congr D _ (Y := updX X i v) (fun p hp => by
        unfold updX
        rw [if_neg (fun e => h1.1 (List.mem_map.2 ⟨p, hp, e⟩))])]
      simp [updX]
    · rw [setAll_upd X i d v D _ h1.2 h2.2 h]
      have : updX X i v j = X j := by
        unfold updX
        rw [if_neg (fun e => h1.1 (List.mem_map.2 ⟨(i, d), h, e.symm⟩))]
      rw [this]
theorem setAll_init : ∀ (D : List (Nat × Nat)) (l : List Value), (D.map (·.1)).Nodup → ∃ X, setAll X D l = l
  | [], l, _ => ⟨fun _ => .bool false, rfl⟩
  | (i, d) :: D, l, h => by
    simp only [List.map_cons, List.nodup_cons] at h
    obtain ⟨X, hX⟩ := setAll_init D l h.2
    refine ⟨updX X i (l.getD d undef), ?_⟩
    simp only [setAll]
    rw [show updX X i (l.getD d undef) i = l.getD d undef by simp [updX]]
    rw [show l.set d (l.getD d undef) = l by
      rcases Nat.lt_or_ge d l.length with hd | hd
      · rw [List.getD_eq_getElem?_getD, List.getElem?_eq_getElem hd]; simp
      · exact List.set_eq_of_length_le hd]
    rw [setAll_congr D l (Y := X) (fun p hp => by
        unfold updX
        rw [if_neg (fun e => h.1 (List.mem_map.2 ⟨p, hp, e⟩))])]
    exact hX

def unlisted : List Bool → Nat
  | [] => 0
  | b :: l => (if b then 0 else 1) + unlisted l
theorem unlisted_set : ∀ (l : List Bool) (i : Nat), l[i]? = some false → unlisted (l.set i true) + 1 = unlisted l
  | [], i, h => by simp at h
  | b :: l, 0, h => by simp at h; subst h; simp [unlisted]; omega
  | b :: l, i + 1, h => by
    simp at h
    have := unlisted_set l i (by simpa using h)
    simp only [List.set_cons_succ, unlisted]; omega

/-- does an operation wait for number j? -/
def waits (o : Oper) (j : Nat) : Bool := o.after.any fun e => Region.binds .any e && e.on == j
def chkOps (ops : Array Oper) (z : Nat) (D : List (Nat × Nat)) : Bool :=
  ops.size == z + 1 && decide (D.map (·.1)).Nodup && decide (D.map (·.2)).Nodup &&
  (List.range (z + 1)).all (fun i => ((ops[i]?).map fun o => o.guard.isNone && o.after.all (fun e => !Region.binds .any e || decide (e.on < i)) &&
    ((o.dst.map fun d => D.contains (i, d)).getD (i == z))).getD false) &&
  (List.range z).all (fun j => ((ops[z]?).map fun o => waits o j).getD false)

section
variable {P : Program} {ops : Array Oper} {Q : Exit → Act → World → Prop}
theorem some_ready (z : Nat) (listed : Array Bool) (hz : ops.size = z + 1) (hls : listed.size = z + 1)
    (hback : ∀ i o, ops[i]? = some o → ∀ e ∈ o.after, Region.binds .any e = true → e.on < i) :
    ∀ k, k ≤ z → listed.getD k true = false → Region.ready .any ops listed ≠ [] := by
  intro k
  induction k using Nat.strongRecOn with
  | ind k ih =>
    intro hk hu
    obtain ⟨o, ho⟩ : ∃ o, ops[k]? = some o := ⟨_, Array.getElem?_eq_getElem (by omega)⟩
    by_cases hall : ∀ e ∈ o.after, Region.binds .any e = true → listed.getD e.on false = true
    · have : k ∈ Region.ready .any ops listed := mem_ready.2 ⟨hu, o, ho, hall⟩
      intro h0
      rw [h0] at this
      cases this
    · simp only [Classical.not_forall] at hall
      obtain ⟨e, he, hb, hl⟩ := hall
      have hlt := hback k o ho e he hb
      refine ih e.on hlt (by omega) ?_
      have hs : e.on < listed.size := by omega
      simp only [Array.getD_eq_getD_getElem?, Array.getElem?_eq_getElem hs, Option.getD_some] at hl ⊢
      simpa using hl

theorem region_calls {id : Nat} {l : List Value} {ds : List Deferred} {w : World} (z : Nat) (D : List (Nat × Nat)) (hm : P.follows .mixedOrders = true) (hc : chkOps ops z D = true)
    (F : Nat → Value → World → Prop) (hF : ∀ j u w1 w2, F j u w1 → Below w1.heap.size w1 w2 → F j u w2)
    (step : ∀ i, i < z → ∀ (X : Nat → Value) (w1 : World) (o : Oper), ops[i]? = some o → Below w.heap.size w w1 → (∀ j, waits o j = true → F j (X j) w1) →
      ∀ K : Act → World → Prop, Shut (∀ v w2, Below w1.heap.size w1 w2 → F i v w2 → K (Act.put ⟨(setAll X D l).toArray, ds⟩ o.dst v) w2) → Oper.wp P o ⟨(setAll X D l).toArray, ds⟩ w1 K Q)
    (fin : ∀ (X : Nat → Value) (w1 : World) (o : Oper), ops[z]? = some o → Below w.heap.size w w1 → (∀ j, j < z → F j (X j) w1) →
      Oper.wp P o ⟨(setAll X D l).toArray, ds⟩ w1 (fun a' w2 => Q .normal a' w2) Q) :
    (Code.region id ops true).wp P Q ⟨l.toArray, ds⟩ w := by
  simp only [chkOps, Bool.and_eq_true, beq_iff_eq, decide_eq_true_eq, List.all_eq_true, List.mem_range] at hc
  obtain ⟨⟨⟨⟨hz, hn1⟩, hn2⟩, hops⟩, hlast⟩ := hc
  have hop : ∀ i o, ops[i]? = some o → o.guard = none ∧ (∀ e ∈ o.after, Region.binds .any e = true → e.on < i) ∧ (i < z → ∃ d, o.dst = some d ∧ (i, d) ∈ D) := by
    intro i o ho
    have hi : i < z + 1 := by
      have := (Array.getElem?_eq_some_iff.1 ho).1
      omega
    have := hops i hi
    rw [ho] at this
    simp only [Option.map_some, Option.getD_some, Bool.and_eq_true] at this
    obtain ⟨⟨hg, ha⟩, hd⟩ := this
    refine ⟨by simpa using hg, fun e he hb => ?_, fun hiz => ?_⟩
    · rw [Array.all_eq_true_iff_forall_mem] at ha
      have := ha e he
      rw [hb] at this
      simpa using this
    · cases hdd : o.dst with
      | none => rw [hdd] at hd; simp at hd; omega
      | some d => rw [hdd] at hd; simp at hd; exact ⟨d, rfl, hd⟩
  have hwait : ∀ o, ops[z]? = some o → ∀ j, j < z → ∃ e ∈ o.after, Region.binds .any e = true ∧ e.on = j := by
    intro o ho j hj
    have := hlast j hj
    rw [ho] at this
    simp only [Option.map_some, Option.getD_some, waits, Array.any_eq_true', Bool.and_eq_true, beq_iff_eq] at this
    exact this
  have main : ∀ (fuel : Nat) (listed : Array Bool) (X : Nat → Value) (w1 : World), listed.size = z + 1 → listed.getD z true = false → unlisted listed.toList ≤ fuel →
      Below w.heap.size w w1 → (∀ j, listed.getD j false = true → F j (X j) w1) → wpAny P .any ops Q fuel listed ⟨(setAll X D l).toArray, ds⟩ w1 := by
    intro fuel
    induction fuel with
    | zero =>
      intro listed X w1 hls hzu hf
      exfalso
      have : listed.toList[z]? = some false := by
        rw [Array.getElem?_toList, Array.getElem?_eq_getElem (by omega)]
        simp only [Array.getD_eq_getD_getElem?, Array.getElem?_eq_getElem (show z < listed.size by omega), Option.getD_some] at hzu
        rw [hzu]
      have := unlisted_set _ _ this
      omega
    | succ fuel ih =>
      intro listed X w1 hls hzu hf hb hfacts
      refine ⟨fun h0 => absurd h0 (some_ready z listed hz hls (fun i o ho => (hop i o ho).2.1) z (Nat.le_refl _) hzu), fun i hi => ?_⟩
      obtain ⟨hiu, o, ho, hall⟩ := mem_ready.1 hi
      obtain ⟨hg, _, hdst⟩ := hop i o ho
      have hil : i < z + 1 := by
        have := (Array.getElem?_eq_some_iff.1 ho).1
        omega
      have hlu : listed.toList[i]? = some false := by
        rw [Array.getElem?_toList, Array.getElem?_eq_getElem (by omega)]
        simp only [Array.getD_eq_getD_getElem?, Array.getElem?_eq_getElem (show i < listed.size by omega), Option.getD_some] at hiu
        rw [hiu]
      have hcount := unlisted_set _ _ hlu
      refine wpOp_step ho fun K hK => ?_
      rw [if_pos (by simp [Region.wanted, hg])]
      rcases Nat.lt_or_ge i z with hiz | hiz
      · obtain ⟨d, hd, hmem⟩ := hdst hiz
        refine step i hiz X w1 o ho hb (fun j hj => ?_) K (fun v w2 hb2 hF2 => ?_)
        · simp only [waits, Array.any_eq_true', Bool.and_eq_true, beq_iff_eq] at hj
          obtain ⟨e, he, hbd, rfl⟩ := hj
          exact hfacts _ (hall e he hbd)
        · refine hK _ _ ?_
          rw [hd]
          have : Act.put ⟨(setAll X D l).toArray, ds⟩ (some d) v = ⟨(setAll (updX X i v) D l).toArray, ds⟩ := by
            simp only [Act.put]
            rw [← setAll_upd X i d v D l hn1 hn2 hmem]
            simp
          rw [this]
          refine ih _ _ w2 (by simp [hls]) ?_ ?_ (hb.trans (hb2.mono hb.size)) ?_
          · rw [getD_set_ne _ (by omega)]; exact hzu
          · rw [Array.toList_setIfInBounds]; omega
          · intro j hj
            by_cases hji : j = i
            · subst hji
              simpa [updX] using hF2
            · rw [getD_set_ne _ (fun e => hji e.symm)] at hj
              have : updX X i v j = X j := by simp [updX, hji]
              rw [this]
              exact hF _ _ _ _ (hfacts j hj) hb2
      · obtain rfl : i = z := by omega
        refine Oper.wp_mono (fun a w hq => hK a w ?_) (fin X w1 o ho hb ?_)
        · refine wpAny_done ?_ hq _
          refine List.eq_nil_iff_forall_not_mem.2 fun j hj => ?_
          obtain ⟨hju, oj, hoj, _⟩ := mem_ready.1 hj
          have hjl : j < i + 1 := by
            have := (Array.getElem?_eq_some_iff.1 hoj).1
            omega
          by_cases hji : j = i
          · subst hji
            simp [hls] at hju
          · obtain ⟨e, he, hbd, rfl⟩ := hwait o ho j (by omega)
            rw [getD_set_ne _ (fun e => hji e.symm)] at hju
            have h1 := hall e he hbd
            have hs : e.on < listed.size := by omega
            simp only [Array.getD_eq_getD_getElem?, Array.getElem?_eq_getElem hs, Option.getD_some] at h1 hju
            rw [h1] at hju
            cases hju
        · intro j hj
          obtain ⟨e, he, hbd, rfl⟩ := hwait o ho j hj
          exact hfacts _ (hall e he hbd)
  refine wp_region_any hm ?_
  obtain ⟨X, hX⟩ := setAll_init D l hn1
  have h0 := main ops.size (Array.replicate ops.size false) X w.drew (by simp [hz]) (by simp [hz]) (by
    rw [Array.toList_replicate]
    have : ∀ n, unlisted (List.replicate n false) = n := by
      intro n
      induction n with
      | zero => rfl
      | succ n ih => simp [List.replicate_succ, unlisted, ih]; omega
    rw [this]; omega) ((Below.refl _ _).drew) (fun j hj => by
    simp [Array.getD_eq_getD_getElem?, Array.getElem?_replicate] at hj
    split at hj <;> simp at hj)
  rw [hX] at h0
  exact h0
end
end Go.Proofs.Ytcdgaeenfhpnkaa
