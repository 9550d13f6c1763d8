/- Sums of two bytes as plain mathematics: linearity, injectivity, bursts of two bytes. No program in sight. -/
set_option linter.unusedVariables false
set_option linter.unusedSimpArgs false
namespace Go.Proofs.Ytcdgaeenfhpnkaa.CrcMath

/-- one step of a sum: moved right by one bit; 40961 if a 1 fell off -/
def bit (s : Nat) : Nat := if s % 2 = 1 then (s / 2) ^^^ 40961 else s / 2
def bit4 (s : Nat) : Nat := bit (bit (bit (bit s)))
def bit8 (s : Nat) : Nat := bit4 (bit4 s)
def stepc (s c : Nat) : Nat := bit8 (s ^^^ c)
def crc (s : Nat) (l : List Nat) : Nat := l.foldl stepc s
def sum (l : List Nat) : Nat := crc 65535 l

theorem bit_lt (s : Nat) (h : s < 65536) : bit s < 65536 := by
  unfold bit
  split
  · exact Nat.xor_lt_two_pow (n := 16) (by omega) (by omega)
  · omega
theorem bit4_lt (s : Nat) (h : s < 65536) : bit4 s < 65536 := bit_lt _ (bit_lt _ (bit_lt _ (bit_lt _ h)))
theorem bit8_lt (s : Nat) (h : s < 65536) : bit8 s < 65536 := bit4_lt _ (bit4_lt _ h)
theorem xor_lt (a b : Nat) (ha : a < 65536) (hb : b < 65536) : a ^^^ b < 65536 := Nat.xor_lt_two_pow (n := 16) (by omega) (by omega)
theorem stepc_lt (s c : Nat) (h : s < 65536) (hc : c < 256) : stepc s c < 65536 := bit8_lt _ (xor_lt _ _ h (by omega))
theorem crc_lt (l : List Nat) : ∀ s, s < 65536 → (∀ c ∈ l, c < 256) → crc s l < 65536 := by
  induction l with
  | nil => intro s h _; exact h
  | cons c l ih => intro s h hc; exact ih _ (stepc_lt s c h (hc c (by simp))) (fun x hx => hc x (by simp [hx]))
theorem sum_lt (l : List Nat) (h : ∀ c ∈ l, c < 256) : sum l < 65536 := crc_lt l _ (by decide) h

theorem crc_append (s : Nat) (a b : List Nat) : crc s (a ++ b) = crc (crc s a) b := by simp [crc]
theorem crc_snoc (s : Nat) (a : List Nat) (c : Nat) : crc s (a ++ [c]) = stepc (crc s a) c := by simp [crc]

theorem bit_xor (a b : Nat) : bit (a ^^^ b) = bit a ^^^ bit b := by
  unfold bit
  have hm : (a ^^^ b) % 2 = (a % 2) ^^^ (b % 2) := by
    have := @Nat.xor_mod_two_pow a b 1
    simpa using this
  have hd : (a ^^^ b) / 2 = a / 2 ^^^ b / 2 := by
    have := @Nat.xor_div_two_pow a b 1
    simpa using this
  rw [hm, hd]
  rcases Nat.mod_two_eq_zero_or_one a with ha | ha <;> rcases Nat.mod_two_eq_zero_or_one b with hb | hb <;> simp [ha, hb]
  · rw [Nat.xor_assoc]
  · rw [Nat.xor_assoc, Nat.xor_comm (b / 2) 40961, ← Nat.xor_assoc]
  · rw [Nat.xor_assoc, Nat.xor_comm 40961 (b / 2 ^^^ 40961), Nat.xor_assoc, Nat.xor_self, Nat.xor_zero]
theorem bit4_xor (a b : Nat) : bit4 (a ^^^ b) = bit4 a ^^^ bit4 b := by simp only [bit4, bit_xor]
theorem bit8_xor (a b : Nat) : bit8 (a ^^^ b) = bit8 a ^^^ bit8 b := by simp only [bit8, bit4_xor]

theorem xor4 (a b c d : Nat) : (a ^^^ b) ^^^ (c ^^^ d) = (a ^^^ c) ^^^ (b ^^^ d) := by
  rw [Nat.xor_assoc, Nat.xor_assoc, ← Nat.xor_assoc b, ← Nat.xor_assoc c, Nat.xor_comm b c]
theorem stepc_xor (s t c d : Nat) : stepc (s ^^^ t) (c ^^^ d) = stepc s c ^^^ stepc t d := by
  unfold stepc; rw [xor4, bit8_xor]
theorem crc_xor : ∀ (l m : List Nat) (s t : Nat), l.length = m.length → crc (s ^^^ t) (List.zipWith (· ^^^ ·) l m) = crc s l ^^^ crc t m := by
  intro l
  induction l with
  | nil => intro m s t h; have : m = [] := List.eq_nil_of_length_eq_zero (by simpa using h.symm); subst this; simp [crc]
  | cons a l ih =>
    intro m s t h
    cases m with
    | nil => simp at h
    | cons b m =>
      have := ih m (stepc s a) (stepc t b) (by simpa using h)
      simp only [crc, List.zipWith_cons_cons, List.foldl_cons] at this ⊢
      rw [stepc_xor]; exact this

theorem bit_even (k : Nat) : bit (2 * k) = k := by unfold bit; rw [if_neg (by omega)]; omega
theorem bit8_shift (h : Nat) : bit8 (256 * h) = h := by
  have e1 : 256 * h = 2 * (128 * h) := by omega
  have e2 : 128 * h = 2 * (64 * h) := by omega
  have e3 : 64 * h = 2 * (32 * h) := by omega
  have e4 : 32 * h = 2 * (16 * h) := by omega
  have e5 : 16 * h = 2 * (8 * h) := by omega
  have e6 : 8 * h = 2 * (4 * h) := by omega
  have e7 : 4 * h = 2 * (2 * h) := by omega
  unfold bit8 bit4
  rw [e1, bit_even, e2, bit_even, e3, bit_even, e4, bit_even, e5, bit_even, e6, bit_even, e7, bit_even, bit_even]

theorem bit_zero (s : Nat) (h : s < 65536) (e : bit s = 0) : s = 0 := by
  unfold bit at e
  split at e
  · have h1 : s / 2 = 40961 := by
      have h2 : (s / 2 ^^^ 40961) ^^^ 40961 = 0 ^^^ 40961 := by rw [e]
      simpa [Nat.xor_assoc] using h2
    omega
  · omega
theorem bit4_zero (s : Nat) (h : s < 65536) (e : bit4 s = 0) : s = 0 :=
  bit_zero _ h (bit_zero _ (bit_lt _ h) (bit_zero _ (bit_lt _ (bit_lt _ h)) (bit_zero _ (bit_lt _ (bit_lt _ (bit_lt _ h))) e)))
theorem bit8_zero (s : Nat) (h : s < 65536) (e : bit8 s = 0) : s = 0 := bit4_zero _ h (bit4_zero _ (bit4_lt _ h) e)
theorem xor_zero_eq (a b : Nat) (h : a ^^^ b = 0) : a = b := by
  have h2 : (a ^^^ b) ^^^ b = 0 ^^^ b := by rw [h]
  simpa [Nat.xor_assoc] using h2
theorem bit8_inj (a b : Nat) (ha : a < 65536) (hb : b < 65536) (e : bit8 a = bit8 b) : a = b := by
  apply xor_zero_eq
  exact bit8_zero _ (xor_lt _ _ ha hb) (by rw [bit8_xor, e, Nat.xor_self])

theorem xor_low (s : Nat) (h : s < 65536) : s ^^^ (s % 256) = 256 * (s / 256) := by
  have h1 : s = 256 * (s / 256) + s % 256 := by omega
  have h2 : 256 * (s / 256) + s % 256 = 256 * (s / 256) ^^^ (s % 256) := by
    have := Nat.two_pow_add_eq_or_of_lt (i := 8) (b := s % 256) (by omega) (s / 256)
    rw [show (2 : Nat) ^ 8 = 256 from rfl] at this
    rw [this]
    apply Nat.eq_of_testBit_eq
    intro i
    simp only [Nat.testBit_or, Nat.testBit_xor]
    by_cases hi : i < 8
    · have : Nat.testBit (256 * (s / 256)) i = false := by
        rw [show (256 : Nat) = 2 ^ 8 from rfl, Nat.testBit_two_pow_mul]
        simp; omega
      simp [this]
    · have : Nat.testBit (s % 256) i = false := by
        apply Nat.testBit_lt_two_pow
        have : 2 ^ 8 ≤ 2 ^ i := Nat.pow_le_pow_right (by omega) (by omega)
        have h3 : s % 256 < 256 := by omega
        have h4 : (2 : Nat) ^ 8 = 256 := rfl
        omega
      simp [this]
  calc s ^^^ (s % 256) = (256 * (s / 256) + s % 256) ^^^ (s % 256) := by rw [← h1]
    _ = 256 * (s / 256) := by rw [h2, Nat.xor_assoc, Nat.xor_self, Nat.xor_zero]

/-- the sum of what is sealed is 0 -/
theorem crc_own (s : Nat) (h : s < 65536) : crc s [s % 256, s / 256] = 0 := by
  have h1 : stepc s (s % 256) = s / 256 := by unfold stepc; rw [xor_low s h, bit8_shift]
  show stepc (stepc s (s % 256)) (s / 256) = 0
  rw [h1]; unfold stepc; rw [Nat.xor_self]; decide
theorem crc_own_inv (s b0 b1 : Nat) (h : s < 65536) (h0 : b0 < 256) (h1 : b1 < 256) (e : crc s [b0, b1] = 0) : b0 = s % 256 ∧ b1 = s / 256 := by
  have e0 : crc 0 [s % 256 ^^^ b0, s / 256 ^^^ b1] = 0 := by
    have := crc_xor [s % 256, s / 256] [b0, b1] s s rfl
    rw [crc_own s h, e, Nat.xor_self] at this
    simpa using this
  have hx0 : s % 256 ^^^ b0 < 256 := Nat.xor_lt_two_pow (n := 8) (by omega) (by omega)
  have hx1 : s / 256 ^^^ b1 < 256 := Nat.xor_lt_two_pow (n := 8) (by omega) (by omega)
  have key : ∀ x0 x1 : Nat, x0 < 256 → x1 < 256 → crc 0 [x0, x1] = 0 → x0 = 0 ∧ x1 = 0 := by
    intro x0 x1 h0 h1 e0
    have e1 : bit8 (bit8 (0 ^^^ x0) ^^^ x1) = 0 := e0
    rw [Nat.zero_xor] at e1
    have e2 := bit8_zero _ (xor_lt _ _ (bit8_lt _ (by omega)) (by omega)) e1
    have e3 := xor_zero_eq _ _ e2
    have e4 := bit8_inj x0 (256 * x1) (by omega) (by omega) (by rw [e3, bit8_shift])
    omega
  obtain ⟨k0, k1⟩ := key _ _ hx0 hx1 e0
  exact ⟨(xor_zero_eq _ _ k0).symm, (xor_zero_eq _ _ k1).symm⟩

theorem crc_pair_zero (x0 x1 : Nat) (h0 : x0 < 256) (h1 : x1 < 256) (e0 : crc 0 [x0, x1] = 0) : x0 = 0 ∧ x1 = 0 := by
  have e1 : bit8 (bit8 (0 ^^^ x0) ^^^ x1) = 0 := e0
  rw [Nat.zero_xor] at e1
  have e2 := bit8_zero _ (xor_lt _ _ (bit8_lt _ (by omega)) (by omega)) e1
  have e3 := xor_zero_eq _ _ e2
  have e4 := bit8_inj x0 (256 * x1) (by omega) (by omega) (by rw [e3, bit8_shift])
  omega

theorem crc_zeros (n : Nat) : ∀ s, s < 65536 → crc s (List.replicate n 0) = 0 → s = 0 := by
  induction n with
  | zero => intro s _ e; exact e
  | succ n ih =>
    intro s h e
    rw [List.replicate_succ] at e
    have := ih (stepc s 0) (stepc_lt s 0 h (by omega)) e
    unfold stepc at this
    rw [Nat.xor_zero] at this
    exact bit8_zero _ h this
theorem crc_zeros_zero (n : Nat) : crc 0 (List.replicate n 0) = 0 := by
  induction n with
  | zero => rfl
  | succ n ih => rw [List.replicate_succ]; exact ih

def seal_ (l : List Nat) : List Nat := l ++ [sum l % 256, sum l / 256]
def opens (l : List Nat) : Bool := decide (2 ≤ l.length) && decide (l.drop (l.length - 2) = [sum (l.take (l.length - 2)) % 256, sum (l.take (l.length - 2)) / 256])

theorem sum_seal (l : List Nat) (h : ∀ c ∈ l, c < 256) : sum (seal_ l) = 0 := by
  unfold seal_ sum
  rw [crc_append]
  exact crc_own _ (sum_lt l h)

theorem opens_iff (l : List Nat) (h : ∀ c ∈ l, c < 256) (hl : 2 ≤ l.length) : opens l = true ↔ sum l = 0 := by
  obtain ⟨b0, b1, hd⟩ : ∃ b0 b1, l.drop (l.length - 2) = [b0, b1] := by
    have : (l.drop (l.length - 2)).length = 2 := by simp; omega
    match hm : l.drop (l.length - 2), this with
    | [a, b], _ => exact ⟨a, b, rfl⟩
  have hs : l = l.take (l.length - 2) ++ [b0, b1] := by rw [← hd, List.take_append_drop]
  have hb0 : b0 < 256 := h _ (by rw [hs]; simp)
  have hb1 : b1 < 256 := h _ (by rw [hs]; simp)
  have ht : sum (l.take (l.length - 2)) < 65536 := sum_lt _ (fun c hc => h c (List.mem_of_mem_take hc))
  have e : sum l = crc (sum (l.take (l.length - 2))) [b0, b1] := by
    conv => lhs; rw [hs]
    unfold sum; rw [crc_append]
  unfold opens
  rw [hd, e]
  generalize sum (l.take (l.length - 2)) = s at *
  simp only [hl, decide_true, Bool.true_and, decide_eq_true_eq]
  constructor
  · intro he
    simp only [List.cons.injEq, and_true] at he
    rw [he.1, he.2]; exact crc_own s ht
  · intro he
    obtain ⟨k0, k1⟩ := crc_own_inv s b0 b1 ht hb0 hb1 he
    rw [k0, k1]

theorem seal_opens (l : List Nat) (h : ∀ c ∈ l, c < 256) : opens (seal_ l) = true := by
  simp [opens, seal_]

theorem mem_seal (l : List Nat) (h : ∀ c ∈ l, c < 256) : ∀ c ∈ seal_ l, c < 256 := by
  intro c hc
  have := sum_lt l h
  simp only [seal_, List.mem_append, List.mem_cons, List.not_mem_nil, or_false] at hc
  rcases hc with hc | hc | hc
  · exact h c hc
  · omega
  · omega

theorem zip_right (e : List Nat) : ∀ l : List Nat, l.length = e.length → List.zipWith (· ^^^ ·) (List.zipWith (· ^^^ ·) l e) (List.replicate e.length 0) = List.zipWith (· ^^^ ·) l e := by
  induction e with
  | nil => intro l h; simp
  | cons a e ih =>
    intro l h
    cases l with
    | nil => simp at h
    | cons b l =>
      have := ih l (by simpa using h)
      simp only [List.zipWith_cons_cons, List.length_cons, List.replicate_succ, Nat.xor_zero, this]

/-- a burst of two bytes: sum of the changed is the sum xor the run of the change from 0 -/
theorem sum_burst (l : List Nat) (k x0 x1 : Nat) (hk : k + 1 < l.length) (h : ∀ c ∈ l, c < 256) (hx0 : x0 < 256) (hx1 : x1 < 256) (hs : sum l = 0) :
    sum (l.modify k (· ^^^ x0) |>.modify (k + 1) (· ^^^ x1)) = 0 ↔ x0 = 0 ∧ x1 = 0 := by
  let e := List.replicate k 0 ++ (x0 :: x1 :: List.replicate (l.length - (k + 2)) 0)
  have he : e.length = l.length := by simp [e]; omega
  have hz : (l.modify k (· ^^^ x0) |>.modify (k + 1) (· ^^^ x1)) = List.zipWith (· ^^^ ·) l e := by
    apply List.ext_getElem?
    intro i
    rw [List.getElem?_modify, List.getElem?_modify, List.getElem?_zipWith]
    by_cases hi : i < l.length
    · rw [List.getElem?_eq_getElem hi, List.getElem?_eq_getElem (by omega)]
      have hei : e[i]'(by omega) = if i = k then x0 else if i = k + 1 then x1 else 0 := by
        simp only [e]
        rw [List.getElem_append]
        split
        · rename_i hlt
          simp at hlt
          rw [if_neg (by omega), if_neg (by omega)]; simp
        · rename_i hge
          simp at hge
          rcases Nat.lt_or_ge i (k + 1) with h1 | h1
          · have : i = k := by omega
            subst this; simp
          · rcases Nat.lt_or_ge i (k + 2) with h2 | h2
            · have : i = k + 1 := by omega
              subst this; simp
            · rw [if_neg (by omega), if_neg (by omega)]
              have : i - k = (i - k - 2) + 2 := by omega
              simp [List.getElem_cons, show i ≠ k by omega, show i - k ≠ 0 by omega, show i - k - 1 ≠ 0 by omega]
      rw [hei]
      by_cases h1 : k = i
      · subst h1; simp [hi]
      · by_cases h2 : k + 1 = i
        · subst h2; simp
        · simp [h1, h2, Ne.symm h1, Ne.symm h2]
    · rw [List.getElem?_eq_none (by omega), List.getElem?_eq_none (by omega)]; simp
  rw [hz]
  have hx := crc_xor l e 65535 0 he.symm
  rw [Nat.xor_zero] at hx
  unfold sum at hs ⊢
  rw [hx, hs, Nat.zero_xor]
  simp only [e]
  rw [crc_append, crc_zeros_zero]
  have e3 : crc 0 (x0 :: x1 :: List.replicate (l.length - (k + 2)) 0) = crc (crc 0 [x0, x1]) (List.replicate (l.length - (k + 2)) 0) := rfl
  rw [e3]
  constructor
  · intro hh
    have := crc_zeros _ _ (crc_lt _ _ (by omega) (by intro c hc; simp at hc; omega)) hh
    exact crc_pair_zero x0 x1 hx0 hx1 this
  · rintro ⟨rfl, rfl⟩
    exact crc_zeros_zero (l.length - (k + 2) + 2)


theorem modify_zero (l : List Nat) (k : Nat) : l.modify k (· ^^^ 0) = l := by
  have : (fun c : Nat => c ^^^ 0) = id := by funext c; simp
  rw [this]
  exact List.modify_id k l
theorem burst_one (l : List Nat) (p x : Nat) (hp : p < l.length) (h2 : 2 ≤ l.length) (h : ∀ c ∈ l, c < 256) (hx : x < 256) (h0 : x ≠ 0) (hs : sum l = 0) : sum (l.modify p (· ^^^ x)) ≠ 0 := by
  intro he
  by_cases hp1 : p + 1 < l.length
  · have := (sum_burst l p x 0 hp1 h hx (by omega) hs).1 (by rw [modify_zero]; exact he)
    exact h0 this.1
  · obtain ⟨q, rfl⟩ : ∃ q, p = q + 1 := ⟨p - 1, by omega⟩
    have := (sum_burst l q 0 x hp h (by omega) hx hs).1 (by rw [modify_zero]; exact he)
    exact h0 this.2
theorem modify_same (l : List Nat) (p x y : Nat) : (l.modify p (· ^^^ x)).modify p (· ^^^ y) = l.modify p (· ^^^ (x ^^^ y)) := by
  apply List.ext_getElem?
  intro i
  rw [List.getElem?_modify, List.getElem?_modify, List.getElem?_modify]
  by_cases e : p = i
  · subst e
    simp [Function.comp_def, Nat.xor_assoc]
  · simp [e]

theorem add_xor (i h l : Nat) (hl : l < 2 ^ i) : 2 ^ i * h + l = (2 ^ i * h) ^^^ l := by
  rw [Nat.two_pow_add_eq_or_of_lt hl]
  apply Nat.eq_of_testBit_eq
  intro j
  simp only [Nat.testBit_or, Nat.testBit_xor]
  by_cases hj : j < i
  · have : Nat.testBit (2 ^ i * h) j = false := by
      rw [Nat.testBit_two_pow_mul]
      simp; omega
    simp [this]
  · have : Nat.testBit l j = false := by
      apply Nat.testBit_lt_two_pow
      have : 2 ^ i ≤ 2 ^ j := Nat.pow_le_pow_right (by omega) (by omega)
      omega
    simp [this]
theorem bit4_shift (h : Nat) : bit4 (16 * h) = h := by
  have e4 : 16 * h = 2 * (8 * h) := by omega
  have e5 : 8 * h = 2 * (4 * h) := by omega
  have e6 : 4 * h = 2 * (2 * h) := by omega
  unfold bit4
  rw [e4, bit_even, e5, bit_even, e6, bit_even, bit_even]
/-- a half of a byte at once, by the table -/
theorem nib (s : Nat) : s / 16 ^^^ bit4 (s % 16) = bit4 s := by
  have h := add_xor 4 (s / 16) (s % 16) (by omega)
  have e : 2 ^ 4 * (s / 16) + s % 16 = s := by omega
  rw [e] at h
  conv => rhs; rw [h, bit4_xor]
  rw [show (2 : Nat) ^ 4 * (s / 16) = 16 * (s / 16) from rfl, bit4_shift]
end Go.Proofs.Ytcdgaeenfhpnkaa.CrcMath
