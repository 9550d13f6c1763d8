/- Sums of two bytes as plain mathematics: linearity, injectivity, bursts of two bytes. No program in sight. -/
import Derived.Test.YtcdgaeenfhpnkaaPk01
set_option linter.unusedVariables false
set_option linter.unusedSimpArgs false
namespace Go.Proofs.Ytcdgaeenfhpnkaa.CrcMath

/-- one step of a sum: moved right by one bit; 40961 if a 1 fell off -/
def bit (s : Nat) : Nat := if s % 2 = 1 then (s / 2) ^^^ 40961 else s / 2
def bit4 (s : Nat) : Nat := bit (bit (bit (bit s)))
def bit8 (s : Nat) : Nat := bit4 (bit4 s)
def stepc (s c : Nat) : Nat := bit8 (s ^^^ c)
def crc (s : Nat) (l : List Nat) : Nat := l.foldl stepc s
def sum (l : List Nat) : Nat := crc 65535 l

theorem bit_lt (s : Nat) (h : s < 65536) : bit s < 65536 := by
  unfold bit
  split
  · exact Nat.xor_lt_two_pow (n := 16) (by omega) (by omega)
  · omega
theorem bit4_lt (s : Nat) (h : s < 65536) : bit4 s < 65536 := bit_lt _ (bit_lt _ (bit_lt _ (bit_lt _ h)))
theorem bit8_lt (s : Nat) (h : s < 65536) : bit8 s < 65536 := bit4_lt _ (bit4_lt _ h)
theorem xor_lt (a b : Nat) (ha : a < 65536) (hb : b < 65536) : a ^^^ b < 65536 := Nat.xor_lt_two_pow (n := 16) (by omega) (by omega)
theorem stepc_lt (s c : Nat) (h : s < 65536) (hc : c < 256) : stepc s c < 65536 := bit8_lt _ (xor_lt _ _ h (by omega))
theorem crc_lt (l : List Nat) : ∀ s, s < 65536 → (∀ c ∈ l, c < 256) → crc s l < 65536 := by
  induction l with
  | nil => intro s h _; exact h
  | cons c l ih => intro s h hc; exact ih _ (stepc_lt s c h (hc c (by simp))) (fun x hx => hc x (by simp [hx]))
theorem sum_lt (l : List Nat) (h : ∀ c ∈ l, c < 256) : sum l < 65536 := crc_lt l _ (by decide) h

theorem crc_snoc (s : Nat) (a : List Nat) (c : Nat) : crc s (a ++ [c]) = stepc (crc s a) c := by simp [crc]

theorem bit_xor (a b : Nat) : bit (a ^^^ b) = bit a ^^^ bit b := by
  unfold bit
  have hm : (a ^^^ b) % 2 = (a % 2) ^^^ (b % 2) := by
    have := @Nat.xor_mod_two_pow a b 1
    simpa using this
  have hd : (a ^^^ b) / 2 = a / 2 ^^^ b / 2 := by
    have := @Nat.xor_div_two_pow a b 1
    simpa using this
  rw [hm, hd]
  rcases Nat.mod_two_eq_zero_or_one a with ha | ha <;> rcases Nat.mod_two_eq_zero_or_one b with hb | hb <;> simp [ha, hb]
  · rw [Nat.xor_assoc]
  · rw [Nat.xor_assoc, Nat.xor_comm (b / 2) 40961, ← Nat.xor_assoc]
  · rw [Nat.xor_assoc, Nat.xor_comm 40961 (b / 2 ^^^ 40961), Nat.xor_assoc, Nat.xor_self, Nat.xor_zero]
theorem bit4_xor (a b : Nat) : bit4 (a ^^^ b) = bit4 a ^^^ bit4 b := by simp only [bit4, bit_xor]
theorem bit_even (k : Nat) : bit (2 * k) = k := by unfold bit; rw [if_neg (by omega)]; omega
def seal_ (l : List Nat) : List Nat := l ++ [sum l % 256, sum l / 256]
def opens (l : List Nat) : Bool := decide (2 ≤ l.length) && decide (l.drop (l.length - 2) = [sum (l.take (l.length - 2)) % 256, sum (l.take (l.length - 2)) / 256])

theorem seal_opens (l : List Nat) (h : ∀ c ∈ l, c < 256) : opens (seal_ l) = true := by
  simp [opens, seal_]

theorem mem_seal (l : List Nat) (h : ∀ c ∈ l, c < 256) : ∀ c ∈ seal_ l, c < 256 := by
  intro c hc
  have := sum_lt l h
  simp only [seal_, List.mem_append, List.mem_cons, List.not_mem_nil, or_false] at hc
  rcases hc with hc | hc | hc
  · exact h c hc
  · omega
  · omega

theorem add_xor (i h l : Nat) (hl : l < 2 ^ i) : 2 ^ i * h + l = (2 ^ i * h) ^^^ l := by
  rw [Nat.two_pow_add_eq_or_of_lt hl]
  apply Nat.eq_of_testBit_eq
  intro j
  simp only [Nat.testBit_or, Nat.testBit_xor]
  by_cases hj : j < i
  · have : Nat.testBit (2 ^ i * h) j = false := by
      rw [Nat.testBit_two_pow_mul]
      simp; omega
    simp [this]
  · have : Nat.testBit l j = false := by
      apply Nat.testBit_lt_two_pow
      have : 2 ^ i ≤ 2 ^ j := Nat.pow_le_pow_right (by omega) (by omega)
      omega
    simp [this]
theorem bit4_shift (h : Nat) : bit4 (16 * h) = h := by
  have e4 : 16 * h = 2 * (8 * h) := by omega
  have e5 : 8 * h = 2 * (4 * h) := by omega
  have e6 : 4 * h = 2 * (2 * h) := by omega
  unfold bit4
  rw [e4, bit_even, e5, bit_even, e6, bit_even, bit_even]
/-- a half of a byte at once, by the table -/
theorem nib (s : Nat) : s / 16 ^^^ bit4 (s % 16) = bit4 s := by
  have h := add_xor 4 (s / 16) (s % 16) (by omega)
  have e : 2 ^ 4 * (s / 16) + s % 16 = s := by omega
  rw [e] at h
  conv => rhs; rw [h, bit4_xor]
  rw [show (2 : Nat) ^ 4 * (s / 16) = 16 * (s / 16) from rfl, bit4_shift]
end Go.Proofs.Ytcdgaeenfhpnkaa.CrcMath
/- What the functions of package crc, and of its reference, compute: contracts, walked once each. -/
set_option linter.unusedVariables false
set_option linter.unusedSimpArgs false
set_option maxRecDepth 100000
namespace Go.Proofs.Ytcdgaeenfhpnkaa
open Go Go.RowKit CrcMath

theorem info_u8 : (Try.prog.info? 5).map (fun i => (i.zero, i.size, i.bytes)) = some (some (.int .u8 0), 1, 1) := by kernel_rfl

def tabN (j : Nat) : Array Value := ((List.range 16).map fun i => Value.int .u16 (if i < j then (bit4 i : Nat) else 0)).toArray
def iter (m : Nat) (s : Nat) : Nat := match m with | 0 => s | m + 1 => bit (iter m s)
theorem iter_lt (m s : Nat) (h : s < 65536) : iter m s < 65536 := by
  induction m with
  | zero => exact h
  | succ m ih => exact bit_lt _ ih
theorem and_one (x : Nat) (h : x < 65536) : bits .and .u16 (x : Int) 1 = ((x % 2 : Nat) : Int) := by
  have := u16_and_nat x 1 h (by omega)
  rw [Nat.and_one_is_mod] at this
  exact this
theorem bit_odd (x : Nat) (h : x < 65536) (ho : x % 2 = 1) : bits .xor .u16 ((x : Int) / 2) 40961 = ((bit x : Nat) : Int) := by
  have := u16_xor_nat (x / 2) 40961 (by omega) (by omega)
  rw [show ((x / 2 : Nat) : Int) = (x : Int) / 2 by omega] at this
  rw [show ((40961 : Nat) : Int) = 40961 from rfl] at this
  rw [this]; unfold bit; rw [if_pos ho]
theorem bit_evn (x : Nat) (ho : ¬ x % 2 = 1) : ((bit x : Nat) : Int) = (x : Int) / 2 := by
  unfold bit; rw [if_neg ho]; omega
theorem tab_step (j : Nat) (h : j < 16) : (tabN j).setIfInBounds j (.int .u16 (iter 4 j : Nat)) = tabN (j + 1) := by
  unfold tabN
  apply Array.ext'
  simp only [Array.toList_setIfInBounds]
  apply List.ext_getElem?
  intro i
  rw [List.getElem?_set]
  simp only [List.length_map, List.length_range, List.getElem?_map]
  by_cases hi : i < 16
  · rw [List.getElem?_range hi]
    by_cases e : j = i
    · subst e; simp [hi]; rfl
    · have : (i < j + 1) ↔ (i < j) := by omega
      simp [e, this]
  · rw [List.getElem?_eq_none (by simp; omega)]
    simp; omega
theorem tab_get (j : Nat) (h : j < 16) : (tabN j)[j]? = some (.int .u16 0) := by
  unfold tabN
  simp [h]
theorem tab_cell (i : Nat) (h : i < 16) : (tabN 16)[i]? = some (.int .u16 (bit4 i : Nat)) := by
  unfold tabN
  simp [h]
theorem half (y : Nat) (h : y < 65536) : bits .and .u16 (y : Int) 15 = ((y % 16 : Nat) : Int) ∧ bits .xor .u16 ((y : Int) / 16) ((bit4 (y % 16) : Nat) : Int) = ((bit4 y : Nat) : Int) := by
  constructor
  · have := u16_and_nat y 15 h (by omega)
    rw [show (15 : Nat) = 2 ^ 4 - 1 from rfl, Nat.and_two_pow_sub_one_eq_mod] at this
    exact this
  · have := u16_xor_nat (y / 16) (bit4 (y % 16)) (by omega) (bit4_lt _ (by omega))
    rw [nib] at this
    exact this

/-- table: what each half of a byte comes to -/
theorem table_any (w : World) :
    Calls Try.prog 102 #[] w fun e w' => e = .returned (.agg (tabN 16)) ∧ Below w.heap.size w w' := by
  go_enter Try.func102, Try.ntmps102
  go_wp2_with fail
  go_loopg [5] 16 (fun k i wr => ∃ j : Nat, k + j = 16 ∧ i = .int .i64 j ∧ wr = (w.alloc (.cells (tabN 0) 154)).alloc (.cells (tabN j) 154))
  case atStart => exact ⟨0, by omega, rfl, rfl⟩
  case round =>
    obtain ⟨j, hj, rfl, rfl⟩ := hrel
    by_cases hlt : j < 16
    · go_wp2_with fail
      go_loop [3, 10] (fun v c => ∃ m : Nat, m ≤ 4 ∧ c = .int .i64 m ∧ v = .int .u16 (iter m j : Nat)) (fun _ c => 4 - (intOf c).toNat)
      case atStart => exact ⟨0, by omega, rfl, rfl⟩
      case round =>
        obtain ⟨m, hm, rfl, rfl⟩ := hrel
        have hil := iter_lt m j (by omega)
        by_cases hmlt : m < 4
        · by_cases hod : iter m j % 2 = 1
          · have h1 : (bits BinOp.and IntKind.u16 (↑(iter m j)) 1 == 1) = true := by rw [and_one _ hil, hod]; rfl
            go_wp2_with fail
            go_round
            case rel => exact ⟨m + 1, by omega, by go_num, by rw [bit_odd _ hil hod]; rfl⟩
            case measure => simp [intOf]; omega
          · have h1 : (bits BinOp.and IntKind.u16 (↑(iter m j)) 1 == 1) = false := by
              rw [and_one _ hil]; simp; omega
            go_wp2_with fail
            go_round
            case rel => exact ⟨m + 1, by omega, by go_num, by rw [← bit_evn _ hod]; rfl⟩
            case measure => simp [intOf]; omega
        · obtain rfl : m = 4 := by omega
          have hg := tab_get j hlt
          go_wp2_with fail
          go_roundg (15 - j)
          case measure => omega
          case rel => exact ⟨j + 1, by omega, by go_num, by rw [tab_step j hlt]⟩
    · obtain rfl : j = 16 := by omega
      have e1 : (w.alloc (.cells (tabN 0) 154)).heap.size = w.heap.size + 1 := by simp
      have hb := heap_alloc2_new w (.cells (tabN 0) 154) (.cells (tabN 16) 154)
      have ha := heap_alloc2_old w (.cells (tabN 0) 154) (.cells (tabN 16) 154)
      go_wp2_with (first
        | (with_reducible refine wpList_load_row rfl 154 (.tmp 1) rfl (w.heap.size + 1) rfl 154 (tabN 16) (0, 0) _ ?hg Try.underlying154 rfl ?hj ?_)
        | (with_reducible refine wpList_store_row rfl 154 (.tmp 0) (.tmp 25) rfl w.heap.size (tabN 16) rfl rfl 154 (tabN 0) ?ha ?hi ?h0 ?h1 ?_))
      case hg => exact hb
      case hj => kernel_rfl
      case ha => exact ha
      case hi => kernel_rfl
      case h0 => rfl
      case h1 => kernel_rfl
      refine bodyPost_ret (results_cell_row rfl _ _ w.heap.size 154 (tabN 16) (0, 0) _ rfl (setRow_heap _ _ _ _ _ _ ha) Try.underlying154 rfl (by kernel_rfl)) rfl ⟨rfl, ?_⟩
      exact below_setRow (((Below.refl _ _).alloc (Nat.le_refl _) _).alloc (by simp) _) (Nat.le_refl _) _

/-- the sum of any bytes -/
theorem sum_any (A : Option Addr) (n c B : Nat) (l : List Nat) (w : World) (hr : Rd w B 1 A n (l.map bv)) (hB : B ≤ w.heap.size) (hb : ∀ c ∈ l, c < 256) (hn : n ≤ 9223372036854775807) :
    Calls Try.prog 97 #[.slice A n c] w fun e w' => e = .returned (.int .u16 (sum l : Nat)) ∧ Below w.heap.size w w' := by
  have hl : l.length = n := by have := hr.1; simpa using this
  go_enter Try.func97, Try.ntmps97
  go_wp2_with (first
    | (go_at_call 102; refine (table_any _).mono ?_; rintro e w1 ⟨rfl, hb1⟩)
    | (with_reducible refine wpList_store_row rfl 154 (.tmp 3) (.tmp 7) rfl w1.heap.size (tabN 16) rfl rfl 154 _ (heap_alloc_new w1 _) ?hi ?h0 ?h1 ?_))
  case hi => kernel_rfl
  case h0 => rfl
  case h1 => kernel_rfl
  obtain ⟨W1, hW1⟩ : ∃ W, W = (w1.alloc (.cells (tabN 16) 154)) := ⟨_, rfl⟩
  have htab : ∀ i, i < 16 → W1.cell? ⟨w1.heap.size, i, none⟩ = some (.int .u16 (bit4 i : Nat)) := by
    intro i hi; rw [hW1, World.cell?_alloc_new]; exact tab_cell i hi
  have hbe : Below w.heap.size w W1 := by rw [hW1]; exact hb1.alloc hb1.size _
  rw [World.setRow_alloc_new, ← hW1]
  have hr1 := (hr.more hB).below hbe
  have ha1 := hr1.2
  clear hW1 hb1 hr1 hr
  go_wp2_with fail
  go_loopg [4, 10] n (fun k s i wr => ∃ j : Nat, k + j = n ∧ i = .int .i64 j ∧ s = .int .u16 (crc 65535 (l.take j) : Nat) ∧ wr = W1)
  case atStart => exact ⟨0, by omega, rfl, rfl, rfl⟩
  case round =>
    obtain ⟨j, hj, rfl, rfl, rfl⟩ := hrel
    by_cases hlt : j < n
    · obtain ⟨b, o, rfl, _, hc⟩ := ha1 (by omega)
      have hjl : j < l.length := by omega
      obtain ⟨x, hx⟩ : ∃ x, x = crc 65535 (l.take j) := ⟨_, rfl⟩
      obtain ⟨d, hd⟩ : ∃ d, d = l[j] := ⟨_, rfl⟩
      have hcell := hc j (bv d) (by rw [hd, List.getElem?_map, List.getElem?_eq_getElem hjl]; rfl)
      have hstep : crc 65535 (l.take (j + 1)) = bit4 (bit4 (x ^^^ d)) := by
        rw [List.take_succ_eq_append_getElem hjl, crc_snoc, ← hx, ← hd]; rfl
      have hxl : x < 65536 := by rw [hx]; exact crc_lt _ _ (by decide) (fun e he => hb e (List.mem_of_mem_take he))
      have hdl : d < 256 := by rw [hd]; exact hb _ (List.getElem_mem hjl)
      rw [← hx]
      unfold bv at hcell
      obtain ⟨y, hy⟩ : ∃ y, y = x ^^^ d := ⟨_, rfl⟩
      have hyl : y < 65536 := by rw [hy]; exact xor_lt _ _ hxl (by omega)
      have f1 : bits .xor .u16 (x : Int) (d : Int) = (y : Int) := by rw [hy]; exact u16_xor_nat x d hxl (by omega)
      obtain ⟨g1, g2⟩ := half y hyl
      have g3 := htab (y % 16) (by omega)
      obtain ⟨z, hz⟩ : ∃ z, z = bit4 y := ⟨_, rfl⟩
      have hzl : z < 65536 := by rw [hz]; exact bit4_lt _ hyl
      rw [← hz] at g2
      obtain ⟨g4, g5⟩ := half z hzl
      have g6 := htab (z % 16) (by omega)
      rw [← hy, ← hz] at hstep
      have H := Lib.hid hstep
      clear hstep hx hd hy hz hc ha1
      go_wp2_with fail
      go_roundg (n - (j + 1))
      case measure => omega
      case rel => exact ⟨j + 1, by omega, by go_num, by rw [H.out], rfl⟩
    · obtain rfl : j = n := by omega
      rw [List.take_of_length_le (by omega)]
      go_wp2_with fail
      go_ret
      exact ⟨rfl, hbe⟩
end Go.Proofs.Ytcdgaeenfhpnkaa
/- Seal and Open, of package crc: contracts. -/
set_option linter.unusedVariables false
set_option linter.unusedSimpArgs false
set_option maxRecDepth 100000
namespace Go.Proofs.Ytcdgaeenfhpnkaa
open Go Go.RowKit CrcMath

theorem lo_byte (s : Nat) : IntKind.u8.wrap (s : Int) = ((s % 256 : Nat) : Int) := by simp [IntKind.wrap, IntKind.bits, IntKind.signed]
theorem hi_byte (s : Nat) (h : s < 65536) : IntKind.u8.wrap ((s : Int) / 256) = ((s / 256 : Nat) : Int) := by simp [IntKind.wrap, IntKind.bits, IntKind.signed]; omega

set_option maxHeartbeats 1000000 in
theorem seal_any (A : Option Addr) (n c B : Nat) (l : List Nat) (w : World) (hr : Rd w B 1 A n (l.map bv)) (hB : B ≤ w.heap.size) (hb : ∀ c ∈ l, c < 256) (hn : n ≤ 1000000000) :
    Calls Try.prog 86 #[.slice A n c] w fun e w' => ∃ A' c', e = .returned (.slice A' (n + 2) c') ∧ w'.ownsRow w.heap.size 5 1 (.slice A' (n + 2) c') (n + 2) ((seal_ l).map bv) ∧ Below w.heap.size w w' := by
  have hl : l.length = n := by have := hr.1; simpa using this
  obtain ⟨i0, hi, hz0, hz1, hz2⟩ := info_parts info_u8
  have hs := sum_lt l hb
  go_enter Try.func86, Try.ntmps86
  go_wp2_with (first
    | (with_reducible refine wpList_mk _ rfl (.tmp 6) (.tmp 9) 27 rfl w.heap.size 5 i0 (.int .u8 0) Try.underlying27 hi hz0 hz1 rfl .i64 .i64 _ _ n (n + 2) rfl rfl rfl ?e1 ?e2 ?e3 ?e4 (Nat.le_refl _) ?_)
    | fail)
  case e1 => omega
  case e2 => omega
  case e3 => rw [hz2]; omega
  case e4 => unfold maxLen; omega
  intro w1 hown1 hg1
  have hb1 : Below w.heap.size w w1 := (Below.refl _ _).grown hg1 (Nat.le_refl _) (by simp)
  have hr1 := (hr.more hB).below hb1
  have hsz1 := hb1.size
  go_wp2_with (first
    | (with_reducible refine wpList_cpy _ rfl (.tmp 11) (.tmp 12) 27 27 rfl 5 Try.underlying27 ?f1 w.heap.size w.heap.size n (n + 2) _ rfl hown1 w.heap.size A n c (l.map bv) rfl hr1 (bv_one l) ?_)
    | fail)
  case f1 => rw [hi]; simp [hz1]
  intro w2 hown2 hg2
  have hb2 : Below w.heap.size w w2 := hb1.grown hg2 hb1.size (fun k hk => by injection hk; omega)
  have hr2 := (hr.more hB).below hb2
  have hsz2 := hb2.size
  go_wp2_with (first
    | (go_at_call 97; refine (sum_any A n c _ l _ hr2 hsz2 hb (by omega)).mono ?_; rintro e w3 ⟨rfl, hb3⟩
       have hown3 := own_below hown2 hb3
       have hsz3 := hb3.size)
    | (at_builtin
       refine wpList_app _ rfl (.tmp 16) (.tmp 22) 27 rfl w.heap.size 5 i0 (.int .u8 0) 1 1 Try.underlying27 hi hz0 hz1 hz2 rfl (by omega) _ n _ rfl (hown3.alloc _) (w3.heap.size + 1) _ 2 2 [.int .u8 (↑(sum l) % 256), .int .u8 (↑(sum l) / 256)] rfl (rd_new w3 _ _ 2 2 rfl) ?g1 ?g2 ?g3 ?g4 ?_))
  case g1 => intro u hu; simp at hu; rcases hu with rfl | rfl <;> rfl
  case g2 => unfold maxLen; omega
  case g3 => omega
  case g4 => simp; omega
  intro v4 w4 hown4 hg4 hat4
  go_wp2_with fail
  obtain ⟨A', c', rfl⟩ := own_shape hown4
  go_ret
  refine ⟨A', c', rfl, ?_, ?_⟩
  · have e : List.take n (l.map bv) ++ List.drop n (List.replicate n (Value.int IntKind.u8 0)) ++ [.int .u8 (↑(sum l) % 256), .int .u8 (↑(sum l) / 256)] = (seal_ l).map bv := by
      rw [List.take_of_length_le (by simp; omega)]
      simp [seal_, bv]
    rw [← e]; simpa using hown4
  · refine (((hb2.trans (hb3.mono hsz2)).alloc (by omega) _)).grown hg4 (by simp; omega) ?_
    intro k hk
    simp [Value.ownBlock] at hk; omega
end Go.Proofs.Ytcdgaeenfhpnkaa
/- Open, of package crc: contract. -/
set_option linter.unusedVariables false
set_option linter.unusedSimpArgs false
set_option maxRecDepth 100000
namespace Go.Proofs.Ytcdgaeenfhpnkaa
open Go Go.RowKit CrcMath

set_option maxHeartbeats 1000000 in
theorem open_short (A : Option Addr) (n c : Nat) (w : World) (hn : n < 2) :
    Calls Try.prog 101 #[.slice A n c] w fun e w' => e = .returned (.tuple #[.slice none 0 0, .bool false]) ∧ w' = w := by
  have h0 : (n : Int) < 2 := by omega
  go_enter Try.func101, Try.ntmps101
  go_wp2_with fail
  go_ret2
  exact ⟨rfl, rfl⟩

/-- what Open hands back: what was sealed, in new memory, and whether anything was -/
def OpenPost (w : World) (l : List Nat) (e : Ending) (w' : World) : Prop :=
  ∃ A' n' c', e = .returned (.tuple #[.slice A' n' c', .bool (opens l)]) ∧
    w'.ownsRow w.heap.size 5 1 (.slice A' n' c') n' ((if opens l then l.take (l.length - 2) else []).map bv) ∧ Below w.heap.size w w'

theorem opens_two (l : List Nat) (m b0 b1 : Nat) (hl : l.length = m + 2) (h0 : l[m]? = some b0) (h1 : l[m + 1]? = some b1) :
    (opens l = true ↔ b0 = sum (l.take m) % 256 ∧ b1 = sum (l.take m) / 256) := by
  have hd : l.drop m = [b0, b1] := by
    apply List.ext_getElem?
    intro j
    rw [List.getElem?_drop]
    match j with
    | 0 => simpa using h0
    | 1 => simpa using h1
    | j + 2 => rw [List.getElem?_eq_none (by omega)]; simp
  unfold opens
  rw [hl, show m + 2 - 2 = m by omega, hd]
  simp

set_option maxHeartbeats 1000000 in
theorem open_long (A : Option Addr) (m c B : Nat) (l : List Nat) (w : World) (hr : Rd w B 1 A (m + 2) (l.map bv)) (hB : B ≤ w.heap.size) (hb : ∀ c ∈ l, c < 256) (hn : m ≤ 1000000000) (hc : m + 2 ≤ c) :
    Calls Try.prog 101 #[.slice A (m + 2) c] w (OpenPost w l) := by
  have hl : l.length = m + 2 := by have := hr.1; simpa using this
  obtain ⟨b, o, rfl, hbB, hcell⟩ := hr.2 (by omega)
  obtain ⟨i0, hi, hz0, hz1, hz2⟩ := info_parts info_u8
  have hr0 := hr.take_ (k := m) (by omega)
  rw [Nat.mul_one, ← List.map_take] at hr0
  have hlt : ∀ c ∈ l.take m, c < 256 := fun c hc => hb c (List.mem_of_mem_take hc)
  have hs := sum_lt (l.take m) hlt
  go_enter Try.func101, Try.ntmps101
  obtain ⟨b0, hb0⟩ : ∃ b0, l[m]? = some b0 := ⟨_, List.getElem?_eq_getElem (by omega)⟩
  obtain ⟨b1, hb1⟩ : ∃ b1, l[m + 1]? = some b1 := ⟨_, List.getElem?_eq_getElem (by omega)⟩
  have hop := opens_two l m b0 b1 hl hb0 hb1
  have hc0 := hcell m (bv b0) (by rw [List.getElem?_map, hb0]; rfl)
  have hc1 := hcell (m + 1) (bv b1) (by rw [List.getElem?_map, hb1]; rfl)
  unfold bv at hc0 hc1
  obtain ⟨s, hse⟩ : ∃ s, s = sum (l.take m) := ⟨_, rfl⟩
  rw [← hse] at hop hs
  have Hop := Lib.hid hop
  clear hop hcell hb0 hb1
  by_cases e0 : b0 = s % 256
  · have t0 : ((b0 : Int) != (s : Int) % 256) = false := by rw [bne_eq_false_iff_eq]; omega
    by_cases e1 : b1 = s / 256
    · have t1 : ((b1 : Int) != (s : Int) / 256) = false := by rw [bne_eq_false_iff_eq]; omega
      have ho : opens l = true := Hop.out.2 ⟨e0, e1⟩
      have Ho := Lib.hid ho
      clear e0 e1 ho
      go_wp2_with (first
        | (go_at_call 97; refine (sum_any _ m c _ (l.take m) _ hr0 hB hlt (by omega)).mono ?_; rintro e w1 ⟨rfl, hb1⟩
           rw [← hse]
           have hc0' := (hb1.cell (p := ⟨b, o + m, none⟩) (by simp; omega)).trans hc0
           have hc1' := (hb1.cell (p := ⟨b, o + (m + 1), none⟩) (by simp; omega)).trans hc1
           have hr1 := (hr.more hB).below hb1
           have hsz1 := hb1.size
           clear hc0 hc1 hr0 hr hse)
        | (with_reducible refine wpList_mk _ rfl (.tmp 34) (.tmp 34) 27 rfl w.heap.size 5 i0 (.int .u8 0) Try.underlying27 hi hz0 hz1 rfl .i64 .i64 _ _ m m rfl rfl rfl rfl ?e2 ?e3 ?e4 hsz1 ?_))
      case e2 => exact Nat.le_refl _
      case e3 => rw [hz2]; omega
      case e4 => unfold maxLen; omega
      intro w2 hown2 hg2
      have hb2 : Below w.heap.size w w2 := hb1.grown hg2 hsz1 (by simp)
      have hr2 := hr1.grown hg2 hsz1 (by simp)
      go_wp2_with (first
        | (with_reducible refine wpList_cpy _ rfl (.tmp 36) (.tmp 37) 27 27 rfl 5 Try.underlying27 ?f1 w.heap.size w1.heap.size m m _ rfl hown2 w.heap.size (some ⟨b, o, none⟩) (m + 2) c (l.map bv) rfl hr2 (bv_one l) ?_)
        | fail)
      case f1 => rw [hi]; simp [hz1]
      intro w3 hown3 hg3
      have hb3 : Below w.heap.size w w3 := hb2.grown hg3 hb2.size (fun k hk => by injection hk; omega)
      go_wp2_with fail
      go_ret2
      unfold OpenPost
      rw [Ho.out, if_pos rfl]
      refine ⟨some ⟨w1.heap.size, 0, none⟩, m, m, rfl, ?_, hb3⟩
      rw [hl]
      simpa using hown3
    · have t1 : ((b1 : Int) != (s : Int) / 256) = true := by rw [bne_iff_ne]; omega
      have ho : opens l = false := by
        rcases hh : opens l with _ | _
        · rfl
        · exact absurd (Hop.out.1 hh).2 e1
      have Ho := Lib.hid ho
      clear e0 e1 ho
      go_wp2_with (first
        | (go_at_call 97; refine (sum_any _ m c _ (l.take m) _ hr0 hB hlt (by omega)).mono ?_; rintro e w1 ⟨rfl, hb1⟩
           rw [← hse]
           have hc0' := (hb1.cell (p := ⟨b, o + m, none⟩) (by simp; omega)).trans hc0
           have hc1' := (hb1.cell (p := ⟨b, o + (m + 1), none⟩) (by simp; omega)).trans hc1
           have hr1 := (hr.more hB).below hb1
           have hsz1 := hb1.size
           clear hc0 hc1 hr0 hr hse)
        | fail)
      go_ret2
      unfold OpenPost
      rw [Ho.out]
      exact ⟨none, 0, 0, rfl, World.ownsRow_nil _ _ _ _, hb1⟩
  · have t0 : ((b0 : Int) != (s : Int) % 256) = true := by rw [bne_iff_ne]; omega
    have ho : opens l = false := by
      rcases hh : opens l with _ | _
      · rfl
      · exact absurd (Hop.out.1 hh).1 e0
    have Ho := Lib.hid ho
    clear e0 ho
    go_wp2_with (first
      | (go_at_call 97; refine (sum_any _ m c _ (l.take m) _ hr0 hB hlt (by omega)).mono ?_; rintro e w1 ⟨rfl, hb1⟩
         rw [← hse]
         have hc0' := (hb1.cell (p := ⟨b, o + m, none⟩) (by simp; omega)).trans hc0
         have hc1' := (hb1.cell (p := ⟨b, o + (m + 1), none⟩) (by simp; omega)).trans hc1
         have hr1 := (hr.more hB).below hb1
         have hsz1 := hb1.size
         clear hc0 hc1 hr0 hr hse)
      | fail)
    go_ret2
    unfold OpenPost
    rw [Ho.out]
    exact ⟨none, 0, 0, rfl, World.ownsRow_nil _ _ _ _, hb1⟩

/-- Open, of any bytes -/
theorem open_any (A : Option Addr) (n c B : Nat) (l : List Nat) (w : World) (hr : Rd w B 1 A n (l.map bv)) (hB : B ≤ w.heap.size) (hb : ∀ c ∈ l, c < 256) (hn : n ≤ 1000000000) (hc : n ≤ c) :
    Calls Try.prog 101 #[.slice A n c] w (OpenPost w l) := by
  have hl : l.length = n := by have := hr.1; simpa using this
  by_cases h2 : n < 2
  · refine (open_short A n c w h2).mono ?_
    rintro e w' ⟨rfl, rfl⟩
    have ho : opens l = false := by unfold opens; rw [decide_eq_false (by omega)]; rfl
    unfold OpenPost
    rw [ho]
    exact ⟨none, 0, 0, rfl, World.ownsRow_nil _ _ _ _, Below.refl _ _⟩
  · obtain ⟨m, rfl⟩ : ∃ m, n = m + 2 := ⟨n - 2, by omega⟩
    exact open_long A m c B l w hr hB hb (by omega) hc
end Go.Proofs.Ytcdgaeenfhpnkaa
