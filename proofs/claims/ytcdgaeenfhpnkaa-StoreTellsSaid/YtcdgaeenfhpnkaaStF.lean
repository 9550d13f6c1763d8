/- Reference of the store: six bytes, a latch's. -/
import Derived.Test.YtcdgaeenfhpnkaaStE
set_option linter.unusedVariables false
set_option linter.unusedSimpArgs false
set_option maxRecDepth 100000
namespace Go.Proofs.Ytcdgaeenfhpnkaa
open Go Go.RowKit
attribute [local go_sem] Oper.semAt_some

theorem six_eq (t : Nat) (ht : t ≤ 2199023255552) : (#[Value.int .u8 ((t : Int) / 1099511627776), .int .u8 ((t : Int) / 4294967296 % 256), .int .u8 ((t : Int) / 16777216 % 256), .int .u8 ((t : Int) / 65536 % 256), .int .u8 ((t : Int) / 256 % 256), .int .u8 ((t : Int) % 256)] : Array Value) = ((six t).map bv).toArray := by
  simp only [six, bv, List.map_cons, List.map_nil]
  have e : (t : Int) / 1099511627776 = ((t / 1099511627776 % 256 : Nat) : Int) := by omega
  rw [e]
  rfl
set_option maxHeartbeats 1000000 in
theorem six22_any (base : Nat) (v : Value) (xs : List Nat) (t : Nat) (w : World) (ho : w.ownsRow base 5 1 v xs.length (xs.map bv)) (hb : base ≤ w.heap.size) (ht : t ≤ 2199023255552) (hx : xs.length ≤ 100000) :
    Calls Try.prog 45 #[v, .int .i64 t] w (RowPost base v w (xs ++ six t)) := by
  obtain ⟨A, c, rfl⟩ := own_shape ho
  have ht0 : (0 : Int) ≤ (t : Int) := by omega
  have ht1 : (t : Int) ≤ 2199023255552 := by omega
  have Ho := Lib.hid ho
  have He := Lib.hid (six_eq t ht)
  clear ho
  go_enter Try.func45, Try.ntmps45
  go_wp2_with (first
    | (with_reducible refine wpList_bytes (w0 := w) rfl (.tmp 5) (.tmp 23) rfl base (.slice A xs.length c) xs.length xs Ho.out rfl _ (six t) 6 rfl He.out rfl rfl (by omega) hb ?_
       intro v1 w1 hown1 hf1
       have hl1 : xs.length + 6 = (xs ++ six t).length := by rw [List.length_append]; rfl
       rw [hl1] at hown1
       have Hown1 := Lib.hid hown1
       have Hf1 := Lib.hid hf1
       clear hown1 hf1 hl1))
  go_ret
  exact ⟨_, rfl, Hown1.out, Hf1.out⟩
theorem wpList_bytesG {w w0 : World} {ops : Array Oper} {rest : List Oper} {o : Oper} {a : Act} {Q : Exit → Act → World → Prop} (hgd : o.guard = none) (s x : Operand)
    (ho : o.op = .call { callee := .builtin .append, args := #[s, x], argTypes := #[27, 27] }) (g : Nat) (hg : w0.heap.size = g)
    (base : Nat) (v : Value) (k : Nat) (xs : List Nat) (hown : w0.ownsRow base 5 1 v k (xs.map bv)) (hs : a.eval s = v) (cs : Array Value) (bs : List Nat) (n : Nat) (hw : w = w0.alloc (.cells cs 5)) (hcs : cs = (bs.map bv).toArray) (hn : bs.length = n)
    (hx : a.eval x = .slice (some ⟨g, 0, none⟩) n n) (hl : k + n ≤ 1000000) (hbase : base ≤ w0.heap.size)
    (h : ∀ v' w', w'.ownsRow base 5 1 v' (k + n) ((xs ++ bs).map bv) → RowFr v w0 v' w' → wpList Try.prog ops Q rest (a.put o.dst v') w') : wpList Try.prog ops Q (o :: rest) a w := by
  subst hg
  exact wpList_bytes hgd s x ho base v k xs hown hs cs bs n hw hcs hn hx hl hbase h
set_option maxHeartbeats 4000000 in
theorem latch22_any (base : Nat) (v : Value) (xs : List Nat) (x : Lt) (w : World) (ho : w.ownsRow base 5 1 v xs.length (xs.map bv)) (hb : base ≤ w.heap.size) (ht : okT x.at_) (hx : xs.length ≤ 10000) :
    Calls Try.prog 44 #[v, .agg #[.bool x.set, .int .i64 x.at_, .bool x.first]] w (RowPost base v w (xs ++ encL x)) := by
  obtain ⟨s, t, f⟩ := x
  obtain ⟨A, c, rfl⟩ := own_shape ho
  obtain ⟨tn, rfl⟩ : ∃ tn : Nat, t = (tn : Int) := ⟨t.toNat, by unfold okT at ht; dsimp only at ht; omega⟩
  have ht1 : tn ≤ 2199023255552 := by unfold okT at ht; dsimp only at ht; omega
  have al : Below w.heap.size w (w.alloc (.cells #[.bool s, .int .i64 tn, .bool f] 61)) := (Below.refl _ _).alloc (Nat.le_refl _) _
  obtain ⟨w1, hw1⟩ : ∃ x, x = w.alloc (.cells #[.bool s, .int .i64 tn, .bool f] 61) := ⟨_, rfl⟩
  rw [← hw1] at al
  have hbx : w1.heap[w.heap.size]? = some (.cells #[.bool s, .int .i64 tn, .bool f] 61) := by rw [hw1]; exact heap_alloc_new _ _
  have hz1 : w1.heap.size = w.heap.size + 1 := by rw [hw1]; simp
  have c1 := cell_of_row w1 w.heap.size 1 _ _ _ hbx
  simp at c1
  have Ho := Lib.hid (own_below ho al)
  have Al := Lib.hid al
  have Hz1 := Lib.hid hz1
  have Hw1 := Lib.hid hw1
  obtain ⟨M, hK0⟩ : ∃ M, M = b2 s + 2 * b2 f := ⟨_, rfl⟩
  have hE : encL ⟨s, tn, f⟩ = [M] ++ six tn := by rw [hK0]; rfl
  have HK0 := Lib.hid hK0
  have HE := Lib.hid hE
  have Hnb : Hid (∀ {v' : Value} {w' : World}, RowFr (.slice A xs.length c) w1 v' w' → w'.cell? ⟨w.heap.size, 1, none⟩ = some (.int .i64 tn)) := fun hf => by
    have h1 := hf.1.at_ (i := w.heap.size) (by rw [hw1]; simp) (fun e => box_ne ho e.symm)
    exact (World.cell?_of_block h1).trans c1
  clear ho al hbx hz1 hw1 hK0 hE ht
  cases s <;> cases f
  · have Hcs : Hid ((#[Value.int .u8 0] : Array Value) = (([M] : List Nat).map bv).toArray) := by show _ = _; rw [HK0.out]; rfl
    go_enter Try.func44, Try.ntmps44
    go_wp2_with (first
      | (rw [← Hw1.out]
         with_reducible refine wpList_bytesG (w0 := w1) rfl (.tmp 12) (.tmp 14) rfl (w.heap.size + 1) Hz1.out base (.slice A xs.length c) xs.length xs Ho.out rfl _ [M] 1 rfl Hcs.out rfl rfl (by omega) (by have := Hz1.out; omega) ?_
         intro v3 w3 hown3 hf3
         have hc3 := Hnb.out hf3
         obtain ⟨A3, c3, rfl⟩ := own_shape hown3
         have Hown3 : Hid (w3.ownsRow base 5 1 (.slice A3 (xs.length + 1) c3) (xs ++ [M]).length ((xs ++ [M]).map bv)) := by
           show World.ownsRow _ _ _ _ _ _ _
           rw [List.length_append, List.length_singleton]; exact hown3
         have Hf3 := Lib.hid hf3
         clear hown3 hf3)
      | (go_at_call 45; (with_reducible refine (six22_any base (.slice A3 (xs.length + 1) c3) (xs ++ [M]) tn _ Hown3.out (Nat.le_trans (by have := Hz1.out; omega) (RowFr.size Hf3.out)) ht1 (by rw [List.length_append, List.length_singleton]; omega)).mono ?_)
         rintro e w6 ⟨v6, rfl, hown6, hf6⟩
         have Hown6 := Lib.hid hown6
         have Hf6 := Lib.hid (Hf3.out.trans hf6)
         clear hown6 hf6))
    go_ret
    refine ⟨_, rfl, ?_, (RowFr.of Al.out).trans Hf6.out⟩
    rw [HE.out, ← List.append_assoc]
    exact Hown6.out
  · have Hcs : Hid ((#[Value.int .u8 2] : Array Value) = (([M] : List Nat).map bv).toArray) := by show _ = _; rw [HK0.out]; rfl
    go_enter Try.func44, Try.ntmps44
    go_wp2_with (first
      | (rw [← Hw1.out]
         with_reducible refine wpList_bytesG (w0 := w1) rfl (.tmp 12) (.tmp 14) rfl (w.heap.size + 1) Hz1.out base (.slice A xs.length c) xs.length xs Ho.out rfl _ [M] 1 rfl Hcs.out rfl rfl (by omega) (by have := Hz1.out; omega) ?_
         intro v3 w3 hown3 hf3
         have hc3 := Hnb.out hf3
         obtain ⟨A3, c3, rfl⟩ := own_shape hown3
         have Hown3 : Hid (w3.ownsRow base 5 1 (.slice A3 (xs.length + 1) c3) (xs ++ [M]).length ((xs ++ [M]).map bv)) := by
           show World.ownsRow _ _ _ _ _ _ _
           rw [List.length_append, List.length_singleton]; exact hown3
         have Hf3 := Lib.hid hf3
         clear hown3 hf3)
      | (go_at_call 45; (with_reducible refine (six22_any base (.slice A3 (xs.length + 1) c3) (xs ++ [M]) tn _ Hown3.out (Nat.le_trans (by have := Hz1.out; omega) (RowFr.size Hf3.out)) ht1 (by rw [List.length_append, List.length_singleton]; omega)).mono ?_)
         rintro e w6 ⟨v6, rfl, hown6, hf6⟩
         have Hown6 := Lib.hid hown6
         have Hf6 := Lib.hid (Hf3.out.trans hf6)
         clear hown6 hf6))
    go_ret
    refine ⟨_, rfl, ?_, (RowFr.of Al.out).trans Hf6.out⟩
    rw [HE.out, ← List.append_assoc]
    exact Hown6.out
  · have Hcs : Hid ((#[Value.int .u8 1] : Array Value) = (([M] : List Nat).map bv).toArray) := by show _ = _; rw [HK0.out]; rfl
    go_enter Try.func44, Try.ntmps44
    go_wp2_with (first
      | (rw [← Hw1.out]
         with_reducible refine wpList_bytesG (w0 := w1) rfl (.tmp 12) (.tmp 14) rfl (w.heap.size + 1) Hz1.out base (.slice A xs.length c) xs.length xs Ho.out rfl _ [M] 1 rfl Hcs.out rfl rfl (by omega) (by have := Hz1.out; omega) ?_
         intro v3 w3 hown3 hf3
         have hc3 := Hnb.out hf3
         obtain ⟨A3, c3, rfl⟩ := own_shape hown3
         have Hown3 : Hid (w3.ownsRow base 5 1 (.slice A3 (xs.length + 1) c3) (xs ++ [M]).length ((xs ++ [M]).map bv)) := by
           show World.ownsRow _ _ _ _ _ _ _
           rw [List.length_append, List.length_singleton]; exact hown3
         have Hf3 := Lib.hid hf3
         clear hown3 hf3)
      | (go_at_call 45; (with_reducible refine (six22_any base (.slice A3 (xs.length + 1) c3) (xs ++ [M]) tn _ Hown3.out (Nat.le_trans (by have := Hz1.out; omega) (RowFr.size Hf3.out)) ht1 (by rw [List.length_append, List.length_singleton]; omega)).mono ?_)
         rintro e w6 ⟨v6, rfl, hown6, hf6⟩
         have Hown6 := Lib.hid hown6
         have Hf6 := Lib.hid (Hf3.out.trans hf6)
         clear hown6 hf6))
    go_ret
    refine ⟨_, rfl, ?_, (RowFr.of Al.out).trans Hf6.out⟩
    rw [HE.out, ← List.append_assoc]
    exact Hown6.out
  · have Hcs : Hid ((#[Value.int .u8 3] : Array Value) = (([M] : List Nat).map bv).toArray) := by show _ = _; rw [HK0.out]; rfl
    go_enter Try.func44, Try.ntmps44
    go_wp2_with (first
      | (rw [← Hw1.out]
         with_reducible refine wpList_bytesG (w0 := w1) rfl (.tmp 12) (.tmp 14) rfl (w.heap.size + 1) Hz1.out base (.slice A xs.length c) xs.length xs Ho.out rfl _ [M] 1 rfl Hcs.out rfl rfl (by omega) (by have := Hz1.out; omega) ?_
         intro v3 w3 hown3 hf3
         have hc3 := Hnb.out hf3
         obtain ⟨A3, c3, rfl⟩ := own_shape hown3
         have Hown3 : Hid (w3.ownsRow base 5 1 (.slice A3 (xs.length + 1) c3) (xs ++ [M]).length ((xs ++ [M]).map bv)) := by
           show World.ownsRow _ _ _ _ _ _ _
           rw [List.length_append, List.length_singleton]; exact hown3
         have Hf3 := Lib.hid hf3
         clear hown3 hf3)
      | (go_at_call 45; (with_reducible refine (six22_any base (.slice A3 (xs.length + 1) c3) (xs ++ [M]) tn _ Hown3.out (Nat.le_trans (by have := Hz1.out; omega) (RowFr.size Hf3.out)) ht1 (by rw [List.length_append, List.length_singleton]; omega)).mono ?_)
         rintro e w6 ⟨v6, rfl, hown6, hf6⟩
         have Hown6 := Lib.hid hown6
         have Hf6 := Lib.hid (Hf3.out.trans hf6)
         clear hown6 hf6))
    go_ret
    refine ⟨_, rfl, ?_, (RowFr.of Al.out).trans Hf6.out⟩
    rw [HE.out, ← List.append_assoc]
    exact Hown6.out
end Go.Proofs.Ytcdgaeenfhpnkaa
