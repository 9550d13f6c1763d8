/- Package log: records, walked. -/
import Derived.Test.YtcdgaeenfhpnkaaPk08
set_option linter.unusedVariables false
set_option linter.unusedSimpArgs false
set_option maxRecDepth 100000
namespace Go.Proofs.Ytcdgaeenfhpnkaa
open Go Go.RowKit CrcMath
attribute [local go_sem] Oper.semAt_some

theorem listIn_app {P : Program} {n l : Nat} (w : World) {ops : Array Oper} {rest : List Oper} {o : Oper} {a : Act} {Q : Exit → Act → World → Prop} (hgd : o.guard = none) (s x : Operand) (t : TypeId)
    (ho : o.op = .call { callee := .builtin .append, args := #[s, x], argTypes := #[t, t] })
    (base : Nat) (e : TypeId) (i : TypeInfo) (z : Value) (size bytes : Nat) (ht : P.underlying t = some (.slice e)) (hi : P.info? e = some i) (hz : i.zero = some z)
    (hsize : i.size = size) (hby : i.bytes = bytes) (hzs : z.cells.size = size) (hsz : 0 < size)
    (v : Value) (k : Nat) (xs : List Value) (hs : a.eval s = v) (hown : w.ownsRow base e size v k xs)
    (B : Nat) (A : Option Addr) (m c : Nat) (news : List Value) (hx : a.eval x = .slice A m c) (hr : Rd w B size A m news) (h1 : ∀ u ∈ news, u.oneCell' = true)
    (h63 : k + m ≤ maxLen) (hbytes : (k + m) * bytes ≤ 140737488355328) (hbase : base ≤ w.heap.size)
    (h : ∀ v' w', w'.ownsRow base e size v' (k + m) (xs ++ news) → w.grownBy w' v.ownBlock → (v'.ownBlock = v.ownBlock ∨ v'.ownBlock = some w.heap.size) → wpListIn (Fence.wide.inRound l) n P ops Q rest (a.put o.dst v') w') : wpListIn (Fence.wide.inRound l) n P ops Q (o :: rest) a w :=
  list_in hgd (fun c e => by rw [ho] at e; cases e) fun K hK => wp_app w s x t ho base e i z size bytes ht hi hz hsize hby hzs hsz v k xs hs hown B A m c news hx hr h1 h63 hbytes hbase fun v' w' h2 h3 h4 => hK _ _ (h v' w' h2 h3 h4)

theorem RS.small.mono {st : RS} {m m' : Nat} (h : st.small m) (hm : m ≤ m') : st.small m' := ⟨by have := h.out; omega, by have := h.record; omega, by have := h.taken; omega, by have := h.which; omega, h.of8, h.turn⟩
def RecsPost (w : World) (st : RS) (e : Ending) (w' : World) : Prop :=
  ∃ v, e = .returned (.tuple #[v, .int .i64 st.turn, .int .i64 st.taken]) ∧ OutOk w' w.heap.size w'.heap.size v st.out ∧ Below w.heap.size w w' ∧ st.small 256

/-- where the records' variables lie when the pieces' function is there -/
theorem rc_start (w w1 : World) (p fr many : Nat) (h : w1 = ((((((((w.alloc (.cells #[.slice none 0 0] 84)).alloc (.cells #[.slice none 0 0] 27)).alloc (.cells #[.int .i64 0] 3)).alloc (.cells #[.int .i64 0] 3)).alloc (.cells #[.int .i64 0] 3)).alloc (.cells #[.int .i64 0] 3)).alloc (.cells #[.pointer (some ⟨p, 0, none⟩)] 36)).alloc (.cells #[.int .i64 fr] 3)).alloc (.cells #[.int .i64 many] 3)) :
    RcI w w1 RS.zero 0 ∧ Boxed w1 (w.heap.size + 1 + 1 + 1 + 1 + 1 + 1) 36 (.pointer (some ⟨p, 0, none⟩)) ∧ Boxed w1 (w.heap.size + 1 + 1 + 1 + 1 + 1 + 1 + 1) 3 (.int .i64 fr) ∧ Boxed w1 (w.heap.size + 1 + 1 + 1 + 1 + 1 + 1 + 1 + 1) 3 (.int .i64 many) ∧ w1.heap.size = w.heap.size + 1 + 1 + 1 + 1 + 1 + 1 + 1 + 1 + 1 := by
  subst h
  have hb : Below w.heap.size w (((((((((w.alloc (.cells #[.slice none 0 0] 84)).alloc (.cells #[.slice none 0 0] 27)).alloc (.cells #[.int .i64 0] 3)).alloc (.cells #[.int .i64 0] 3)).alloc (.cells #[.int .i64 0] 3)).alloc (.cells #[.int .i64 0] 3)).alloc (.cells #[.pointer (some ⟨p, 0, none⟩)] 36)).alloc (.cells #[.int .i64 fr] 3)).alloc (.cells #[.int .i64 many] 3)) :=
    (((((((((Below.refl _ w).alloc (Nat.le_refl _) _).alloc (by simp only [World.size_alloc]; omega) _).alloc (by simp only [World.size_alloc]; omega) _).alloc (by simp only [World.size_alloc]; omega) _).alloc (by simp only [World.size_alloc]; omega) _).alloc (by simp only [World.size_alloc]; omega) _).alloc (by simp only [World.size_alloc]; omega) _).alloc (by simp only [World.size_alloc]; omega) _).alloc (by simp only [World.size_alloc]; omega) _
  have mk : ∀ (X : World) (t : TypeId) (v : Value) (b : Nat), X.heap.size = b → Boxed (X.alloc (.cells #[v] t)) b t v := fun X t v b h => h ▸ Boxed.new X t v
  refine ⟨⟨hb, by simp only [World.size_alloc]; omega, ⟨by simp [RS.zero], by simp [RS.zero], by simp [RS.zero], by simp [RS.zero], by simp [RS.zero], by simp [RS.zero]⟩,
    ⟨w.heap.size + 1 + 1 + 1 + 1 + 1 + 1 + 1 + 1 + 1, .slice none 0 0, .slice none 0 0, ?_, ?_, ⟨[], World.ownsRow_nil _ _ _ _, fun j r hj => by simp [RS.zero] at hj⟩, World.ownsRow_nil _ _ _ _, Nat.le_refl _, by simp only [World.size_alloc]; omega⟩, ?_, ?_, ?_, ?_⟩, ?_, ?_, ?_, by simp only [World.size_alloc]⟩
  · exact Boxed.alloc (Boxed.alloc (Boxed.alloc (Boxed.alloc (Boxed.alloc (Boxed.alloc (Boxed.alloc (Boxed.alloc (mk _ _ _ _ (by simp only [World.size_alloc])) _) _) _) _) _) _) _) _
  · exact Boxed.alloc (Boxed.alloc (Boxed.alloc (Boxed.alloc (Boxed.alloc (Boxed.alloc (Boxed.alloc (mk _ _ _ _ (by simp only [World.size_alloc])) _) _) _) _) _) _) _
  · exact Boxed.alloc (Boxed.alloc (Boxed.alloc (Boxed.alloc (Boxed.alloc (Boxed.alloc (mk _ _ _ _ (by simp only [World.size_alloc])) _) _) _) _) _) _
  · exact Boxed.alloc (Boxed.alloc (Boxed.alloc (Boxed.alloc (Boxed.alloc (mk _ _ _ _ (by simp only [World.size_alloc])) _) _) _) _) _
  · exact Boxed.alloc (Boxed.alloc (Boxed.alloc (Boxed.alloc (mk _ _ _ _ (by simp only [World.size_alloc])) _) _) _) _
  · exact Boxed.alloc (Boxed.alloc (Boxed.alloc (mk _ _ _ _ (by simp only [World.size_alloc])) _) _) _
  · exact Boxed.alloc (Boxed.alloc (mk _ _ _ _ (by simp only [World.size_alloc])) _) _
  · exact Boxed.alloc (mk _ _ _ _ (by simp only [World.size_alloc])) _
  · exact mk _ _ _ _ (by simp only [World.size_alloc])
theorem kept_put {U : Nat → Prop} {A : World} {k : Nat} (o' : Obj) (h : ¬ U k) : Kept U A (A.putObj k o') :=
  ⟨rfl, rfl, rfl, (grownBy_putObj' A k o').size, fun x hx => World.putObj_heap_other (fun e => h (e ▸ hx))⟩
theorem heap_put_other {A : World} {b k : Nat} {o x : Obj} (o' : Obj) (h : A.heap[b]? = some x) (hx : x.isCells = true) (hk : A.heap[k]? = some o) (ho : o.isCells = false) : (A.putObj k o').heap[b]? = some x := by
  rw [World.putObj_heap_other]
  · exact h
  · intro e
    subst e
    rw [h] at hk
    injection hk with hk
    subst hk
    rw [hx] at ho
    cases ho
def rcI (w : World) (pre : List PX) (W : World) : Prop := ∃ st, RunTo pre st ∧ RcI w W st pre.length
def rcX (w : World) (cd : Code) (pre : List PX) (W : World) : Prop := cd = .exit 0 ∧ ∃ st, (∀ rest, RS.zero.steps (pre.map (·.1) ++ rest) = st) ∧ RcI w W st pre.length
def rcA (w : World) (S : List (List Nat)) (p fr many : Nat) (s : List PX × PX × Act) (W : World) : Prop :=
  ∃ (pre : List PX) (x : PX) (Bx : Nat), rcI w pre W ∧ pxR S (w.heap.size + 1 + 1 + 1 + 1 + 1 + 1 + 3) pre x W ∧ w.heap.size + 1 + 1 + 1 + 1 + 1 + 1 + 1 + 1 + 1 ≤ Bx ∧ W.heap[Bx]? = some (.cells #[.int .i64 x.1.turn, .int .i64 x.1.which, .int .i64 x.1.of_, .slice (some ⟨x.2.1, 6, none⟩) x.1.bytes.length x.2.2] 132) ∧
    s = (pre, x, { tmps := #[.pointer (some ⟨p, 0, none⟩), .int .i64 fr, .int .i64 many, undef, undef, undef, .slice none 0 0, .int .i64 0, .int .i64 0, .pointer (some ⟨w.heap.size, 0, none⟩), .pointer (some ⟨w.heap.size + 1, 0, none⟩), .pointer (some ⟨w.heap.size + 1 + 1, 0, none⟩), .pointer (some ⟨w.heap.size + 1 + 1 + 1, 0, none⟩), .pointer (some ⟨w.heap.size + 1 + 1 + 1 + 1, 0, none⟩), .pointer (some ⟨w.heap.size + 1 + 1 + 1 + 1 + 1, 0, none⟩), .pointer (some ⟨Bx, 0, none⟩), .pointer (some ⟨p, 0, none⟩), .int .i64 fr, .int .i64 many, .func (.func 92) #[] #[.pointer (some ⟨w.heap.size + 1 + 1 + 1 + 1 + 1 + 1 + 2, 0, none⟩), .pointer (some ⟨w.heap.size + 1 + 1 + 1 + 1 + 1 + 1, 0, none⟩), .pointer (some ⟨w.heap.size + 1 + 1 + 1 + 1 + 1 + 1 + 1, 0, none⟩)], .agg #[.int .i64 x.1.turn, .int .i64 x.1.which, .int .i64 x.1.of_, .slice (some ⟨x.2.1, 6, none⟩) x.1.bytes.length x.2.2], undef, undef, undef, undef, undef, undef, undef, undef, undef, undef, undef, undef, undef, undef, undef, undef, undef, undef, undef, undef, undef, undef, undef, undef, undef, undef, undef, undef, undef, undef, undef, undef, undef, undef, undef, undef, undef, undef, undef, undef, undef, undef, undef], defers := [] })
def rcT (w : World) (p fr many : Nat) (pc : Pc) (g cc Bx : Nat) (u1 u2 u3 u4 u5 u6 u7 u8 : Value) : Act := { tmps := #[.pointer (some ⟨p, 0, none⟩), .int .i64 fr, .int .i64 many, undef, undef, undef, .slice none 0 0, .int .i64 0, .int .i64 0, .pointer (some ⟨w.heap.size, 0, none⟩), .pointer (some ⟨w.heap.size + 1, 0, none⟩), .pointer (some ⟨w.heap.size + 1 + 1, 0, none⟩), .pointer (some ⟨w.heap.size + 1 + 1 + 1, 0, none⟩), .pointer (some ⟨w.heap.size + 1 + 1 + 1 + 1, 0, none⟩), .pointer (some ⟨w.heap.size + 1 + 1 + 1 + 1 + 1, 0, none⟩), .pointer (some ⟨Bx, 0, none⟩), .pointer (some ⟨p, 0, none⟩), .int .i64 fr, .int .i64 many, .func (.func 92) #[] #[.pointer (some ⟨w.heap.size + 1 + 1 + 1 + 1 + 1 + 1 + 2, 0, none⟩), .pointer (some ⟨w.heap.size + 1 + 1 + 1 + 1 + 1 + 1, 0, none⟩), .pointer (some ⟨w.heap.size + 1 + 1 + 1 + 1 + 1 + 1 + 1, 0, none⟩)], .agg #[.int .i64 pc.turn, .int .i64 pc.which, .int .i64 pc.of_, .slice (some ⟨g, 6, none⟩) pc.bytes.length cc], u1, u2, u3, u4, u5, u6, u7, u8, undef, undef, undef, undef, undef, undef, undef, undef, undef, undef, undef, undef, undef, undef, undef, undef, undef, undef, undef, undef, undef, undef, undef, undef, undef, undef, undef, undef, undef, undef, undef, undef, undef, undef, undef], defers := [] }
def rcM (w W : World) (p fr many : Nat) (pc : Pc) (g cc Bx : Nat) (st : RS) (m : Nat) (e : Exit) (a : Act) (W' : World) : Prop :=
  e = .normal ∧ ∃ u1 u2 u3 u4 u5 u6 u7 u8, a = rcT w p fr many pc g cc Bx u1 u2 u3 u4 u5 u6 u7 u8 ∧ RcI w W' st m ∧ RStep w W W' ∧ ∀ k, w.heap.size + 1 + 1 + 1 + 1 + 1 + 1 + 1 + 1 + 1 ≤ k → W'.heap[k]? = W.heap[k]?
theorem rcI_stands (w : World) (B : Nat) (hB : w.heap.size ≤ B) : Stands B (rcI w) :=
  ⟨fun s X Y ⟨st, h1, h2⟩ hb => ⟨st, h1, h2.below hb⟩, fun s X k o o' hk hx ho ⟨st, h1, h2⟩ => ⟨st, h1, h2.put o' (by omega) hx ho⟩⟩
theorem rcX_stands (w : World) (B : Nat) (hB : w.heap.size ≤ B) (cd : Code) : Stands B (rcX w cd) :=
  ⟨fun s X Y ⟨e, st, h1, h2⟩ hb => ⟨e, st, h1, h2.below hb⟩, fun s X k o o' hk hx ho ⟨e, st, h1, h2⟩ => ⟨e, st, h1, h2.put o' (by omega) hx ho⟩⟩
theorem rcA_stands (w : World) (B : Nat) (hB : w.heap.size ≤ B) (S : List (List Nat)) (p fr many : Nat) : Stands B (rcA w S p fr many) := by
  refine ⟨fun s X Y ⟨pre, x, Bx, h1, h2, h3, h4, h5⟩ hb => ⟨pre, x, Bx, (rcI_stands w B hB).below _ _ _ h1 hb, ⟨h2.1, h2.2.1, (h2.2.2.below hb).more hb.size⟩, h3, (hb.block Bx (Array.getElem?_eq_some_iff.1 h4).1).trans h4, h5⟩,
    fun s X k o o' hk hx ho ⟨pre, x, Bx, h1, h2, h3, h4, h5⟩ => ⟨pre, x, Bx, (rcI_stands w B hB).put _ _ _ _ o' hk hx ho h1, ⟨h2.1, h2.2.1, (h2.2.2.put o' hx ho).more (grownBy_putObj' X k o').size⟩, h3, heap_put_other o' h4 rfl hx ho, h5⟩⟩
set_option maxHeartbeats 8000000 in
theorem records_any (n : Nat) (p q c : Nat) (d : DD) (fr many : Nat) (w : World) (hd : HDc w (fun _ => False) p q c d) (hcl : c < w.heap.size) (hdn : d.down = false) (hfm : fr + many ≤ d.L.length) :
    CallsIn Fence.wide n Try.prog 68 #[.pointer (some ⟨p, 0, none⟩), .int .i64 fr, .int .i64 many] w (RecsPost w (recsF (secs d fr many))) := by
  refine callsIn_of_wp_marks Try.func68 rfl trivial ?_ rfl
  simp only [Try.ntmps68, List.size_toArray, List.length_cons, List.length_nil, Nat.reduceAdd, Nat.reduceSub, Array.replicate_succ, Array.replicate_zero, List.push_toArray, List.append_toArray, List.nil_append, List.cons_append]
  have hm256 : fr ≤ 1000 ∧ many ≤ 1000 := by have := hd.ok.2.1; omega
  obtain ⟨S, hS⟩ : ∃ S, S = secs d fr many := ⟨_, rfl⟩
  have hSl : S.length ≤ 256 := by have := hd.ok.2.1; rw [hS, secs, List.length_take, List.length_drop]; omega
  have hSf : ∀ pc ∈ told S, pc.fine := fun pc hp => by
    obtain ⟨s, h1, h2⟩ := told_mem S pc hp
    have : s ∈ d.L := by rw [hS, secs] at h1; exact List.mem_of_mem_drop (List.mem_of_mem_take h1)
    exact tell_fine s pc (hd.ok.1 s this).2 (hd.ok.1 s this).1 h2
  have HSf := Lib.hid hSf
  have HSl := Lib.hid hSl
  obtain ⟨R, hR⟩ : ∃ R, R = RecsPost w (recsF (secs d fr many)) := ⟨_, rfl⟩
  have HR : Hid (R = RecsPost w (RS.zero.steps (told S))) := by show _ = _; rw [hR, hS]; rfl
  rw [← hR]
  have HS := Lib.hid hS
  have HDC := Lib.hid hd
  clear hS hSl hSf hR hd
  gi_wp2_with (first
    | (refine ⟨trivial, (fun h => by cases h), ?_⟩
       gi_at_call 81
       (with_reducible refine (callsIn_wide.2 (pieces_any p fr many _ hm256)).mono ?_)
       rintro e w1 ⟨rfl, hw1⟩
       have Hw1 := Lib.hid hw1
       clear hw1)
    | fail)
  obtain ⟨hrc, x6, x7, x8, hsz⟩ := rc_start w w1 p fr many Hw1.out
  have hPx : PxI w1 p q c (w.heap.size + 1 + 1 + 1 + 1 + 1 + 1) d fr many := by
    have hp := (Array.getElem?_eq_some_iff.1 HDC.out.hp).1
    have hq := (Array.getElem?_eq_some_iff.1 HDC.out.hq).1
    exact ⟨HDC.out.below hrc.bel, ⟨by omega, by omega, by omega⟩, x6, x7, x8⟩
  have HPx := Lib.hid hPx
  have Hrc := Lib.hid hrc
  have Hsz := Lib.hid hsz
  clear hPx hrc x6 x7 x8 hsz Hw1
  have hKp : ∀ A k (o o' : Obj), w1.heap.size ≤ k → A.heap[k]? = some o → o.isCells = false → Kept (pxK p q c (w.heap.size + 1 + 1 + 1 + 1 + 1 + 1)) A (A.putObj k o') := fun A k o o' hk _ _ =>
    kept_put o' (fun h => by have := HPx.out.old k h; omega)
  have hwB : w.heap.size ≤ w1.heap.size := Hrc.out.bel.size
  refine range_law (gf := 92) (lb := #[.pointer (some ⟨w.heap.size + 1 + 1 + 1 + 1 + 1 + 1 + 2, 0, none⟩), .pointer (some ⟨w.heap.size + 1 + 1 + 1 + 1 + 1 + 1, 0, none⟩), .pointer (some ⟨w.heap.size + 1 + 1 + 1 + 1 + 1 + 1 + 1, 0, none⟩)]) (encs := pxE) (Rx := pxR S (w.heap.size + 1 + 1 + 1 + 1 + 1 + 1 + 3)) (Kp := Kept (pxK p q c (w.heap.size + 1 + 1 + 1 + 1 + 1 + 1))) (S := fun xs => told S = xs.map (·.1)) (Sp := fun pre => ∃ rest, told S = pre.map (·.1) ++ rest) (w0 := w1)
    rfl (enters Try.func92 (by kernel_rfl) (by kernel_rfl)) ?hit (Below.refl _ _) (fun _ => rfl) (fun h k => Kept.trans h k) hKp (rcI w) (rcX w) (rcA w S p fr many)
    (rcI_stands w _ hwB) (rcX_stands w _ hwB) (rcA_stands w _ hwB S p fr many) ⟨RS.zero, fun _ => rfl, Hrc.out⟩ ?assign ?body ?done ?stop
  case hit =>
    intro l J Jx W hW hJ hY h0
    have hS := HS.out
    subst hS
    exact pieces_in (n - 1) l J Jx W p q c (w.heap.size + 1 + 1 + 1 + 1 + 1 + 1) d fr many (HPx.out.below hW) hdn hfm hJ hY h0
  case assign =>
    rintro l pre ⟨pc, g, cc⟩ W hi hx
    unfold pxE pcV
    gi_wp2
    obtain ⟨st, hrun, hrc⟩ := hi
    have hbl : Below W.heap.size W (W.alloc (.cells #[.int .i64 pc.turn, .int .i64 pc.which, .int .i64 pc.of_, .slice (some ⟨g, 6, none⟩) pc.bytes.length cc] 132)) := (Below.refl _ _).alloc (Nat.le_refl _) _
    refine ⟨hbl, Kept.of hbl (fun k hk => ?_), pre, (pc, g, cc), W.heap.size, ⟨st, hrun, hrc.below hbl⟩, ⟨hx.1, hx.2.1, (hx.2.2.alloc (Nat.le_refl _) _).more (by rw [World.size_alloc]; omega)⟩, hrc.sz, heap_alloc_new W _, rfl⟩
    have h1 := HPx.out.old k hk
    have h2 := hrc.sz
    have h3 := Hsz.out
    omega
  case body =>
    rintro l pre x a1 W ⟨pre', ⟨pc, g, cc⟩, Bx, ⟨st, hrun, hrc⟩, hx, hBx, hbx, he⟩
    simp only [Prod.mk.injEq] at he
    obtain ⟨rfl, rfl, rfl⟩ := he
    have hfine : pc.fine := by
      obtain ⟨rest, ht⟩ := hx.1
      exact HSf.out pc (by rw [ht]; simp)
    have hpl : pre.length < 256 := by
      obtain ⟨rest, ht⟩ := hx.1
      have h1 := told_len S
      rw [ht] at h1
      simp at h1
      have := HSl.out
      omega
    have hrd : Rd W W.heap.size 1 (some ⟨g, 6, none⟩) pc.bytes.length (pc.bytes.map bv) := hx.2.2
    have hg9 : w.heap.size + 1 + 1 + 1 + 1 + 1 + 1 + 3 ≤ g := hx.2.1
    have Hfine := Lib.hid hfine
    have Hpl := Lib.hid hpl
    have Hrd := Lib.hid hrd
    have Hrun := Lib.hid hrun
    have Hbx : Hid (W.heap[Bx]? = some (.cells #[.int .i64 pc.turn, .int .i64 pc.which, .int .i64 pc.of_, .slice (some ⟨g, 6, none⟩) pc.bytes.length cc] 132)) := hbx
    have Hrcw := Lib.hid hrc
    clear hKp hwB hx hbx hrun hrc hfine hpl hrd
    refine wpIn_block (wpIn_seq (wpIn_mono (Q := rcM w W p fr many pc g cc Bx { st with of_ := st.of1 pc } pre.length) ?p1 ?p2))
    case p1 =>
      have hrc := Hrcw.out
      have c4 := hrc.x4.cell
      have c5 := hrc.x5.cell
      have f5 := frozen_of_row W _ 0 _ _ hrc.x5
      have x2 := cell_of_row W Bx 2 _ _ _ Hbx.out
      simp at x2
      clear hrc
      by_cases hw : st.which = 0
      · have t1 : ((st.which : Int) == 0) = true := by rw [hw]; rfl
        have Hw := Lib.hid hw
        clear hw
        gi_wp2
        have e : st.of1 pc = pc.of_ := if_pos Hw.out
        refine ⟨rfl, _, _, _, _, _, _, _, _, rfl, ?_, (RStep.refl w W).set _ (by omega) (by omega), fun k hk => Below.heap_setCell _ _ _ _ (by show k ≠ w.heap.size + 1 + 1 + 1 + 1 + 1; omega)⟩
        rw [e]
        exact Hrcw.out.set5 _ Hfine.out.o8
      · have t1 : ((st.which : Int) == 0) = false := by rw [beq_eq_false_iff_ne]; omega
        have Hw := Lib.hid hw
        clear hw
        gi_wp2
        have e : st.of1 pc = st.of_ := if_neg Hw.out
        refine ⟨rfl, _, _, _, _, _, _, _, _, rfl, ?_, RStep.refl w W, fun _ _ => rfl⟩
        rw [e]
        exact Hrcw.out
    case p2 =>
    rintro e a2 W2 ⟨rfl, u1, u2, u3, u4, u5, u6, u7, u8, rfl, hrc2, hs2, hk2⟩
    have Hbx2 : Hid (W2.heap[Bx]? = some (.cells #[.int .i64 pc.turn, .int .i64 pc.which, .int .i64 pc.of_, .slice (some ⟨g, 6, none⟩) pc.bytes.length cc] 132)) := (hk2 Bx hBx).trans Hbx.out
    have Hrc2 := Lib.hid hrc2
    have Hs2 := Lib.hid hs2
    have Hg2 : Hid (W2.heap[g]? = W.heap[g]?) := hk2 g (by omega)
    clear hrc2 hs2 hk2
    refine wpIn_seq (wpIn_mono (Q := rcM w W2 p fr many pc g cc Bx { st with of_ := st.of1 pc, turn := st.turn1 pc } pre.length) ?q1 ?q2)
    case q1 =>
      have hrc := Hrc2.out
      have c2 : W2.cell? ⟨w.heap.size + 1 + 1, 0, none⟩ = some (.int .i64 st.turn) := hrc.x2.cell
      have f2 := frozen_of_row W2 _ 0 _ _ hrc.x2
      have x0 := cell_of_row W2 Bx 0 _ _ _ Hbx2.out
      simp at x0
      clear hrc
      unfold rcT
      by_cases hw : st.turn = 0
      · have t1 : ((st.turn : Int) == 0) = true := by rw [hw]; rfl
        have Hw := Lib.hid hw
        clear hw
        gi_wp2
        have e : st.turn1 pc = pc.turn := if_pos Hw.out
        refine ⟨rfl, _, _, _, _, _, _, _, _, rfl, ?_, (RStep.refl w W2).set _ (by omega) (by omega), fun k hk => Below.heap_setCell _ _ _ _ (by show k ≠ w.heap.size + 1 + 1; omega)⟩
        rw [e]
        exact Hrc2.out.set2 _ Hfine.out.t1
      · have t1 : ((st.turn : Int) == 0) = false := by rw [beq_eq_false_iff_ne]; omega
        have Hw := Lib.hid hw
        clear hw
        gi_wp2
        have e : st.turn1 pc = st.turn := if_neg Hw.out
        refine ⟨rfl, _, _, _, _, _, _, _, _, rfl, ?_, RStep.refl w W2, fun _ _ => rfl⟩
        rw [e]
        exact Hrc2.out
    case q2 =>
    rintro e a3 W3 ⟨rfl, v1, v2, v3, v4, v5, v6, v7, v8, rfl, hrc3, hs3, hk3⟩
    have Hbx3 : Hid (W3.heap[Bx]? = some (.cells #[.int .i64 pc.turn, .int .i64 pc.which, .int .i64 pc.of_, .slice (some ⟨g, 6, none⟩) pc.bytes.length cc] 132)) := (hk3 Bx hBx).trans Hbx2.out
    have Hs3 : Hid (RStep w W W3) := Hs2.out.trans hs3
    obtain ⟨T, hT⟩ : ∃ T, T = st.turn1 pc := ⟨_, rfl⟩
    obtain ⟨O, hO⟩ : ∃ O, O = st.of1 pc := ⟨_, rfl⟩
    rw [← hT, ← hO] at hrc3
    have Hrc3 : Hid (RcI w W3 ⟨st.out, st.record, T, st.taken, st.which, O⟩ pre.length) := hrc3
    have HT := Lib.hid hT
    have HO := Lib.hid hO
    have c2 : W3.cell? ⟨w.heap.size + 1 + 1, 0, none⟩ = some (.int .i64 T) := hrc3.x2.cell
    have c4 : W3.cell? ⟨w.heap.size + 1 + 1 + 1 + 1, 0, none⟩ = some (.int .i64 st.which) := hrc3.x4.cell
    have c5 : W3.cell? ⟨w.heap.size + 1 + 1 + 1 + 1 + 1, 0, none⟩ = some (.int .i64 O) := hrc3.x5.cell
    have f4 := frozen_of_row W3 _ 0 _ _ hrc3.x4
    have x0 := cell_of_row W3 Bx 0 _ _ _ Hbx3.out
    have x1 := cell_of_row W3 Bx 1 _ _ _ Hbx3.out
    have x2 := cell_of_row W3 Bx 2 _ _ _ Hbx3.out
    have x3 := cell_of_row W3 Bx 3 _ _ _ Hbx3.out
    simp at x0 x1 x2 x3
    have Hgk : Hid (W3.heap[g]? = W.heap[g]?) := (hk3 g (by omega)).trans (Hg2.out)
    clear hrc3 hs3 hk3 hT hO Hrcw Hrc2 Hs2 Hbx2 Hbx
    unfold rcT
    have stop : ¬ st.fits pc → ∀ W', W' = W3 → KeepsFrom w1.heap.size W W' ∧ rcX w (.exit 0) (pre ++ [(pc, g, cc)]) W' := fun hf W' e => by
      subst e
      refine ⟨Hs3.out.keeps.from _, rfl, ⟨st.out, st.record, T, st.taken, st.which, O⟩, fun rest => ?_, Hrc3.out.up (by simp)⟩
      have hstep : st.step pc = (⟨st.out, st.record, T, st.taken, st.which, O⟩, false) := by rw [RS.step, if_neg hf, HT.out, HO.out]
      have h := Hrun.out.stop (x := (pc, g, cc)) (by show (st.step pc).2 = _; rw [hstep]) rest
      rw [h]
      show (st.step pc).1 = _
      rw [hstep]
    have Hstop := Lib.hid stop
    clear stop
    by_cases k1 : pc.turn = T
    case neg =>
      have hf : ¬ st.fits pc := fun h => k1 (h.1.trans HT.out.symm)
      have t1 : ((pc.turn : Int) != (T : Int)) = true := by rw [bne_iff_ne]; omega
      have Hf := Lib.hid hf
      clear hf k1
      gi_wp2
      exact Hstop.out Hf.out _ rfl
    by_cases k2 : pc.which = st.which
    case neg =>
      have hf : ¬ st.fits pc := fun h => k2 h.2.1
      have t1 : ((pc.turn : Int) != (T : Int)) = false := by rw [k1]; simp
      have t2 : ((pc.which : Int) != (st.which : Int)) = true := by rw [bne_iff_ne]; omega
      have Hf := Lib.hid hf
      clear hf k1 k2
      gi_wp2
      exact Hstop.out Hf.out _ rfl
    by_cases k3 : pc.of_ = O
    case neg =>
      have hf : ¬ st.fits pc := fun h => k3 (h.2.2.trans HO.out.symm)
      have t1 : ((pc.turn : Int) != (T : Int)) = false := by rw [k1]; simp
      have t2 : ((pc.which : Int) != (st.which : Int)) = false := by rw [k2]; simp
      have t3 : ((pc.of_ : Int) != (O : Int)) = true := by rw [bne_iff_ne]; omega
      have Hf := Lib.hid hf
      clear hf k1 k2 k3
      gi_wp2
      exact Hstop.out Hf.out _ rfl
    have hf : st.fits pc := ⟨k1.trans HT.out, k2, k3.trans HO.out⟩
    have t1 : ((pc.turn : Int) != (T : Int)) = false := by rw [k1]; simp
    have t2 : ((pc.which : Int) != (st.which : Int)) = false := by rw [k2]; simp
    have t3 : ((pc.of_ : Int) != (O : Int)) = false := by rw [k3]; simp
    have Hf := Lib.hid hf
    have hO8 : O ≤ 8 := by have := Hfine.out.o8; omega
    have hwO : st.which < O := by have := Hfine.out.w; omega
    have HO8 := Lib.hid hO8
    have HwO := Lib.hid hwO
    clear hf k1 k2 k3 hO8 hwO
    obtain ⟨Bo, v9, v10, b9, b10, h9, h10, l1, l2⟩ := Hrc3.out.own
    have c10 := b10.cell
    have B9 := Lib.hid b9
    have B10 := Lib.hid b10
    have H9 := Lib.hid h9
    have H10 : Hid (W3.ownsRow Bo 5 1 v10 st.record.length (st.record.map bv)) := h10
    have L1 := Lib.hid l1
    have L2 := Lib.hid l2
    have hrec : st.record.length ≤ 56 * pre.length := Hrc3.out.sm.record
    have hb1 := Hfine.out.b1
    have hpl := Hpl.out
    have Hm : Hid (st.record.length + pc.bytes.length ≤ 56 * 256) := by show _ ≤ _; omega
    clear b9 b10 h9 h10 l1 l2 hrec hb1 hpl
    have HRd3 : Hid (Rd W3 W.heap.size 1 (some ⟨g, 6, none⟩) pc.bytes.length (pc.bytes.map bv)) := by
      refine ⟨Hrd.out.1, fun hn => ?_⟩
      obtain ⟨b, o, e, hlt, hc⟩ := Hrd.out.2 hn
      injection e with e
      injection e with e1 e2
      subst e1
      subst e2
      exact ⟨g, 6, rfl, hlt, fun j u hu => (World.cell?_of_block (Hgk.out)).trans (hc j u hu)⟩
    obtain ⟨i0, hi, hz0, hz1, hz2⟩ := info_parts info_u8
    obtain ⟨i1, hi1, hy0, hy1, hy2⟩ := info_parts info_bs
    have HU : Hid (∀ k, pxK p q c (w.heap.size + 1 + 1 + 1 + 1 + 1 + 1) k → k < w.heap.size ∨ w.heap.size + 1 + 1 + 1 + 1 + 1 + 1 ≤ k ∧ k < w.heap.size + 1 + 1 + 1 + 1 + 1 + 1 + 1 + 1 + 1) := by
      rintro k (rfl | rfl | rfl | h)
      · exact .inl (Array.getElem?_eq_some_iff.1 HDC.out.hp).1
      · exact .inl (Array.getElem?_eq_some_iff.1 HDC.out.hq).1
      · exact .inl hcl
      · exact .inr ⟨h.1, by omega⟩
    have HNext : Hid (∀ st' W', (st.step pc).1 = st' → RcI w W' st' (pre.length + 1) → RStep w W W' → KeepsFrom w1.heap.size W W' ∧ Kept (pxK p q c (w.heap.size + 1 + 1 + 1 + 1 + 1 + 1)) W W' ∧ rcI w (pre ++ [(pc, g, cc)]) W') := fun st' W' e h1 h2 =>
      ⟨h2.keeps.from _, h2.mono HU.out, st', by have h := Hrun.out.snoc (x := (pc, g, cc)) (by show (st.step pc).2 = _; rw [RS.step, if_pos Hf.out]); rw [← e]; exact h, by rw [List.length_append]; exact h1⟩
    have hw8 : st.which < 8 := by have h1 := HO8.out; have h2 := HwO.out; omega
    have ht8 : st.taken ≤ 8 * 256 := by have h1 : st.taken ≤ 8 * pre.length := Hrc3.out.sm.taken; have h2 := Hpl.out; omega
    have hO8 := HO8.out
    by_cases hwo : st.which + 1 = O
    · have t4 : ((st.which : Int) + 1 == (O : Int)) = true := by rw [beq_iff_eq]; omega
      have HWO := Lib.hid hwo
      clear hwo
      gi_wp2_with (first
        | (gi_at_builtin
           refine listIn_app _ rfl (.tmp 45) (.tmp 47) 27 rfl Bo 5 i0 (.int .u8 0) 1 1 Try.underlying27 hi hz0 hz1 hz2 rfl (by decide) v10 st.record.length (st.record.map bv) rfl H10.out W.heap.size (some ⟨g, 6, none⟩) pc.bytes.length cc (pc.bytes.map bv) rfl HRd3.out (bv_one _) (by have := Hm.out; unfold maxLen; omega) (by have := Hm.out; omega) L2.out ?_
           intro v' W4 hn4 hg4 _
           obtain ⟨A4, cc4, rfl⟩ := own_shape hn4
           have y9 : Boxed W4 w.heap.size 84 v9 := B9.out.kept hg4 (B9.out.not_row (by decide) H10.out)
           have y10 : Boxed W4 (w.heap.size + 1) 27 v10 := B10.out.kept hg4 (B10.out.not_row (by decide) H10.out)
           have y3 := Hrc3.out.x3.kept hg4 (Hrc3.out.x3.not_row (by decide) H10.out)
           have y4 := Hrc3.out.x4.kept hg4 (Hrc3.out.x4.not_row (by decide) H10.out)
           have y5 := Hrc3.out.x5.kept hg4 (Hrc3.out.x5.not_row (by decide) H10.out)
           have d9 := y9.cell
           have d10 := y10.cell
           have d3 : W4.cell? ⟨w.heap.size + 1 + 1 + 1, 0, none⟩ = some (.int .i64 st.taken) := y3.cell
           have d4 : W4.cell? ⟨w.heap.size + 1 + 1 + 1 + 1, 0, none⟩ = some (.int .i64 st.which) := y4.cell
           have d5 : W4.cell? ⟨w.heap.size + 1 + 1 + 1 + 1 + 1, 0, none⟩ = some (.int .i64 O) := y5.cell
           have e9 := y9.frozen
           have e10 := y10.frozen
           have e3 := y3.frozen
           have e4 := y4.frozen
           have Hrc5 : Hid (RcI w (W4.setCell ⟨w.heap.size + 1, 0, none⟩ (.slice A4 (st.record.length + pc.bytes.length) cc4)) ⟨st.out, st.record ++ pc.bytes, T, st.taken, st.which, O⟩ (pre.length + 1)) := Hrc3.out.app B9.out B10.out H9.out H10.out L1.out L2.out hn4 rfl Hfine.out.b1 hg4
           have Hs5 : Hid (RStep w W3 (W4.setCell ⟨w.heap.size + 1, 0, none⟩ (.slice A4 (st.record.length + pc.bytes.length) cc4))) := ((RStep.refl w W3).grown H10.out hg4 L1.out Hrc3.out.sz).set _ (by omega) (by omega)
           obtain ⟨W6, hW6⟩ : ∃ X, X = (W4.setCell ⟨w.heap.size + 1, 0, none⟩ (.slice A4 (st.record.length + pc.bytes.length) cc4)).setCell ⟨w.heap.size + 1 + 1 + 1 + 1, 0, none⟩ (.int .i64 ((st.which : Int) + 1)) := ⟨_, rfl⟩
           have HW6 := Lib.hid hW6
           have Hrc6 : Hid (RcI w W6 ⟨st.out, st.record ++ pc.bytes, T, st.taken, st.which + 1, O⟩ (pre.length + 1)) := by
             rw [hW6]
             exact Hrc5.out.set4 (st.which + 1) (by have := Hrc3.out.sm.which; show _ ≤ pre.length + 1; simp only at this; omega)
           have Hs6 : Hid (RStep w W W6) := by
             rw [hW6]
             exact (Hs3.out.trans Hs5.out).set _ (by omega) (by omega)
           have hs6 : W6.heap.size = W4.heap.size := by rw [hW6, size_set, size_set]
           have Hs6z := Lib.hid hs6
           clear hs6
           obtain ⟨B6, u9, u10, z9, z10, o9, o10, m1, m2⟩ := Hrc6.out.own
           have q9 := boxed_inj z9 (by rw [hW6]; exact Boxed.other (Boxed.other y9 (by omega) _) (by omega) _)
           have q10 := boxed_inj z10 (by rw [hW6]; exact Boxed.other (Boxed.set _ y10) (by omega) _)
           subst u9
           subst q10
           obtain ⟨vs, hv, hvs⟩ := o9
           have o10' : W6.ownsRow B6 5 1 (.slice A4 (st.record.length + pc.bytes.length) cc4) (st.record ++ pc.bytes).length ((st.record ++ pc.bytes).map bv) := o10
           rw [List.length_append] at o10'
           have Z9 := Lib.hid z9
           have Z10 := Lib.hid z10
           have Hv := Lib.hid hv
           have Hvs := Lib.hid hvs
           have O10 := Lib.hid o10'
           have M1 := Lib.hid m1
           have M2 := Lib.hid m2
           clear hW6 z9 z10 hv hvs o10 o10' m1 m2 y9 y10 y3 y4 y5 hn4 hg4)
        | (gi_at_builtin
           rw [← HW6.out]
           refine listIn_app _ rfl (.tmp 54) (.tmp 56) 84 rfl (w.heap.size + 1 + 1 + 1 + 1 + 1 + 1 + 1 + 1 + 1) 27 i1 (.slice none 0 0) 1 24 Try.underlying84 hi1 hy0 hy1 hy2 rfl (by decide) v9 st.out.length vs rfl (own_below Hv.out ((Below.refl _ W6).alloc (Nat.le_refl _) _)) (W6.heap.size + 1) (some ⟨W4.heap.size, 0, none⟩) 1 1 [.slice A4 (st.record.length + pc.bytes.length) cc4] rfl (by have h := rd_new W6 [.slice A4 (st.record.length + pc.bytes.length) cc4] 27 1 1 rfl; rw [Hs6z.out] at h; rw [Hs6z.out]; exact h) (by simp [Value.oneCell']) (by have h1 : st.out.length ≤ pre.length := Hrc3.out.sm.out; have h2 := Hpl.out; unfold maxLen; omega) (by have h1 : st.out.length ≤ pre.length := Hrc3.out.sm.out; have h2 := Hpl.out; omega) (by rw [World.size_alloc]; have := M1.out; have := M2.out; omega) ?_
           intro v7 W7 hn7 hg7 _
           obtain ⟨A7, cc7, rfl⟩ := own_shape hn7
           have kx : ∀ {b t : Nat} {u : Value}, b < w.heap.size + 1 + 1 + 1 + 1 + 1 + 1 + 1 + 1 + 1 → Boxed W6 b t u → Boxed W7 b t u := fun hb hx => (hx.alloc _).kept hg7 (own_ne Hv.out hb)
           have y9 := kx (by omega) Z9.out
           have y10 := kx (by omega) Z10.out
           have y3 := kx (by omega) Hrc6.out.x3
           have y4 := kx (by omega) Hrc6.out.x4
           have y5 := kx (by omega) Hrc6.out.x5
           have n9 := y9.cell
           have n10 := y10.cell
           have n3 : W7.cell? ⟨w.heap.size + 1 + 1 + 1, 0, none⟩ = some (.int .i64 st.taken) := y3.cell
           have n4 : W7.cell? ⟨w.heap.size + 1 + 1 + 1 + 1, 0, none⟩ = some (.int .i64 ((st.which : Int) + 1)) := y4.cell
           have n5 : W7.cell? ⟨w.heap.size + 1 + 1 + 1 + 1 + 1, 0, none⟩ = some (.int .i64 O) := y5.cell
           have g9 := y9.frozen
           have g10 := y10.frozen
           have g3 := y3.frozen
           have g4 := y4.frozen
           have Hfin := Lib.hid (Hrc6.out.put_out Z9.out Z10.out ⟨vs, Hv.out, Hvs.out⟩ O10.out M1.out M2.out Hv.out Hvs.out _ hn7 hg7 (st.taken + O) (pre.length + 1) (by have h1 : st.taken ≤ 8 * pre.length := Hrc3.out.sm.taken; omega) (by have h1 : st.out.length ≤ pre.length := Hrc3.out.sm.out; show st.out.length + 1 ≤ pre.length + 1; omega))
           have Hsf : Hid (RStep w W ((((W7.setCell ⟨w.heap.size, 0, none⟩ (.slice A7 (st.out.length + 1) cc7)).setCell ⟨w.heap.size + 1 + 1 + 1, 0, none⟩ (.int .i64 (st.taken + O : Nat))).setCell ⟨w.heap.size + 1, 0, none⟩ (.slice none 0 0)).setCell ⟨w.heap.size + 1 + 1 + 1 + 1, 0, none⟩ (.int .i64 (0 : Nat)))) := by
             have h6 := Hrc6.out.sz
             have hal := own_below Hv.out ((Below.refl _ W6).alloc (Nat.le_refl _) (.cells #[.slice A4 (st.record.length + pc.bytes.length) cc4] 27))
             exact ((((((Hs6.out.alloc _ h6).grown hal hg7 (Nat.le_refl _) (by rw [World.size_alloc]; omega)).set _ (by omega) (by omega)).set _ (by omega) (by omega)).set _ (by omega) (by omega)).set _ (by omega) (by omega))
           clear y9 y10 y3 y4 y5 hn7 hg7 kx)
        | fail)
      refine HNext.out _ _ ?_ Hfin.out Hsf.out
      rw [RS.step, if_pos Hf.out, if_pos (by rw [← HO.out]; exact HWO.out), ← HT.out, ← HO.out]
    · have t4 : ((st.which : Int) + 1 == (O : Int)) = false := by rw [beq_eq_false_iff_ne]; omega
      have HWO := Lib.hid hwo
      clear hwo
      gi_wp2_with (first
        | (gi_at_builtin
           refine listIn_app _ rfl (.tmp 45) (.tmp 47) 27 rfl Bo 5 i0 (.int .u8 0) 1 1 Try.underlying27 hi hz0 hz1 hz2 rfl (by decide) v10 st.record.length (st.record.map bv) rfl H10.out W.heap.size (some ⟨g, 6, none⟩) pc.bytes.length cc (pc.bytes.map bv) rfl HRd3.out (bv_one _) (by have := Hm.out; unfold maxLen; omega) (by have := Hm.out; omega) L2.out ?_
           intro v' W4 hn4 hg4 _
           obtain ⟨A4, cc4, rfl⟩ := own_shape hn4
           have y9 : Boxed W4 w.heap.size 84 v9 := B9.out.kept hg4 (B9.out.not_row (by decide) H10.out)
           have y10 : Boxed W4 (w.heap.size + 1) 27 v10 := B10.out.kept hg4 (B10.out.not_row (by decide) H10.out)
           have y3 := Hrc3.out.x3.kept hg4 (Hrc3.out.x3.not_row (by decide) H10.out)
           have y4 := Hrc3.out.x4.kept hg4 (Hrc3.out.x4.not_row (by decide) H10.out)
           have y5 := Hrc3.out.x5.kept hg4 (Hrc3.out.x5.not_row (by decide) H10.out)
           have d9 := y9.cell
           have d10 := y10.cell
           have d3 : W4.cell? ⟨w.heap.size + 1 + 1 + 1, 0, none⟩ = some (.int .i64 st.taken) := y3.cell
           have d4 : W4.cell? ⟨w.heap.size + 1 + 1 + 1 + 1, 0, none⟩ = some (.int .i64 st.which) := y4.cell
           have d5 : W4.cell? ⟨w.heap.size + 1 + 1 + 1 + 1 + 1, 0, none⟩ = some (.int .i64 O) := y5.cell
           have e9 := y9.frozen
           have e10 := y10.frozen
           have e3 := y3.frozen
           have e4 := y4.frozen
           have Hrc5 : Hid (RcI w (W4.setCell ⟨w.heap.size + 1, 0, none⟩ (.slice A4 (st.record.length + pc.bytes.length) cc4)) ⟨st.out, st.record ++ pc.bytes, T, st.taken, st.which, O⟩ (pre.length + 1)) := Hrc3.out.app B9.out B10.out H9.out H10.out L1.out L2.out hn4 rfl Hfine.out.b1 hg4
           have Hs5 : Hid (RStep w W3 (W4.setCell ⟨w.heap.size + 1, 0, none⟩ (.slice A4 (st.record.length + pc.bytes.length) cc4))) := ((RStep.refl w W3).grown H10.out hg4 L1.out Hrc3.out.sz).set _ (by omega) (by omega)
           clear y9 y10 y3 y4 y5 hn4 hg4)
        | fail)
      refine HNext.out _ _ ?_ (Hrc5.out.set4 (st.which + 1) (by have := Hrc3.out.sm.which; show _ ≤ pre.length + 1; simp only at this; omega)) ((Hs3.out.trans Hs5.out).set _ (by omega) (by omega))
      rw [RS.step, if_pos Hf.out, if_neg (by rw [← HO.out]; exact HWO.out), ← HT.out, ← HO.out]
  case done =>
    rintro D xs W hD hxs ⟨st, hrun, hrc⟩ hK
    obtain ⟨Bo, v9, v10, b9, b10, h9, h10, l1, l2⟩ := hrc.own
    have c9 := b9.cell
    have c2 := hrc.x2.cell
    have c3 := hrc.x3.cell
    have Hrc2 := Lib.hid hrc
    have H9 := Lib.hid h9
    have hst : RS.zero.steps (told S) = st := by rw [hxs]; have := hrun []; rw [List.append_nil] at this; rw [this]; rfl
    have hlen : xs.length ≤ 256 := by have h1 := told_len S; rw [hxs, List.length_map] at h1; have := HSl.out; omega
    have HRst : Hid (R = RecsPost w st) := by show _ = _; rw [HR.out, hst]
    clear hst
    gi_wp2
    refine wpIn_wide.2 ?_
    go_quiet (fail)
    gi_wp2
    refine ⟨by simp, .inl ⟨_, _, rfl, run_takeDeferred (w := W.drewN nq) hK, ?_⟩⟩
    refine ⟨_, results_tmp3 rfl _ _ _, ?_⟩
    rw [HRst.out]
    have hbd : Below W.heap.size W (W.drewN nq) := ⟨rfl, rfl, rfl, Nat.le_refl _, fun _ _ => rfl⟩
    have hr2 := (Hrc2.out.below hbd).put (.deferred none) (by omega) (show (W.drewN nq).heap[D]? = some (.deferred (some [])) from hK) rfl
    have h92 := (H9.out.below hbd l2).put (.deferred none) (show (W.drewN nq).heap[D]? = some (.deferred (some [])) from hK) rfl
    exact ⟨v9, rfl, (h92.more (Nat.le_trans l2 (grownBy_putObj' (W.drewN nq) D (.deferred none)).size)).less (by omega), hr2.bel, hr2.sm.mono hlen⟩
  case stop =>
    rintro D cd pre W hD ⟨rest, ht⟩ ⟨rfl, st, hrun, hrc⟩ hK
    obtain ⟨Bo, v9, v10, b9, b10, h9, h10, l1, l2⟩ := hrc.own
    have c9 := b9.cell
    have c2 := hrc.x2.cell
    have c3 := hrc.x3.cell
    have Hrc2 := Lib.hid hrc
    have H9 := Lib.hid h9
    have hst : RS.zero.steps (told S) = st := by rw [ht]; exact hrun rest
    have hlen : pre.length ≤ 256 := by have h1 := told_len S; rw [ht, List.length_append, List.length_map] at h1; have := HSl.out; omega
    have HRst : Hid (R = RecsPost w st) := by show _ = _; rw [HR.out, hst]
    clear hst
    gi_wp2
    refine wpIn_wide.2 ?_
    go_quiet (fail)
    gi_wp2
    refine ⟨by simp, .inl ⟨_, _, rfl, run_takeDeferred (w := W.drewN nq) hK, ?_⟩⟩
    refine ⟨_, results_tmp3 rfl _ _ _, ?_⟩
    rw [HRst.out]
    have hbd : Below W.heap.size W (W.drewN nq) := ⟨rfl, rfl, rfl, Nat.le_refl _, fun _ _ => rfl⟩
    have hr2 := (Hrc2.out.below hbd).put (.deferred none) (by omega) (show (W.drewN nq).heap[D]? = some (.deferred (some [])) from hK) rfl
    have h92 := (H9.out.below hbd l2).put (.deferred none) (show (W.drewN nq).heap[D]? = some (.deferred (some [])) from hK) rfl
    exact ⟨v9, rfl, (h92.more (Nat.le_trans l2 (grownBy_putObj' (W.drewN nq) D (.deferred none)).size)).less (by omega), hr2.bel, hr2.sm.mono hlen⟩
end Go.Proofs.Ytcdgaeenfhpnkaa
