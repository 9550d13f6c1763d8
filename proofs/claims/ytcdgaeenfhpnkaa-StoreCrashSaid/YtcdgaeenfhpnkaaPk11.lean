/- Package log: write, walked. -/
import Derived.Test.YtcdgaeenfhpnkaaPk10
set_option linter.unusedVariables false
set_option linter.unusedSimpArgs false
set_option maxRecDepth 100000
namespace Go.Proofs.Ytcdgaeenfhpnkaa
open Go Go.RowKit CrcMath
attribute [local go_sem] Oper.semAt_some

theorem wr_start (U : Nat → Prop) (w w1 : World) (p q lb fr turn g o n c : Nat) (d : DD) (hd : HD w U p q d)
    (h : w1 = (((((((w.alloc (.cells #[.pointer (some ⟨lb, 0, none⟩)] 83)).alloc (.cells #[.int .i64 fr] 3)).alloc (.cells #[.int .i64 turn] 3)).alloc (.cells #[.slice (some ⟨g, o, none⟩) n c] 27)).alloc (.cells #[.int .i64 0] 39)).alloc (.cells #[.int .i64 0] 3)).alloc (.cells #[.slice (some ⟨g, o, none⟩) n c] 27)).alloc (.cells #[.int .i64 56] 3)) :
    WrI U p q w w1 w1 d 0 0 ∧ Below w.heap.size w w1 ∧ w1.heap.size = w.heap.size + 1 + 1 + 1 + 1 + 1 + 1 + 1 + 1 ∧
    Boxed w1 w.heap.size 83 (.pointer (some ⟨lb, 0, none⟩)) ∧ Boxed w1 (w.heap.size + 1) 3 (.int .i64 fr) ∧ Boxed w1 (w.heap.size + 1 + 1) 3 (.int .i64 turn) ∧ Boxed w1 (w.heap.size + 1 + 1 + 1) 27 (.slice (some ⟨g, o, none⟩) n c) ∧
    ChI w1 (w.heap.size + 1 + 1 + 1 + 1 + 1 + 1) g o n c := by
  subst h
  have hb := (((((((((Below.refl _ w).alloc (Nat.le_refl _) (.cells #[.pointer (some ⟨lb, 0, none⟩)] 83)).alloc (by simp only [World.size_alloc]; omega) (.cells #[.int .i64 fr] 3)).alloc (by simp only [World.size_alloc]; omega) (.cells #[.int .i64 turn] 3)).alloc (by simp only [World.size_alloc]; omega) (.cells #[.slice (some ⟨g, o, none⟩) n c] 27)).alloc (by simp only [World.size_alloc]; omega) (.cells #[.int .i64 0] 39)).alloc (by simp only [World.size_alloc]; omega) (.cells #[.int .i64 0] 3)).alloc (by simp only [World.size_alloc]; omega) (.cells #[.slice (some ⟨g, o, none⟩) n c] 27)).alloc (by simp only [World.size_alloc]; omega) (.cells #[.int .i64 56] 3))
  have mk : ∀ (X : World) (t : TypeId) (v : Value) (b : Nat), X.heap.size = b → Boxed (X.alloc (.cells #[v] t)) b t v := fun X t v b h => h ▸ Boxed.new X t v
  have hsz : (((((((((w.alloc (.cells #[.pointer (some ⟨lb, 0, none⟩)] 83)).alloc (.cells #[.int .i64 fr] 3)).alloc (.cells #[.int .i64 turn] 3)).alloc (.cells #[.slice (some ⟨g, o, none⟩) n c] 27)).alloc (.cells #[.int .i64 0] 39)).alloc (.cells #[.int .i64 0] 3)).alloc (.cells #[.slice (some ⟨g, o, none⟩) n c] 27)).alloc (.cells #[.int .i64 56] 3))).heap.size = w.heap.size + 1 + 1 + 1 + 1 + 1 + 1 + 1 + 1 := by simp only [World.size_alloc]
  refine ⟨⟨(hd.plus8 hb).turnU (fun k hk => ?_), Kept.refl _ _, ?_, ?_⟩, hb, hsz, ?_, ?_, ?_, ?_, ⟨?_, ?_⟩⟩
  · rcases hk with hk | hk
    · exact .inl hk
    · exact .inr (by rw [hsz]; exact hk)
  · exact Boxed.alloc (Boxed.alloc (Boxed.alloc (mk _ _ _ _ (by simp only [World.size_alloc])) _) _) _
  · exact Boxed.alloc (Boxed.alloc (mk _ _ _ _ (by simp only [World.size_alloc])) _) _
  · exact Boxed.alloc (Boxed.alloc (Boxed.alloc (Boxed.alloc (Boxed.alloc (Boxed.alloc (Boxed.alloc (mk _ _ _ _ rfl) _) _) _) _) _) _) _
  · exact Boxed.alloc (Boxed.alloc (Boxed.alloc (Boxed.alloc (Boxed.alloc (Boxed.alloc (mk _ _ _ _ (by simp only [World.size_alloc])) _) _) _) _) _) _
  · exact Boxed.alloc (Boxed.alloc (Boxed.alloc (Boxed.alloc (Boxed.alloc (mk _ _ _ _ (by simp only [World.size_alloc])) _) _) _) _) _
  · exact Boxed.alloc (Boxed.alloc (Boxed.alloc (Boxed.alloc (mk _ _ _ _ (by simp only [World.size_alloc])) _) _) _) _
  · exact Boxed.alloc (mk _ _ _ _ (by simp only [World.size_alloc])) _
  · exact mk _ _ _ _ (by simp only [World.size_alloc])

def wrRI (U : Nat → Prop) (p q fr turn : Nat) (b : List Nat) (d : DD) (w w1 : World) (pre : List Nat) (W : World) : Prop :=
  ∃ d', wrF fr turn b d pre = (0, d') ∧ d'.writes ≤ d.writes + pre.length ∧ WrI U p q w w1 W d' pre.length 0
def wrRX (U : Nat → Prop) (p q fr turn : Nat) (b : List Nat) (d : DD) (w w1 : World) (cd : Code) (pre : List Nat) (W : World) : Prop :=
  cd = .ret ∧ ∃ (e : Nat) (d' : DD) (m : Nat), (∀ rest, wrF fr turn b d (pre ++ rest) = (e, d')) ∧ WrI U p q w w1 W d' m e
def wrRA (U : Nat → Prop) (p q lb fr turn g o n c : Nat) (b : List Nat) (d : DD) (w w1 : World) (s : List Nat × Nat × Act) (W : World) : Prop :=
  ∃ (pre : List Nat) (x : Nat), wrRI U p q fr turn b d w w1 pre W ∧ chR n pre x W ∧
    s = (pre, x, { tmps := #[.pointer (some ⟨lb, 0, none⟩), .int .i64 fr, .int .i64 turn, .slice (some ⟨g, o, none⟩) n c, .pointer (some ⟨w.heap.size, 0, none⟩), .pointer (some ⟨w.heap.size + 1, 0, none⟩), .pointer (some ⟨w.heap.size + 1 + 1, 0, none⟩), .pointer (some ⟨w.heap.size + 1 + 1 + 1, 0, none⟩), .pointer (some ⟨w.heap.size + 1 + 1 + 1 + 1, 0, none⟩), .pointer (some ⟨w.heap.size + 1 + 1 + 1 + 1 + 1, 0, none⟩),
      .slice (some ⟨g, o + 56 * x, none⟩) (min 56 (n - 56 * x)) (min 56 (n - 56 * x)), undef, undef, .slice (some ⟨g, o, none⟩) n c, .func (.func 95) #[] #[.pointer (some ⟨w.heap.size + 1 + 1 + 1 + 1 + 1 + 1, 0, none⟩), .pointer (some ⟨w.heap.size + 1 + 1 + 1 + 1 + 1 + 1 + 1, 0, none⟩)], .slice (some ⟨g, o + 56 * x, none⟩) (min 56 (n - 56 * x)) (min 56 (n - 56 * x)),
      undef, undef, undef, undef, undef, undef, undef, undef, undef, undef, undef, undef, undef, undef, undef, undef, undef, undef, undef, undef, undef, undef, undef, undef, undef, undef, undef, undef, undef, undef, undef, undef, undef, undef, undef, undef, undef, undef, undef, undef, undef, undef, undef, undef, undef], defers := [] })
section
variable (U : Nat → Prop) (p q lb fr turn g o n c : Nat) (b : List Nat) (d : DD) (w w1 : World) (h1 : ∀ k, wrN U w k → k < w1.heap.size)
include h1
theorem wrRI_stands : Stands w1.heap.size (wrRI U p q fr turn b d w w1) :=
  ⟨fun s X Y ⟨d', e, l, h⟩ hb => ⟨d', e, l, h.below hb h1⟩, fun s X k o o' hk hx ho ⟨d', e, l, h⟩ => ⟨d', e, l, h.put o' hx ho (fun hn => by have := h1 k hn; omega)⟩⟩
theorem wrRX_stands (cd : Code) : Stands w1.heap.size (wrRX U p q fr turn b d w w1 cd) :=
  ⟨fun s X Y ⟨e0, e, d', m, l, h⟩ hb => ⟨e0, e, d', m, l, h.below hb h1⟩, fun s X k o o' hk hx ho ⟨e0, e, d', m, l, h⟩ => ⟨e0, e, d', m, l, h.put o' hx ho (fun hn => by have := h1 k hn; omega)⟩⟩
theorem wrRA_stands : Stands w1.heap.size (wrRA U p q lb fr turn g o n c b d w w1) :=
  ⟨fun s X Y ⟨pre, x, h, hx, e⟩ hb => ⟨pre, x, (wrRI_stands U p q fr turn b d w w1 h1).below _ _ _ h hb, hx, e⟩, fun s X k o o' hk hx ho ⟨pre, x, h, hr, e⟩ => ⟨pre, x, (wrRI_stands U p q fr turn b d w w1 h1).put _ _ _ _ o' hk hx ho h, hr, e⟩⟩
end
def WrPost (U : Nat → Prop) (p q : Nat) (w : World) (r : Nat × DD) (e : Ending) (w' : World) : Prop :=
  e = .returned (.int .i64 r.1) ∧ HD w' U p q r.2 ∧ Kept U w w'
set_option maxHeartbeats 8000000 in
theorem write_log (n0 : Nat) (U : Nat → Prop) (p q lb fr turn g o n c : Nat) (half t taken : Value) (b : List Nat) (d : DD) (w : World) (hd : HD w U p q d) (hlb : w.heap[lb]? = some (.cells #[.pointer (some ⟨p, 0, none⟩), half, t, taken] 109)) (hUl : U lb)
    (hr : Rd w w.heap.size 1 (some ⟨g, o, none⟩) n (b.map bv)) (hUg : U g) (hb : ∀ x ∈ b, x < 256) (hn1 : 0 < n) (hn : n ≤ c) (hn2 : n ≤ 448) (hc : c ≤ maxLen) (ht : turn < 65536) (hf : fr ≤ 1000) (hw8 : d.writes + 8 < 1000000) :
    CallsIn Fence.wide n0 Try.prog 74 #[.pointer (some ⟨lb, 0, none⟩), .int .i64 fr, .int .i64 turn, .slice (some ⟨g, o, none⟩) n c] w (WrPost U p q w (wrF fr turn b d (List.range (needsN b)))) := by
  refine callsIn_of_wp_marks Try.func74 rfl trivial ?_ rfl
  simp only [Try.ntmps74, List.size_toArray, List.length_cons, List.length_nil, Nat.reduceAdd, Nat.reduceSub, Array.replicate_succ, Array.replicate_zero, List.push_toArray, List.append_toArray, List.nil_append, List.cons_append]
  have hbl : b.length = n := by have := hr.1; simpa using this
  obtain ⟨R, hR⟩ : ∃ R, R = WrPost U p q w (wrF fr turn b d (List.range (needsN b))) := ⟨_, rfl⟩
  have HR := Lib.hid hR
  rw [← hR]
  have HD0 := Lib.hid hd
  have Hbl := Lib.hid hbl
  have Hlb := Lib.hid hlb
  have Hr := Lib.hid hr
  clear hR hd hbl hlb hr
  gi_wp2_with (first
    | (refine ⟨trivial, (fun h => by cases h), ?_⟩
       gi_at_call 84
       (with_reducible refine (callsIn_wide.2 (chunk_any (some ⟨g, o, none⟩) n c _)).mono ?_)
       rintro e w1 ⟨rfl, hw1⟩
       have Hw1 := Lib.hid hw1
       clear hw1)
    | fail)
  obtain ⟨hI0, hbl0, hsz, x0, x1, x2, x3, hch⟩ := wr_start U w w1 p q lb fr turn g o n c d HD0.out Hw1.out
  have HI0 := Lib.hid hI0
  have Hb0 := Lib.hid hbl0
  have Hsz := Lib.hid hsz
  have X0 := Lib.hid x0
  have X1 := Lib.hid x1
  have X2 := Lib.hid x2
  have X3 := Lib.hid x3
  have Hch := Lib.hid hch
  have h1 : ∀ k, wrN U w k → k < w1.heap.size := by
    rintro k (h | h | h)
    · have := HD0.out.old k h
      omega
    · omega
    · omega
  have H1 := Lib.hid h1
  clear hI0 hbl0 hsz x0 x1 x2 x3 hch h1 Hw1
  refine range_law (gf := 95) (lb := #[.pointer (some ⟨w.heap.size + 1 + 1 + 1 + 1 + 1 + 1, 0, none⟩), .pointer (some ⟨w.heap.size + 1 + 1 + 1 + 1 + 1 + 1 + 1, 0, none⟩)]) (encs := chE g o n) (Rx := chR n) (Kp := Kept (chK (w.heap.size + 1 + 1 + 1 + 1 + 1 + 1))) (S := fun xs => xs = List.range ((n + 55) / 56)) (Sp := fun pre => ∃ k, 56 * k < n ∧ pre = List.range (k + 1)) (w0 := w1)
    rfl (enters Try.func95 (by kernel_rfl) (by kernel_rfl)) ?hit (Below.refl _ _) (fun _ => rfl) (fun h k => Kept.trans h k) ?hKp (wrRI U p q fr turn b d w w1) (wrRX U p q fr turn b d w w1) (wrRA U p q lb fr turn g o n c b d w w1)
    (wrRI_stands U p q fr turn b d w w1 H1.out) (wrRX_stands U p q fr turn b d w w1 H1.out) (wrRA_stands U p q lb fr turn g o n c b d w w1 H1.out) ⟨d, rfl, Nat.le_refl _, HI0.out⟩ ?assign ?body ?done ?stop
  case hit =>
    intro l J Jx W hW hJ hY h0
    exact chunks_in (n0 - 1) l J Jx W (w.heap.size + 1 + 1 + 1 + 1 + 1 + 1) g o n c (Hch.out.below hW) hn hn2 hc hJ hY h0
  case hKp =>
    intro A k o1 o' hk _ _
    exact kept_put o' (fun h => by have := Hsz.out; rcases h with h | h <;> omega)
  case assign =>
    rintro l pre x W hi hx
    unfold chE
    gi_wp2
    exact ⟨Below.refl _ _, Kept.refl _ _, pre, x, hi, hx, rfl⟩
  case body =>
    rintro l pre x a1 W ⟨pre', x', ⟨d', hF, hdw, hI⟩, ⟨hx1, hx2⟩, he⟩
    simp only [Prod.mk.injEq] at he
    obtain ⟨rfl, rfl, rfl⟩ := he
    obtain ⟨mm, hmm⟩ : ∃ mm, mm = min 56 (n - 56 * x) := ⟨_, rfl⟩
    rw [← hmm]
    have hpl : pre.length = x := by rw [hx1]; simp
    have hx8 : x < 8 := by omega
    have z0 := (cell_of_row W _ 0 _ _ _ (hI.kp.block _ (.inr (.inl ⟨Nat.le_refl _, by omega⟩)) |>.trans X0.out))
    have z1 := (cell_of_row W _ 0 _ _ _ (hI.kp.block _ (.inr (.inl ⟨by omega, by omega⟩)) |>.trans X1.out))
    have z2 := (cell_of_row W _ 0 _ _ _ (hI.kp.block _ (.inr (.inl ⟨by omega, by omega⟩)) |>.trans X2.out))
    have z3 := (cell_of_row W _ 0 _ _ _ (hI.kp.block _ (.inr (.inl ⟨by omega, by omega⟩)) |>.trans X3.out))
    have z9 : W.cell? ⟨w.heap.size + 1 + 1 + 1 + 1 + 1, 0, none⟩ = some (.int .i64 x) := by rw [← hpl]; exact hI.x9.cell
    simp at z0 z1 z2 z3
    have HI := Lib.hid hI
    have HF := Lib.hid hF
    have Hdw := Lib.hid hdw
    have Hmm := Lib.hid hmm
    have Hpl := Lib.hid hpl
    have Hx1 := Lib.hid hx1
    clear hI hF hdw hmm hpl hx1
    gi_wp2_with (first
      | (refine listIn_mk62 rfl (.const (.int .i64 62)) (.const (.int .i64 62)) rfl rfl rfl ?_
         have q0 : (W.alloc (.cells (z62.map bv).toArray 5)).cell? ⟨W.heap.size, 0, none⟩ = some (.int .u8 (0 : Nat)) := row_cell (heap_alloc_new W _) rfl
         have qf : (W.alloc (.cells (z62.map bv).toArray 5)).frozen? ⟨W.heap.size, 0, none⟩ = false := frozen_of_row _ _ 0 _ _ (heap_alloc_new W _))
      | fail)
    obtain ⟨W2, hW2⟩ : ∃ X, X = W.alloc (.cells ((z62.map bv).set 0 (.int .u8 87)).toArray 5) := ⟨_, rfl⟩
    rw [← hW2]
    have hB2 : Below W.heap.size W W2 := by rw [hW2]; exact (Below.refl _ W).alloc (Nat.le_refl _) _
    have hL2 : W2.heap[W.heap.size]? = some (.cells ((z62.set 0 87).map bv).toArray 5) := by rw [hW2, List.map_set]; exact heap_alloc_new W _
    have hWs : w.heap.size + 1 + 1 + 1 + 1 + 1 + 1 + 1 + 1 ≤ W.heap.size := by have h1 := HI.out.kp.size; have h2 := Hsz.out; omega
    have y2 : W2.cell? ⟨w.heap.size + 1 + 1, 0, none⟩ = some (.int .i64 turn) := (hB2.cell (p := ⟨w.heap.size + 1 + 1, 0, none⟩) (by show w.heap.size + 1 + 1 < W.heap.size; omega)).trans z2
    have r1 : W2.cell? ⟨W.heap.size, 1, none⟩ = some (.int .u8 (0 : Nat)) := row_cell hL2 rfl
    have r2 : W2.cell? ⟨W.heap.size, 2, none⟩ = some (.int .u8 (0 : Nat)) := row_cell hL2 rfl
    have p1 : W2.frozen? ⟨W.heap.size, 1, none⟩ = false := frozen_of_row _ _ 1 _ _ hL2
    have p2 : W2.frozen? ⟨W.heap.size, 2, none⟩ = false := frozen_of_row _ _ 2 _ _ hL2
    have HB2 := Lib.hid hB2
    have HL2 := Lib.hid hL2
    have HB2' : Hid (∀ (b : Nat) (v : Value), b < w.heap.size + 1 + 1 + 1 + 1 + 1 + 1 → W.cell? ⟨b, 0, none⟩ = some v → W2.cell? ⟨b, 0, none⟩ = some v) := fun b v hb h => (HB2.out.cell (p := ⟨b, 0, none⟩) (by show b < W.heap.size; omega)).trans h
    have y0 := HB2'.out _ _ (by omega) z0
    have y1 := HB2'.out _ _ (by omega) z1
    have y3 := HB2'.out _ _ (by omega) z3
    have y9 := HB2'.out _ _ (by omega) z9
    have Y0 := Lib.hid y0
    have Y1 := Lib.hid y1
    have Y3 := Lib.hid y3
    have Y9 := Lib.hid y9
    clear hB2 hL2 hW2 z0 z1 z2 z3 z9 y0 y1 y3 y9
    refine startR (fun w' => w'.cell? ⟨w.heap.size + 1 + 1, 0, none⟩ = some (.int .i64 turn)) 11 #[false, false, false, false, false, false, false, false, false, false, false] rfl rfl (by kernel_rfl) (by kernel_rfl) (fun hq => hq.elim fun _ hq => hq.elim fun _ hq => hq) ?_ (fun hHeld => ?_)
    · (first | exact y2 | exact (World.cell?_of_block (Below.heap_setCell _ _ _ _ (by simp; omega))).trans hHeld)
    refine tk 0 19 hHeld ?_
    refine tk 1 20 hHeld ?_
    refine tk 2 21 hHeld ?_
    refine tk 3 22 hHeld ?_
    refine tk 4 23 hHeld ?_
    refine tk 5 24 hHeld ?_
    refine tk 6 25 hHeld ?_
    refine tk 7 26 hHeld ?_
    refine bn 8 (fun K hK => ?_)
    go_simp
    first | refine hK.out undef _ ?_ (fun hHeld' => ?_) | refine hK.out _ _ ?_ (fun hHeld' => ?_)
    · (first | exact y2 | exact (World.cell?_of_block (Below.heap_setCell _ _ _ _ (by simp; omega))).trans hHeld)
    clear hK K hHeld
    have hHeld := hHeld'
    clear hHeld'
    try simp only [List.set_cons_zero, List.set_cons_succ]
    refine tk 9 27 hHeld ?_
    refine bn 10 (fun K hK => ?_)
    go_simp
    first | refine hK.out undef _ ?_ (fun hHeld' => ?_) | refine hK.out _ _ ?_ (fun hHeld' => ?_)
    · (first | exact y2 | exact (World.cell?_of_block (Below.heap_setCell _ _ _ _ (by simp; omega))).trans hHeld)
    clear hK K hHeld
    have hHeld := hHeld'
    clear hHeld'
    try simp only [List.set_cons_zero, List.set_cons_succ]
    refine wpAnyH_done (by kernel_rfl) ?_ _
    refine NoPanic.normal ?_
    have e1 : IntKind.u8.wrap ((turn : Int) / 256) = ((turn / 256 : Nat) : Int) := hi_byte turn ht
    have e2 : IntKind.u8.wrap (turn : Int) = ((turn % 256 : Nat) : Int) := lo_byte turn
    obtain ⟨W3, hW3⟩ : ∃ X, X = ((W2.setCell ⟨W.heap.size, 1, none⟩ (.int .u8 (IntKind.u8.wrap ((turn : Int) / 256)))).setCell ⟨W.heap.size, 2, none⟩ (.int .u8 (IntKind.u8.wrap (turn : Int)))).drew := ⟨_, rfl⟩
    rw [← hW3]
    rw [e1, e2] at hW3
    have hL3 : W3.heap[W.heap.size]? = some (.cells ((((z62.set 0 87).set 1 (turn / 256)).set 2 (turn % 256)).map bv).toArray 5) := by rw [hW3]; exact row_set (turn % 256) (row_set (turn / 256) HL2.out _ rfl) _ rfl
    have hB3 : Below W.heap.size W W3 := by rw [hW3]; exact ((HB2.out.setCell (p := ⟨W.heap.size, 1, none⟩) (Nat.le_refl _) _).setCell (p := ⟨W.heap.size, 2, none⟩) (Nat.le_refl _) _).drew
    have kb : ∀ (b : Nat) (v : Value), b < w.heap.size + 1 + 1 + 1 + 1 + 1 + 1 → W2.cell? ⟨b, 0, none⟩ = some v → W3.cell? ⟨b, 0, none⟩ = some v := fun b v hb h => by
      rw [hW3]
      exact (World.cell?_of_block ((Below.heap_setCell _ _ _ _ (by show b ≠ W.heap.size; omega)).trans (Below.heap_setCell _ _ _ _ (by show b ≠ W.heap.size; omega)))).trans h
    have y9 := kb _ _ (by omega) Y9.out
    have y3 := kb _ _ (by omega) Y3.out
    have Z0 := Lib.hid (kb _ _ (by omega) Y0.out)
    have Z1 := Lib.hid (kb _ _ (by omega) Y1.out)
    have Z9 := Lib.hid y9
    have r3 : W3.cell? ⟨W.heap.size, 3, none⟩ = some (.int .u8 (0 : Nat)) := row_cell hL3 rfl
    have r4 : W3.cell? ⟨W.heap.size, 4, none⟩ = some (.int .u8 (0 : Nat)) := row_cell hL3 rfl
    have r5 : W3.cell? ⟨W.heap.size, 5, none⟩ = some (.int .u8 (0 : Nat)) := row_cell hL3 rfl
    have p3 : W3.frozen? ⟨W.heap.size, 3, none⟩ = false := frozen_of_row _ _ 3 _ _ hL3
    have p4 : W3.frozen? ⟨W.heap.size, 4, none⟩ = false := frozen_of_row _ _ 4 _ _ hL3
    have p5 : W3.frozen? ⟨W.heap.size, 5, none⟩ = false := frozen_of_row _ _ 5 _ _ hL3
    have HB3 := Lib.hid hB3
    have HL3 := Lib.hid hL3
    clear hB3 hL3 hW3 kb r1 r2 p1 p2 y2 e1 e2 HB2 HL2 HB2' Y0 Y1 Y3 Y9 hHeld
    gi_wp2_with fail
    refine startR (fun w' => w'.cell? ⟨w.heap.size + 1 + 1 + 1 + 1 + 1, 0, none⟩ = some (.int .i64 x) ∧ w'.cell? ⟨w.heap.size + 1 + 1 + 1, 0, none⟩ = some (.slice (some ⟨g, o, none⟩) n c)) 17 #[false, false, false, false, false, false, false, false, false, false, false, false, false, false, false, false, false] rfl rfl (by kernel_rfl) (by kernel_rfl) (fun hq => hq.elim fun _ hq => hq.elim fun _ hq => hq) ?_ (fun hHeld => ?_)
    · (first | exact ⟨y9, y3⟩ | exact hHeld | exact ⟨(World.cell?_of_block (Below.heap_setCell _ _ _ _ (by simp; omega))).trans hHeld.1, (World.cell?_of_block (Below.heap_setCell _ _ _ _ (by simp; omega))).trans hHeld.2⟩)
    refine tk 0 28 hHeld ?_
    refine tk 1 29 hHeld ?_
    refine tk 2 30 hHeld ?_
    refine tk 3 31 hHeld ?_
    refine tk 4 32 hHeld ?_
    refine tk 5 33 hHeld ?_
    refine tk 8 36 hHeld ?_
    refine tk 9 37 hHeld ?_
    refine tk 10 38 hHeld ?_
    refine bk 6 34 (fun K hK => ?_)
    go_simp
    (go_at_call 72; (with_reducible refine (needs_any (some ⟨g, o, none⟩) n c _ (by omega)).mono ?_))
    rintro e w6 ⟨rfl, rfl⟩
    refine hK.out _ _ ?_ (fun hHeld' => ?_)
    · (first | exact ⟨y9, y3⟩ | exact hHeld | exact ⟨(World.cell?_of_block (Below.heap_setCell _ _ _ _ (by simp; omega))).trans hHeld.1, (World.cell?_of_block (Below.heap_setCell _ _ _ _ (by simp; omega))).trans hHeld.2⟩)
    clear hK K hHeld
    have hHeld := hHeld'
    clear hHeld'
    simp only [List.set_cons_zero, List.set_cons_succ]
    refine tk 7 35 hHeld ?_
    refine tk 11 39 hHeld ?_
    refine bn 12 (fun K hK => ?_)
    go_simp
    first | refine hK.out undef _ ?_ (fun hHeld' => ?_) | refine hK.out _ _ ?_ (fun hHeld' => ?_)
    · (first | exact ⟨y9, y3⟩ | exact hHeld | exact ⟨(World.cell?_of_block (Below.heap_setCell _ _ _ _ (by simp; omega))).trans hHeld.1, (World.cell?_of_block (Below.heap_setCell _ _ _ _ (by simp; omega))).trans hHeld.2⟩)
    clear hK K hHeld
    have hHeld := hHeld'
    clear hHeld'
    try simp only [List.set_cons_zero, List.set_cons_succ]
    refine tk 13 40 hHeld ?_
    refine bn 14 (fun K hK => ?_)
    go_simp
    first | refine hK.out undef _ ?_ (fun hHeld' => ?_) | refine hK.out _ _ ?_ (fun hHeld' => ?_)
    · (first | exact ⟨y9, y3⟩ | exact hHeld | exact ⟨(World.cell?_of_block (Below.heap_setCell _ _ _ _ (by simp; omega))).trans hHeld.1, (World.cell?_of_block (Below.heap_setCell _ _ _ _ (by simp; omega))).trans hHeld.2⟩)
    clear hK K hHeld
    have hHeld := hHeld'
    clear hHeld'
    try simp only [List.set_cons_zero, List.set_cons_succ]
    refine tk 15 41 hHeld ?_
    refine bn 16 (fun K hK => ?_)
    go_simp
    first | refine hK.out undef _ ?_ (fun hHeld' => ?_) | refine hK.out _ _ ?_ (fun hHeld' => ?_)
    · (first | exact ⟨y9, y3⟩ | exact hHeld | exact ⟨(World.cell?_of_block (Below.heap_setCell _ _ _ _ (by simp; omega))).trans hHeld.1, (World.cell?_of_block (Below.heap_setCell _ _ _ _ (by simp; omega))).trans hHeld.2⟩)
    clear hK K hHeld
    have hHeld := hHeld'
    clear hHeld'
    try simp only [List.set_cons_zero, List.set_cons_succ]
    refine wpAnyH_done (by kernel_rfl) ?_ _
    refine NoPanic.normal ?_
    have hmm := Hmm.out
    have e3 : IntKind.u8.wrap (x : Int) = ((x : Nat) : Int) := by rw [lo_byte]; omega
    have e4 : IntKind.u8.wrap (((n : Int) + 55) / 56) = (((n + 55) / 56 : Nat) : Int) := by
      have e : ((n : Int) + 55) / 56 = (((n + 55) / 56 : Nat) : Int) := by omega
      rw [e, lo_byte]; omega
    have e5 : IntKind.u8.wrap (mm : Int) = ((mm : Nat) : Int) := by rw [lo_byte]; omega
    obtain ⟨W4, hW4⟩ : ∃ X, X = (((W3.setCell ⟨W.heap.size, 3, none⟩ (.int .u8 (IntKind.u8.wrap (x : Int)))).setCell ⟨W.heap.size, 4, none⟩ (.int .u8 (IntKind.u8.wrap (((n : Int) + 55) / 56)))).setCell ⟨W.heap.size, 5, none⟩ (.int .u8 (IntKind.u8.wrap (mm : Int)))).drew := ⟨_, rfl⟩
    rw [← hW4]
    rw [e3, e4, e5] at hW4
    obtain ⟨L4, hL4e⟩ : ∃ L4, L4 = [87, turn / 256, turn % 256, x, (n + 55) / 56, mm] ++ List.replicate 56 0 := ⟨_, rfl⟩
    have hL4 : W4.heap[W.heap.size]? = some (.cells (L4.map bv).toArray 5) := by rw [hW4, hL4e]; exact row_set mm (row_set ((n + 55) / 56) (row_set x HL3.out _ rfl) _ rfl) _ rfl
    have hB4 : Below W.heap.size W W4 := by rw [hW4]; exact (((HB3.out.setCell (p := ⟨W.heap.size, 3, none⟩) (Nat.le_refl _) _).setCell (p := ⟨W.heap.size, 4, none⟩) (Nat.le_refl _) _).setCell (p := ⟨W.heap.size, 5, none⟩) (Nat.le_refl _) _).drew
    have hgW : W.heap[g]? = w.heap[g]? := (HI.out.kp.block g (.inl hUg)).trans (Hb0.out.block g (HD0.out.old g hUg))
    have hgl : g < W.heap.size := by have h1 := HD0.out.old g hUg; omega
    have hg4 : W4.heap[g]? = w.heap[g]? := (hB4.block g hgl).trans hgW
    have hch : (b.drop (56 * x)).take mm = chunkN b x := by
      rw [chunkN, hmm]
      have h1 : (b.drop (56 * x)).length = n - 56 * x := by rw [List.length_drop, Hbl.out]
      rcases Nat.le_total 56 (n - 56 * x) with h | h
      · rw [Nat.min_eq_left h]
      · rw [Nat.min_eq_right h, List.take_of_length_le (by omega), List.take_of_length_le (by omega)]
    have hcl : (chunkN b x).length = mm := by rw [chunk_len b n x Hbl.out, hmm]
    have hm0 : 0 < mm := by omega
    have hm6 : mm ≤ 56 := by omega
    have hsrc : ∀ (j : Nat) (v : Value), ((chunkN b x).map bv)[j]? = some v → W4.cell? ((⟨g, o + 56 * x, none⟩ : Addr).add j) = some v := by
      intro j v hv
      have hmid := Hr.out.mid (56 * x) mm (by omega)
      rw [hch] at hmid
      obtain ⟨b', o', e, hlt, hcc⟩ := hmid.2 hm0
      injection e with e
      injection e with ea eb
      subst ea
      subst eb
      rw [addr_add, World.cell?_of_block hg4]
      exact hcc j v hv
    have HL4 := Lib.hid hL4
    have HL4e := Lib.hid hL4e
    have HB4 := Lib.hid hB4
    have Hsrc := Lib.hid hsrc
    have Hcl := Lib.hid hcl
    have hrow : (encP turn x (needsN b) (chunkN b x)).map bv = ((L4.map bv).toArray).toList.take 6 ++ ((chunkN b x).map bv ++ ((L4.map bv).toArray).toList.drop (6 + ((chunkN b x).map bv).length)) := by
      rw [List.length_map, hL4e]
      have h := enc_row [87, turn / 256, turn % 256, x, (n + 55) / 56, mm] (chunkN b x) rfl (by omega)
      have e : needsN b = (n + 55) / 56 := by rw [needsN, Hbl.out]
      unfold encP
      rw [e, hcl]
      rw [hcl] at h
      exact h
    have Hrow := Lib.hid hrow
    have hL4len : L4.length = 62 := by rw [hL4e]; rfl
    have HL4len := Lib.hid hL4len
    clear hL4 hL4e hB4 hgW hgl hg4 hch hsrc hcl hrow hL4len hW4 e3 e4 e5 r3 r4 r5 p3 p4 p5 y9 y3 hHeld hmm
    gi_wp2_with (first
      | (refine list_in rfl (fun c e => by cases e) fun K hK => wp_cpy_at (.tmp 43) (.tmp 44) 27 27 rfl 5 Try.underlying27 (by kernel_rfl) W.heap.size 6 56 56 ⟨g, o + 56 * x, none⟩ mm mm rfl rfl (L4.map bv).toArray 5 HL4.out ((chunkN b x).map bv) (by rw [List.length_map, Hcl.out]; exact (Nat.min_eq_left hm6).symm) Hsrc.out (by rw [List.length_map, Hcl.out, List.size_toArray, List.length_map, HL4len.out]; omega) (bv_one _) _ Hrow.out (hK _ _ ?_))
      | fail)
    obtain ⟨E, hE⟩ : ∃ E, E = encP turn x (needsN b) (chunkN b x) := ⟨_, rfl⟩
    have hElen : E.length = 62 := by rw [hE]; exact encP_len _ _ _ _ (by rw [Hcl.out]; exact hm6)
    have hElt : ∀ y ∈ E, y < 256 := by
      rw [hE]
      exact encP_lt _ _ _ _ ht (by omega) (by rw [needsN, Hbl.out]; omega) (by rw [Hcl.out]; exact hm6) (fun y hy => hb y (List.mem_of_mem_drop (List.mem_of_mem_take hy)))
    obtain ⟨W5, hW5⟩ : ∃ X, X = W4.setRow W.heap.size ((encP turn x (needsN b) (chunkN b x)).map bv).toArray := ⟨_, rfl⟩
    rw [← hW5]
    have hL5 : W5.heap[W.heap.size]? = some (.cells (E.map bv).toArray 5) := by rw [hW5, hE]; exact setRow_heap W4 _ _ _ _ _ HL4.out
    have hsz5 : W5.heap.size = W4.heap.size := by rw [hW5]; show (Array.modify _ _ _).size = _; rw [Array.size_modify]
    have hB5 : Below W.heap.size W W5 := by
      refine ⟨by rw [hW5]; exact HB4.out.os, by rw [hW5]; exact HB4.out.tape, by rw [hW5]; exact HB4.out.output, by rw [hsz5]; exact HB4.out.size, fun k hk => ?_⟩
      rw [hW5, setRow_other W4 _ _ _ (by omega)]
      exact HB4.out.block k hk
    have kx : ∀ {k t : Nat} {v : Value}, wrN U w k → Boxed w1 k t v → W5.cell? ⟨k, 0, none⟩ = some v := fun {k t v} hn hx => by
      have hlt : k < W.heap.size := Nat.lt_of_lt_of_le (H1.out k hn) HI.out.kp.size
      exact Boxed.cell ((hB5.block k hlt).trans ((HI.out.kp.block k hn).trans hx))
    have y0 := kx (.inr (.inl ⟨Nat.le_refl _, by omega⟩)) X0.out
    have y1 := kx (.inr (.inl ⟨by omega, by omega⟩)) X1.out
    have y9 : W5.cell? ⟨w.heap.size + 1 + 1 + 1 + 1 + 1, 0, none⟩ = some (.int .i64 x) := by
      have h := HI.out.x9
      rw [Hpl.out] at h
      exact Boxed.cell ((hB5.block _ (by omega)).trans h)
    have yl : W5.cell? ⟨lb, 0, none⟩ = some (.pointer (some ⟨p, 0, none⟩)) := by
      have hlb1 := HD0.out.old lb hUl
      have h : W5.heap[lb]? = some (.cells #[.pointer (some ⟨p, 0, none⟩), half, t, taken] 109) := (hB5.block lb (by omega)).trans ((HI.out.kp.block lb (.inl hUl)).trans ((Hb0.out.block lb hlb1).trans Hlb.out))
      have h2 := cell_of_row W5 lb 0 _ _ _ h
      simpa using h2
    have HB5 := Lib.hid hB5
    have HrE : Hid (Rd W5.drew W5.heap.size 1 (some ⟨W.heap.size, 0, none⟩) 62 (E.map bv)) := (rd_row hL5 hElen).below (Below.refl _ _).drew
    have HE := Lib.hid hE
    have HElen := Lib.hid hElen
    obtain ⟨r, hr0⟩ : ∃ r, r = d'.write ((fr : Int) + (x : Int)) (seal_ E) := ⟨_, rfl⟩
    have Hr0 := Lib.hid hr0
    obtain ⟨en, d7⟩ := r
    have hdw : d'.writes < 1000000 := by have h1 := Hdw.out; rw [Hpl.out] at h1; omega
    have hslt : ∀ y ∈ seal_ E, y < 256 := mem_seal E hElt
    have hw64 : IntKind.i64.wrap ((fr : Int) + (x : Int)) = (fr : Int) + (x : Int) := IntWalk.i64_in _ (by omega)
    have Hw64 := Lib.hid hw64
    clear hw64
    clear hE hElen hW5 hL5 hsz5 hB5 kx hr0 Z0 Z1 Z9 HB3 HL3 HB4 HL4 HL4e HL4len Hrow Hsrc
    refine startR (fun w' => w'.cell? ⟨w.heap.size, 0, none⟩ = some (.pointer (some ⟨lb, 0, none⟩)) ∧ w'.cell? ⟨lb, 0, none⟩ = some (.pointer (some ⟨p, 0, none⟩)) ∧ w'.cell? ⟨w.heap.size + 1, 0, none⟩ = some (.int .i64 fr) ∧ w'.cell? ⟨w.heap.size + 1 + 1 + 1 + 1 + 1, 0, none⟩ = some (.int .i64 x)) 11 #[false, false, false, false, false, false, false, false, false, false, false] rfl rfl (by kernel_rfl) (by kernel_rfl) (fun hq => hq.elim fun _ hq => hq.elim fun _ hq => hq) ?_ (fun hHeld => ?_)
    · (first | exact ⟨y0, yl, y1, y9⟩ | exact HSb.out | exact HSa.out)
    refine tk 0 46 hHeld ?_
    refine tk 1 47 hHeld ?_
    refine tk 2 48 hHeld ?_
    refine tk 3 49 hHeld ?_
    refine tk 4 50 hHeld ?_
    refine tk 5 51 hHeld ?_
    refine tk 6 52 hHeld ?_
    refine tk 7 53 hHeld ?_
    refine bk 8 54 (fun K hK => ?_)
    go_simp
    (go_at_call 86; (with_reducible refine (seal_any (some ⟨W.heap.size, 0, none⟩) 62 62 _ E _ HrE.out (Nat.le_refl _) hElt (by omega)).mono ?_))
    rintro e w6 ⟨A6, c6, rfl, hown6, hb6⟩
    have hb56 : Below W5.heap.size W5 w6 := ((Below.refl _ W5).drew).trans hb6
    have HB6 : Hid (Below W.heap.size W w6) := HB5.out.trans (hb56.mono HB5.out.size)
    have HSa : Hid (w6.cell? ⟨w.heap.size, 0, none⟩ = some (.pointer (some ⟨lb, 0, none⟩)) ∧ w6.cell? ⟨lb, 0, none⟩ = some (.pointer (some ⟨p, 0, none⟩)) ∧ w6.cell? ⟨w.heap.size + 1, 0, none⟩ = some (.int .i64 fr) ∧ w6.cell? ⟨w.heap.size + 1 + 1 + 1 + 1 + 1, 0, none⟩ = some (.int .i64 x)) := by
      have h5 := HB5.out.size
      have hlb1 := HD0.out.old lb hUl
      exact ⟨(hb56.cell (p := ⟨w.heap.size, 0, none⟩) (by show w.heap.size < _; omega)).trans y0, (hb56.cell (p := ⟨lb, 0, none⟩) (by show lb < _; omega)).trans yl, (hb56.cell (p := ⟨w.heap.size + 1, 0, none⟩) (by show w.heap.size + 1 < _; omega)).trans y1, (hb56.cell (p := ⟨w.heap.size + 1 + 1 + 1 + 1 + 1, 0, none⟩) (by show w.heap.size + 1 + 1 + 1 + 1 + 1 < _; omega)).trans y9⟩
    have hr6 := Rd.of_own hown6
    obtain ⟨V, hV, hd6, hN⟩ := (HI.out.hd.below HB6.out).wide
    have HV := Lib.hid hV
    have HN := Lib.hid hN
    have Hr6 := Lib.hid hr6
    have Hd6 := Lib.hid hd6
    clear hown6 hb6 hb56 hr6 hd6 hV hN
    have Hcall : Hid (Calls Try.prog 85 #[.pointer (some ⟨p, 0, none⟩), .int .i64 (IntKind.i64.wrap ((fr : Int) + (x : Int))), .slice A6 64 c6] w6 (WritePost V p q w6 (en, d7))) := by
      show Calls _ _ _ _ _
      rw [Hw64.out, Hr0.out]
      exact write_any V p q d' w6 ((fr : Int) + (x : Int)) A6 64 c6 (seal_ E) Hd6.out Hr6.out hslt hdw
    refine hK.out _ _ ?_ (fun hHeld' => ?_)
    · (first | exact ⟨y0, yl, y1, y9⟩ | exact HSb.out | exact HSa.out)
    clear hK K hHeld
    have hHeld := hHeld'
    clear hHeld'
    simp only [List.set_cons_zero, List.set_cons_succ]
    refine bk 9 55 (fun K hK => ?_)
    go_simp
    (go_at_call 85; (with_reducible refine Hcall.out.mono ?_))
    rintro e w7 ⟨rfl, hd7, hk7⟩
    have HSb : Hid (w7.cell? ⟨w.heap.size, 0, none⟩ = some (.pointer (some ⟨lb, 0, none⟩)) ∧ w7.cell? ⟨lb, 0, none⟩ = some (.pointer (some ⟨p, 0, none⟩)) ∧ w7.cell? ⟨w.heap.size + 1, 0, none⟩ = some (.int .i64 fr) ∧ w7.cell? ⟨w.heap.size + 1 + 1 + 1 + 1 + 1, 0, none⟩ = some (.int .i64 x)) := by
      have kk : ∀ k, wrV U w k → w7.heap[k]? = w6.heap[k]? := fun k hk => hk7.block k (HV.out k hk)
      exact ⟨(World.cell?_of_block (kk w.heap.size (.inr ⟨by omega, by omega⟩))).trans HSa.out.1, (World.cell?_of_block (kk lb (.inl hUl))).trans HSa.out.2.1, (World.cell?_of_block (kk (w.heap.size + 1) (.inr ⟨by omega, by omega⟩))).trans HSa.out.2.2.1, (World.cell?_of_block (kk (w.heap.size + 1 + 1 + 1 + 1 + 1) (.inr ⟨by omega, by omega⟩))).trans HSa.out.2.2.2⟩
    have Hd7 := Lib.hid hd7
    have Hk7 := Lib.hid hk7
    clear hd7 hk7
    dsimp only
    refine hK.out _ _ ?_ (fun hHeld' => ?_)
    · (first | exact ⟨y0, yl, y1, y9⟩ | exact HSb.out | exact HSa.out)
    clear hK K hHeld
    have hHeld := hHeld'
    clear hHeld'
    simp only [List.set_cons_zero, List.set_cons_succ]
    refine tk 10 12 hHeld ?_
    refine wpAnyH_done (by kernel_rfl) ?_ _
    refine NoPanic.normal ?_
    have hKN : Kept (wrN U w) W w7 := (Kept.of HB6.out (fun k hk => Nat.lt_of_lt_of_le (H1.out k hk) HI.out.kp.size)).trans ⟨Hk7.out.os, Hk7.out.tape, Hk7.out.output, Hk7.out.size, fun k hk => Hk7.out.block k (HV.out k (by
      rcases hk with hk | hk | hk
      · exact .inl hk
      · exact .inr ⟨by omega, by omega⟩
      · exact .inr ⟨by omega, by omega⟩))⟩
    have hI7 : WrI U p q w w1 w7 d7 x 0 := by
      have h9 := HI.out.x9
      rw [Hpl.out] at h9
      exact ⟨Hd7.out.turnU HV.out, HI.out.kp.trans hKN, (Hk7.out.block _ (HV.out _ (.inr ⟨by omega, by omega⟩))).trans (boxed_below HI.out.x8 HB6.out), (Hk7.out.block _ (HV.out _ (.inr ⟨by omega, by omega⟩))).trans (boxed_below h9 HB6.out)⟩
    have hko : KeepsOthers W w7 := (keeps_below HB6.out).trans ⟨Hk7.out.size, fun k o hk ho => (Hk7.out.block k (HN.out k o hk ho)).trans hk⟩
    have hwr : ∀ rest, wrF fr turn b d (pre ++ x :: rest) = if en = 0 then wrF fr turn b d7 rest else (en, d7) := fun rest => by
      rw [wrF_app fr turn b pre (x :: rest) d d' HF.out, wrF]
      have e : d'.write ((fr : Int) + (x : Int)) (secP turn x (needsN b) (chunkN b x)) = (en, d7) := by rw [secP, ← HE.out]; exact Hr0.out.symm
      rw [e]
    have hwrites : d7.writes ≤ d'.writes + 1 := by
      have h := write_writes d' ((fr : Int) + (x : Int)) (seal_ E)
      rw [← Hr0.out] at h
      exact h
    have HKN := Lib.hid hKN
    have HI7 := Lib.hid hI7
    have Hko := Lib.hid hko
    have Hwr := Lib.hid hwr
    have Hwrites := Lib.hid hwrites
    have m8 := hI7.x8.cell
    have n8 := hI7.x8.frozen
    have m9 := hI7.x9.cell
    have n9 := hI7.x9.frozen
    clear hKN hI7 hko hwr hwrites hHeld y0 yl y1 y9 hdw hslt
    by_cases h0 : en = 0
    · have t1 : ((en : Int) != 0) = false := by rw [h0]; rfl
      have H0 := Lib.hid h0
      clear h0
      gi_wp2
      have hf := HI7.out.set9 HD0.out.old (x + 1)
      refine ⟨(Hko.out.trans (KeepsOthers.setCell _ _ _)).from _, ?_, d7, ?_, ?_, ?_⟩
      · have hk : Kept (chK (w.heap.size + 1 + 1 + 1 + 1 + 1 + 1)) W w7 := ⟨HKN.out.os, HKN.out.tape, HKN.out.output, HKN.out.size, fun k hk => HKN.out.block k (by rcases hk with rfl | rfl; exact .inr (.inr ⟨by omega, by omega⟩); exact .inr (.inr ⟨by omega, by omega⟩))⟩
        exact hk.setCell (p := ⟨w.heap.size + 1 + 1 + 1 + 1 + 1, 0, none⟩) (fun h => by rcases h with h | h <;> simp at h) _
      · rw [Hwr.out, if_pos H0.out]; rfl
      · have h1 := Hdw.out
        have h2 := Hwrites.out
        rw [List.length_append, List.length_singleton]
        omega
      · rw [List.length_append, List.length_singleton, Hpl.out]
        exact hf
    · have t1 : ((en : Int) != 0) = true := by rw [bne_iff_ne]; omega
      have H0 := Lib.hid h0
      clear h0
      gi_wp2
      refine ⟨(Hko.out.trans (KeepsOthers.setCell _ _ _)).from _, rfl, en, d7, x, fun rest => ?_, HI7.out.set8 HD0.out.old en⟩
      rw [List.append_assoc]
      show wrF fr turn b d (pre ++ x :: rest) = _
      rw [Hwr.out, if_neg H0.out]
  case done =>
    rintro D xs W hD rfl ⟨d', hF, _, hI⟩ hK
    have c8 := hI.x8.cell
    have f8 := hI.x8.frozen
    have HI := Lib.hid hI
    have HRst : Hid (R = WrPost U p q w (0, d')) := by
      show _ = _
      have e : needsN b = (n + 55) / 56 := by rw [needsN, Hbl.out]
      rw [HR.out, e, hF]
    clear hI hF
    gi_wp2
    have hI2 := HI.out.set8 HD0.out.old 0
    have hK2 : (W.setCell ⟨w.heap.size + 1 + 1 + 1 + 1, 0, none⟩ (.int .i64 (0 : Nat))).heap[D]? = some (.deferred (some [])) := heap_set_other _ hK (by have := Hsz.out; omega)
    have hI3 := hI2.put (.deferred none) hK2 rfl (wrN_gap HD0.out.old (by have := Hsz.out; omega) (.inr (by have := Hsz.out; omega)))
    have z8 : ((W.setCell ⟨w.heap.size + 1 + 1 + 1 + 1, 0, none⟩ (.int .i64 0)).putObj D (.deferred none)).cell? ⟨w.heap.size + 1 + 1 + 1 + 1, 0, none⟩ = some (.int .i64 0) := hI3.x8.cell
    refine ⟨by simp, .inl ⟨_, _, rfl, run_takeDeferred hK2, ?_⟩⟩
    refine ⟨.int .i64 0, by simp [results, Try.results74, go_sem, z8], ?_⟩
    rw [HRst.out]
    exact ⟨rfl, hI3.post HD0.out.old Hb0.out⟩
  case stop =>
    rintro D cd pre W hD ⟨k, hk, rfl⟩ ⟨rfl, e, d', m, hF, hI⟩ hK
    have c8 := hI.x8.cell
    have f8 := hI.x8.frozen
    have HI := Lib.hid hI
    have HRst : Hid (R = WrPost U p q w (e, d')) := by
      show _ = _
      have e : needsN b = (n + 55) / 56 := by rw [needsN, Hbl.out]
      have hsp : List.range ((n + 55) / 56) = List.range (k + 1) ++ (List.range ((n + 55) / 56)).drop (k + 1) := by
        have h := (List.take_append_drop (k + 1) (List.range ((n + 55) / 56))).symm
        rwa [List.take_range, show min (k + 1) ((n + 55) / 56) = k + 1 by omega] at h
      rw [HR.out, e, hsp, hF]
    clear hI hF
    gi_wp2
    have hI3 := HI.out.put (.deferred none) hK rfl (wrN_gap HD0.out.old (by have := Hsz.out; omega) (.inr (by have := Hsz.out; omega)))
    have z8 := hI3.x8.cell
    refine ⟨by simp, .inl ⟨_, _, rfl, run_takeDeferred hK, ?_⟩⟩
    refine ⟨.int .i64 e, by simp [results, Try.results74, go_sem, z8], ?_⟩
    rw [HRst.out]
    exact ⟨rfl, hI3.post HD0.out.old Hb0.out⟩
end Go.Proofs.Ytcdgaeenfhpnkaa
