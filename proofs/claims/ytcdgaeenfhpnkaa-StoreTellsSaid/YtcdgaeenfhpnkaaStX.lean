/- The document's reader of a record, walked. -/
import Derived.Test.YtcdgaeenfhpnkaaStW
set_option linter.unusedVariables false
set_option linter.unusedSimpArgs false
set_option maxRecDepth 100000
namespace Go.Proofs.Ytcdgaeenfhpnkaa
open Go Go.RowKit
attribute [local go_sem] Oper.semAt_some

theorem bstr_inj {a b : List Nat} (ha : ∀ x ∈ a, x < 256) (hb : ∀ x ∈ b, x < 256) (h : bstr a = bstr b) : a = b := by
  unfold bstr at h
  injection h with h
  have h' : a.map UInt8.ofNat = b.map UInt8.ofNat := by simpa using h
  clear h
  induction a generalizing b with
  | nil => cases b with
    | nil => rfl
    | cons y b => simp at h'
  | cons x a ih => cases b with
    | nil => simp at h'
    | cons y b =>
      simp only [List.map_cons, List.cons.injEq] at h'
      have h1 := ha x (by simp)
      have h2 := hb y (by simp)
      have h3 : x = y := by
        have := congrArg UInt8.toNat h'.1
        simp only [UInt8.toNat_ofNat'] at this
        omega
      rw [h3, ih (fun z hz => ha z (List.mem_cons_of_mem _ hz)) (fun z hz => hb z (List.mem_cons_of_mem _ hz)) h'.2]
theorem ref_fin {fn : Func} {tmps : Array Value} {w w' : World} {p u v : Tmp} {b : List Nat} (hf : fn.results = #[.cell p 25, .tmp u, .tmp v]) (hp : tmps.getD p undef = .pointer (some ⟨w.heap.size, 0, none⟩)) (hu : tmps.getD u undef = .slice none 0 0) (hv : tmps.getD v undef = .bool false)
    (hx : w'.heap[w.heap.size]? = some (.cells #[.slice none 0 0, .slice none 0 0, .slice none 0 0] 25)) (hb : Below w.heap.size w w') (hr : readV b = (⟨[], [], []⟩, [], false)) :
    bodyPost Try.prog fn (ReadP w (readV b)) .ret ⟨tmps, []⟩ w' := by
  refine bodyPost_ret (results_ctt hf _ _ w.heap.size #[.slice none 0 0, .slice none 0 0, .slice none 0 0] hp (run_loadVar_row _ w.heap.size 25 25 _ (0, 0) _ hx Try.underlying25 rfl (by kernel_rfl))) rfl ?_
  rw [hr]
  dsimp only
  rw [hu, hv]
  exact ⟨zV, none, 0, 0, rfl, StO.nil_ _ _, World.ownsRow_nil _ _ _ _, rfl, hb⟩
set_option maxHeartbeats 4000000 in
theorem ref_short (A : Option Addr) (n c B : Nat) (b : List Nat) (w : World) (hr : Rd w B 1 A n (b.map bv)) (hb : ∀ x ∈ b, x < 256) (hn : n < 3) :
    Calls Try.prog 11 #[.slice A n c] w (ReadP w (readV b)) := by
  have hll : b.length = n := by have := hr.1; simpa using this
  have Hno : Hid (readV b = (⟨[], [], []⟩, [], false)) := ref_no hb (fun h => by have := h.1.1; omega)
  have hnI : (n : Int) < 3 := by omega
  clear hr hll
  go_enter Try.func11, Try.ntmps11
  go_wp2_with fail
  exact ref_fin rfl rfl rfl rfl (heap_alloc_keep _ (heap_alloc_new w _)) ((al_ w _).trans ((al_ _ _).mono (by rw [World.size_alloc]; omega))) Hno.out
theorem bytes_at {A : Option Addr} {n B : Nat} {b : List Nat} {w : World} (hr : Rd w B 1 A n (b.map bv)) (hn : 0 < n) : ∃ g o, A = some ⟨g, o, none⟩ ∧ g < B ∧ ∀ (i x : Nat), b[i]? = some x → ∀ w', Below B w w' → w'.cell? ⟨g, o + i, none⟩ = some (.int .u8 x) := by
  obtain ⟨g, o, rfl, hg, hc⟩ := hr.2 hn
  refine ⟨g, o, rfl, hg, fun i x hx w' hw => ?_⟩
  have h0 := hc i (bv x) (by rw [List.getElem?_map, hx]; rfl)
  exact (hw.cell (p := ⟨g, o + i, none⟩) hg).trans h0
set_option maxHeartbeats 8000000 in
theorem ref_bad (A : Option Addr) (n c : Nat) (b : List Nat) (w : World) (hr : Rd w w.heap.size 1 A n (b.map bv)) (hb : ∀ x ∈ b, x < 256) (hn : 3 ≤ n) (hn2 : n ≤ 3000) (hno : ¬ refOk b) :
    Calls Try.prog 11 #[.slice A n c] w (ReadP w (readV b)) := by
  have hll : b.length = n := by have := hr.1; simpa using this
  have Hno : Hid (readV b = (⟨[], [], []⟩, [], false)) := ref_no hb (fun h => hno h.1)
  obtain ⟨g, o, rfl, hgl, hby⟩ := bytes_at hr (by omega)
  have get : ∀ i, i < n → b[i]? = some (b.getD i 0) := fun i hi => by rw [List.getD_eq_getElem?_getD, List.getElem?_eq_getElem (by omega)]; rfl
  have lt : ∀ i, i < n → b.getD i 0 < 256 := fun i hi => hb _ (List.mem_of_getElem? (get i hi))
  have c0 := hby 0 _ (get 0 (by omega)) w (Below.refl _ _)
  have c1 := hby 1 _ (get 1 (by omega)) w (Below.refl _ _)
  rw [Nat.add_zero] at c0
  obtain ⟨k, hk⟩ : ∃ k, k = refC b := ⟨_, rfl⟩
  obtain ⟨e, he⟩ : ∃ e, e = refE b := ⟨_, rfl⟩
  have l0 : k < 256 := by rw [hk]; exact lt 0 (by omega)
  have l1 : e < 256 := by rw [he]; exact lt 1 (by omega)
  have hnI : 3 ≤ (n : Int) := by omega
  have hnJ : (n : Int) ≤ 3000 := by omega
  have c0' : w.cell? ⟨g, o, none⟩ = some (.int .u8 k) := by rw [hk]; exact c0
  have c1' : w.cell? ⟨g, o + 1, none⟩ = some (.int .u8 e) := by rw [he]; exact c1
  obtain ⟨at_, hat⟩ : ∃ a, a = refAt b := ⟨_, rfl⟩
  have hat2 : at_ = 2 + 7 * (k + e) + 6 * k := by rw [hat, hk, he]; rfl
  have cases4 : 8 < (k : Int) ∨ ¬ 8 < (k : Int) ∧ 8 < (e : Int) ∨ ¬ 8 < (k : Int) ∧ ¬ 8 < (e : Int) ∧ (n : Int) < (at_ : Int) + 1 ∨
      ¬ 8 < (k : Int) ∧ ¬ 8 < (e : Int) ∧ ¬ (n : Int) < (at_ : Int) + 1 := by omega
  rcases cases4 with h1 | ⟨h1, h2⟩ | ⟨h1, h2, h3⟩ | ⟨h1, h2, h3⟩
  · clear c0 c1 get lt hby hk he hat hno hr hll hat2 hn2 hnJ
    go_enter Try.func11, Try.ntmps11
    go_wp2_with fail
    exact ref_fin rfl rfl rfl rfl (heap_alloc_keep _ (heap_alloc_new w _)) ((al_ w _).trans ((al_ _ _).mono (by rw [World.size_alloc]; omega))) Hno.out
  · clear c0 c1 get lt hby hk he hat hno hr hll hat2 hn2 hnJ
    go_enter Try.func11, Try.ntmps11
    go_wp2_with fail
    exact ref_fin rfl rfl rfl rfl (heap_alloc_keep _ (heap_alloc_new w _)) ((al_ w _).trans ((al_ _ _).mono (by rw [World.size_alloc]; omega))) Hno.out
  · have ha2 : 2 + 7 * ((k : Int) + (e : Int)) + 6 * (k : Int) = (at_ : Int) := by omega
    clear c0 c1 get lt hby hk he hat hno hr hll hat2
    go_enter Try.func11, Try.ntmps11
    go_wp2_with fail
    exact ref_fin rfl rfl rfl rfl (heap_alloc_keep _ (heap_alloc_new w _)) ((al_ w _).trans ((al_ _ _).mono (by rw [World.size_alloc]; omega))) Hno.out
  · have hax : at_ < n := by omega
    have ca := hby at_ _ (get at_ hax) w (Below.refl _ _)
    obtain ⟨m, hm⟩ : ∃ m, m = refN b := ⟨_, rfl⟩
    have lm : m < 256 := by rw [hm]; unfold refN; rw [← hat]; exact lt at_ hax
    have ca' : w.cell? ⟨g, o + at_, none⟩ = some (.int .u8 m) := by rw [hm]; unfold refN; rw [← hat]; exact ca
    have hne : (n : Int) ≠ at_ + 1 + 8 * m := fun h => hno ⟨by omega, by omega, by omega, by omega, by omega⟩
    have ha2 : 2 + 7 * ((k : Int) + (e : Int)) + 6 * (k : Int) = (at_ : Int) := by omega
    have h4 : (at_ : Int) + 1 ≤ n := by omega
    have hne2 : ((n : Int) != (at_ : Int) + 1 + 8 * (m : Int)) = true := by rw [bne_iff_ne]; exact hne
    clear c0 c1 ca get lt hby hk he hat hm hno hr hll h3 hat2 hne
    go_enter Try.func11, Try.ntmps11
    go_wp2_with fail
    exact ref_fin rfl rfl rfl rfl (heap_alloc_keep _ (heap_alloc_new w _)) ((al_ w _).trans ((al_ _ _).mono (by rw [World.size_alloc]; omega))) Hno.out
end Go.Proofs.Ytcdgaeenfhpnkaa
