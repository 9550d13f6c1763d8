/- The live question ahead of each statement on sums is answered as it says. -/
import Derived.Test.YtdbibnojeefbpaaCrcC
set_option linter.unusedVariables false
set_option linter.unusedSimpArgs false
set_option maxRecDepth 100000
namespace Go.Proofs.Ytdbibnojeefbpaa
open Go Go.RowKit CrcMath

def d19 : List Nat := [49, 50, 51, 52, 53, 54, 55, 56, 57]
def s19 : List Nat := [49, 50, 51, 52, 53, 54, 55, 56, 57, 55, 75]
theorem sum_d19 : sum d19 = 19255 := by decide +kernel
theorem seal_d19 : seal_ d19 = s19 := by decide +kernel
theorem opens_s19 : opens s19 = true := by decide +kernel
theorem sum_nil : sum [] = 65535 := rfl

theorem rd_d19 (w : World) (e : TypeId) (fr : Nat × Nat) : Rd (w.alloc (.cells #[.int .u8 49, .int .u8 50, .int .u8 51, .int .u8 52, .int .u8 53, .int .u8 54, .int .u8 55, .int .u8 56, .int .u8 57] e fr)) (w.heap.size + 1) 1 (some ⟨w.heap.size, 0, none⟩) 9 (d19.map bv) :=
  rd_new w (d19.map bv) e 9 9 rfl fr

theorem rd_d19b (w : World) (o : Obj) (e : TypeId) (fr : Nat × Nat) : Rd ((w.alloc o).alloc (.cells #[.int .u8 49, .int .u8 50, .int .u8 51, .int .u8 52, .int .u8 53, .int .u8 54, .int .u8 55, .int .u8 56, .int .u8 57] e fr)) (w.heap.size + 2) 1 (some ⟨w.heap.size + 1, 0, none⟩) 9 (d19.map bv) := by
  have := rd_d19 (w.alloc o) e fr
  rw [World.size_alloc] at this
  exact this

set_option maxHeartbeats 2000000 in
theorem head_any (w : World) :
    Calls Try.prog 9 #[] w fun e w' => e = .returned (.bool true) ∧ Below w.heap.size w w' := by
  have hd : ∀ c ∈ d19, c < 256 := by decide
  have hs : ∀ c ∈ s19, c < 256 := by decide
  have hbs : (bstr d19).toList = [49, 50, 51, 52, 53, 54, 55, 56, 57] := by rw [bstr_toList]; decide
  have kc := fun (w : World) (C : Array Value) (n c : Nat) => Lib.run_convert_bytes_const (P := Try.prog) w 22 5 C n c Try.underlying22 Try.underlying5
  have kc2 : ∀ (W : World) (o : Obj) (C : Array Value) (n c : Nat), Sem.run Try.prog (convert 22 22 (.slice (some ⟨W.heap.size + 1, 0, none⟩) n c)) ((W.alloc o).alloc (.cells C 5)) =
      .ok (.slice (some ⟨W.heap.size + 1, 0, none⟩) n c) ((W.alloc o).alloc (.cells C 5 (C.size, C.size + 1))) := fun W o C n c => by
    have := kc (W.alloc o) C n c
    rwa [World.size_alloc] at this
  go_enter Try.func9, Try.ntmps9
  go_wp2_with (first
    | (go_at_call 14; (with_reducible refine (seal_any _ 9 _ _ d19 _ (rd_d19 w _ _) (by simp) hd (by omega)).mono ?_)
       rintro e w1 ⟨A1, c1, rfl, hown1, hb1⟩
       rw [seal_d19] at hown1
       have hr1 : Rd w1 w1.heap.size 1 A1 11 (s19.map bv) := Rd.of_own hown1
       have hcap1 : 11 ≤ c1 := own_cap hown1
       obtain ⟨_, g, rfl, hg1, hg2, hcell, _⟩ := own_some hown1 (by omega)
       have hsz1 := hb1.size
       simp only [World.size_alloc] at hsz1
       have hbw1 : Below w.heap.size w w1 := ((Below.refl _ _).alloc (Nat.le_refl _) _).trans (hb1.mono (by simp))
       have hc9 := hcell 9 (.int .u8 55) rfl
       have hc10 := hcell 10 (.int .u8 75) rfl
       clear hcell hb1 hown1)
    | (go_at_call 10; (with_reducible refine (open_any _ 11 c1 _ s19 _ hr1 (Nat.le_refl _) hs (by omega) hcap1).mono ?_)
       rintro e w2 ⟨A2, n2, c2, he, hown2, hb2⟩
       rw [opens_s19] at he
       have hown2' : w2.ownsRow w1.heap.size 5 1 (.slice A2 n2 c2) n2 (d19.map bv) := hown2
       have hn2 := own_len hown2'
       obtain rfl : n2 = 9 := hn2
       subst he
       have hr2 := Rd.of_own hown2'
       have hsz2 := hb2.size
       have hbw2 := hbw1.trans (hb2.mono (by omega))
       have hc9' := (hb2.cell (p := ⟨g, 9, none⟩) hg2).trans hc9
       have hc10' := (hb2.cell (p := ⟨g, 10, none⟩) hg2).trans hc10
       clear hb2 hown2 hown2' hc9 hc10)
    | (go_at_call 10; (with_reducible refine (open_short _ 1 _ _ (by omega)).mono ?_)
       rintro e w3 ⟨rfl, rfl⟩)
    | (go_at_call 12; (with_reducible refine (sum_any _ 9 _ _ d19 _ (rd_d19b w2 _ _ _) (by simp) hd (by omega)).mono ?_)
       rintro e w4 ⟨he, hb4⟩
       rw [sum_d19] at he
       subst he
       simp only [World.size_alloc] at hb4
       have hsz4 := hb4.size
       simp only [World.size_alloc] at hsz4
       have hb24 : Below w2.heap.size w2 _ := (((Below.refl _ _).alloc (Nat.le_refl _) _).alloc (by simp) _).trans (hb4.mono (by omega))
       have hc9'' := (hb24.cell (p := ⟨g, 9, none⟩) (by simp; omega)).trans hc9'
       have hc10'' := (hb24.cell (p := ⟨g, 10, none⟩) (by simp; omega)).trans hc10'
       have hr4 := hr2.below hb24
       have hbw4 := hbw2.trans (hb24.mono (by omega))
       clear hb4 hb24 hc9' hc10' hr2)
    | (go_at_call 12; (with_reducible refine (sum_any _ 0 _ _ [] _ (Rd.nil_ _ _ _ _) (Nat.le_refl _) (by simp) (by omega)).mono ?_)
       rintro e w5 ⟨he, hb5⟩
       rw [sum_nil] at he
       subst he
       have hc9z := (hb5.cell (p := ⟨g, 9, none⟩) (by simp; omega)).trans hc9''
       have hc10z := (hb5.cell (p := ⟨g, 10, none⟩) (by simp; omega)).trans hc10''
       have hr5 := hr4.below (hb5.mono (by omega))
       have hst := run_str (P := Try.prog) hr5 (c := c2) 22 9 5 Try.underlying22 Try.underlying5 Try.underlying9
       have hbw5 := hbw4.trans (hb5.mono (by omega))
       clear hb5 hr4 hc9'' hc10''))
  go_ret
  exact ⟨rfl, hbw5⟩
end Go.Proofs.Ytdbibnojeefbpaa
