/- Panels: See, Ack, Reset, Silence, Test. -/
import Derived.Test.YtphghclkfbhagaaPanelB
set_option linter.unusedVariables false
set_option linter.unusedSimpArgs false
set_option maxRecDepth 100000
namespace Go.Proofs.Ytphghclkfbhagaa
open Go Go.RowKit

/-- a slice that lies in blocks that U names -/
def RdU (U : Nat → Prop) (w : World) (A : Option Addr) (n : Nat) (xs : List Value) : Prop :=
  xs.length = n ∧ (0 < n → ∃ b o, A = some ⟨b, o, none⟩ ∧ U b ∧ ∀ j u, xs[j]? = some u → w.cell? ⟨b, o + j, none⟩ = some u)
theorem RdU.kept {U : Nat → Prop} {w w' : World} {A : Option Addr} {n : Nat} {xs : List Value} (h : RdU U w A n xs) (hk : Kept U w w') : RdU U w' A n xs :=
  ⟨h.1, fun hn => by
    obtain ⟨b, o, e, hb, hc⟩ := h.2 hn
    exact ⟨b, o, e, hb, fun j u hu => (World.cell?_of_block (hk.block b hb)).trans (hc j u hu)⟩⟩
theorem RdU.mono {U U' : Nat → Prop} {w : World} {A : Option Addr} {n : Nat} {xs : List Value} (h : RdU U w A n xs) (hk : ∀ k, U k → U' k) : RdU U' w A n xs :=
  ⟨h.1, fun hn => by
    obtain ⟨b, o, e, hb, hc⟩ := h.2 hn
    exact ⟨b, o, e, hk b hb, hc⟩⟩
theorem RdU.of {U : Nat → Prop} {w : World} {B : Nat} {A : Option Addr} {n : Nat} {xs : List Value} (h : Rd w B 1 A n xs) (hk : ∀ k, k < B → U k) : RdU U w A n xs :=
  ⟨by have := h.1; omega, fun hn => by
    obtain ⟨b, o, e, hb, hc⟩ := h.2 hn
    exact ⟨b, o, e, hk b hb, hc⟩⟩
def bo (b : Bool) : Value := .bool b
def hapI (b f : Bool) : Int := if b then (if f then 2 else 1) else 3
theorem hapI_ok (b f : Bool) : 1 ≤ hapI b f ∧ hapI b f ≤ 5 := by cases b <;> cases f <;> decide
def PD.each (d : PD) (hap : Nat → Int) : PD := { d with S := (allS d.K hap d.S d.K.length).1 }
def PD.seeH (bs fs : List Bool) (j : Nat) : Int := hapI (bs.getD j false) (fs.getD j false)
def PD.see (d : PD) (bs fs : List Bool) : Bool × PD :=
  if bs.length = d.K.length ∧ fs.length = d.K.length then
    (true, { d.each (PD.seeH bs fs) with silent := if (allS d.K (PD.seeH bs fs) d.S d.K.length).2 then false else d.silent })
  else (false, d)
def PD.ack (d : PD) : PD := d.each fun _ => 4
def PD.reset (d : PD) : PD := d.each fun _ => 5
def PanPost (p q : Nat) (w : World) (r : Bool × PD) (e : Ending) (w' : World) : Prop :=
  e = .returned (.bool r.1) ∧ HP w' p q r.2 ∧ Kept (Off p q w) w w'

theorem ackc_any (v : Value) (w : World) : Calls Try.prog 23 #[v] w fun e w' => e = .returned (.int .i64 4) ∧ w' = w := by
  go_enter Try.func23, Try.ntmps23
  go_wp2_with fail
  go_ret
  exact ⟨rfl, rfl⟩
theorem resetc_any (v : Value) (w : World) : Calls Try.prog 24 #[v] w fun e w' => e = .returned (.int .i64 5) ∧ w' = w := by
  go_enter Try.func24, Try.ntmps24
  go_wp2_with fail
  go_ret
  exact ⟨rfl, rfl⟩
def VoidPost (p q : Nat) (w : World) (d : PD) (e : Ending) (w' : World) : Prop :=
  e = .returned (.tuple #[]) ∧ HP w' p q d ∧ Kept (Off p q w) w w'
theorem all_ack (p q : Nat) (d : PD) (w : World) (h : HP w p q d) :
    Calls Try.prog 22 #[.pointer (some ⟨p, 0, none⟩), .func (.func 23) #[] #[]] w fun e w' =>
      e = .returned (.bool (allS d.K (fun _ => 4) d.S d.K.length).2) ∧ HP w' p q d.ack ∧ Kept (Off p q w) w w' :=
  all_any 23 _ Try.func23 (by kernel_rfl) (by kernel_rfl) #[] (fun _ => 4) p q d w h (fun _ _ => by omega) (fun j _ w1 _ => ackc_any _ w1)
theorem ack_any (p q : Nat) (d : PD) (w : World) (h : HP w p q d) :
    Calls Try.prog 9 #[.pointer (some ⟨p, 0, none⟩)] w (VoidPost p q w d.ack) := by
  have H := Lib.hid h
  clear h
  go_enter Try.func9, Try.ntmps9
  go_wp2_with (first
    | (go_at_call 22
       (with_reducible refine (all_ack p q d _ H.out).mono ?_)
       rintro e w1 ⟨rfl, h1, hk1⟩
       have H1 := Lib.hid h1
       have K1 := Lib.hid hk1
       clear h1 hk1)
    | fail)
  go_end0
  exact ⟨rfl, H1.out, K1.out⟩
theorem all_reset (p q : Nat) (d : PD) (w : World) (h : HP w p q d) :
    Calls Try.prog 22 #[.pointer (some ⟨p, 0, none⟩), .func (.func 24) #[] #[]] w fun e w' =>
      e = .returned (.bool (allS d.K (fun _ => 5) d.S d.K.length).2) ∧ HP w' p q d.reset ∧ Kept (Off p q w) w w' :=
  all_any 24 _ Try.func24 (by kernel_rfl) (by kernel_rfl) #[] (fun _ => 5) p q d w h (fun _ _ => by omega) (fun j _ w1 _ => resetc_any _ w1)
theorem reset_any (p q : Nat) (d : PD) (w : World) (h : HP w p q d) :
    Calls Try.prog 10 #[.pointer (some ⟨p, 0, none⟩)] w (VoidPost p q w d.reset) := by
  have H := Lib.hid h
  clear h
  go_enter Try.func10, Try.ntmps10
  go_wp2_with (first
    | (go_at_call 22
       (with_reducible refine (all_reset p q d _ H.out).mono ?_)
       rintro e w1 ⟨rfl, h1, hk1⟩
       have H1 := Lib.hid h1
       have K1 := Lib.hid hk1
       clear h1 hk1)
    | fail)
  go_end0
  exact ⟨rfl, H1.out, K1.out⟩
end Go.Proofs.Ytphghclkfbhagaa
