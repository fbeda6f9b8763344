/- ident's With, Seq, Join, Gap, Covers and the laws' shown, in the form of the printed contracts: of vectors whose authors rise. -/
import Derived.Test.YtbbiocmlicoipaaE6
namespace Go.Proofs.Ytbbiocmlicoipaa.PC
open Go.RowKit Go.Proofs.YtbbiocmlicoipaaW.PrintWords Go.Proofs.YtbbiocmlicoipaaW.PrintLast Go.Proofs.YtbbiocmlicoipaaW.PrintMore Go.Proofs.Ytbbiocmlicoipaa.K Go.Proofs.Ytbbiocmlicoipaa.I
set_option linter.unusedVariables false
set_option linter.unusedSimpArgs false
open Classical in
noncomputable def ident_With.f (l : List S54) (a s : Int) : Option (List S54) := if upS l ∧ l.length ≤ 1000000 then some (wtS l a s) else none
open Classical in
noncomputable def ident_Seq.f (l : List S54) (a : Int) : Option Int := if upS l ∧ l.length ≤ 1000000 then some (sq (ens l) a) else none
open Classical in
noncomputable def ident_Join.f (l m : List S54) : Option (List S54) := if upS l ∧ l.length + m.length ≤ 1000000 then some (joinS l m) else none
open Classical in
noncomputable def ident_Gap.f (l m : List S54) : Option Int := if vec (ens l) ∧ fit (ens m) ∧ l.length ≤ 1000000 ∧ m.length ≤ 1000000 then some (gp (ens l) (ens m)) else none
open Classical in
noncomputable def ident_Covers.f (l m : List S54) : Option Bool := if vec (ens l) ∧ fit (ens m) ∧ l.length ≤ 1000000 ∧ m.length ≤ 1000000 then some (decide (gp (ens l) (ens m) = 0)) else none
def foolscaplaw12_shown.f : Option Bool := some true
theorem ite_some {α : Type} {c : Prop} {_ : Decidable c} {x r : α} (h : (if c then some x else none) = some r) : c ∧ x = r := by
  by_cases hc : c
  · rw [if_pos hc] at h; exact ⟨hc, by injection h⟩
  · rw [if_neg hc] at h; cases h
theorem ident_With.calls (A0 : Option Addr) (c0 : Nat) (l0 : List S54) (a1 a2 : Int) (r : List S54) (w : World) (hr0 : Kd.C k54 w A0 l0.length l0) (hc0 : l0.length ≤ c0) (h : ident_With.f l0 a1 a2 = some r) :
    Calls Try.prog 30 #[.slice A0 l0.length c0, .int .i64 a1, .int .i64 a2] w fun e w' => ∃ v0_ : Value, e = .returned (v0_) ∧ Kd.R k54 54 w' w.heap.size (fun _ => True) v0_ r ∧ Below w.heap.size w w' := by
  obtain ⟨⟨h1, h2⟩, rfl⟩ := ite_some h
  exact with_calls l0 a1 a2 A0 c0 w hr0 h1 h2
theorem ident_Seq.calls (A0 : Option Addr) (c0 : Nat) (l0 : List S54) (a1 : Int) (r : Int) (w : World) (hr0 : Kd.C k54 w A0 l0.length l0) (hc0 : l0.length ≤ c0) (h : ident_Seq.f l0 a1 = some r) :
    Calls Try.prog 31 #[.slice A0 l0.length c0, .int .i64 a1] w fun e w' => e = .returned (.int .i64 r) ∧ Below w.heap.size w w' := by
  obtain ⟨⟨h1, h2⟩, rfl⟩ := ite_some h
  exact seq_calls l0 a1 A0 c0 w hr0 hc0 h1 h2
theorem ident_Join.calls (A0 : Option Addr) (c0 : Nat) (l0 : List S54) (A1 : Option Addr) (c1 : Nat) (l1 : List S54) (r : List S54) (w : World) (hr0 : Kd.C k54 w A0 l0.length l0) (hc0 : l0.length ≤ c0) (hr1 : Kd.C k54 w A1 l1.length l1) (hc1 : l1.length ≤ c1) (h : ident_Join.f l0 l1 = some r) :
    Calls Try.prog 36 #[.slice A0 l0.length c0, .slice A1 l1.length c1] w fun e w' => ∃ v0_ : Value, e = .returned (v0_) ∧ Kd.R k54 54 w' w.heap.size (fun _ => True) v0_ r ∧ Below w.heap.size w w' := by
  obtain ⟨⟨h1, h2⟩, rfl⟩ := ite_some h
  exact join_calls l0 l1 A0 A1 c0 c1 w hr0 h1 hr1 h2
theorem ident_Gap.calls (A0 : Option Addr) (c0 : Nat) (l0 : List S54) (A1 : Option Addr) (c1 : Nat) (l1 : List S54) (r : Int) (w : World) (hr0 : Kd.C k54 w A0 l0.length l0) (hc0 : l0.length ≤ c0) (hr1 : Kd.C k54 w A1 l1.length l1) (hc1 : l1.length ≤ c1) (h : ident_Gap.f l0 l1 = some r) :
    Calls Try.prog 38 #[.slice A0 l0.length c0, .slice A1 l1.length c1] w fun e w' => e = .returned (.int .i64 r) ∧ Below w.heap.size w w' := by
  obtain ⟨⟨h1, h2, h3, h4⟩, rfl⟩ := ite_some h
  exact gap_calls l0 l1 A0 A1 c0 c1 w hr0 hc0 hr1 h1 h2 h3 h4
theorem ident_Covers.calls (A0 : Option Addr) (c0 : Nat) (l0 : List S54) (A1 : Option Addr) (c1 : Nat) (l1 : List S54) (r : Bool) (w : World) (hr0 : Kd.C k54 w A0 l0.length l0) (hc0 : l0.length ≤ c0) (hr1 : Kd.C k54 w A1 l1.length l1) (hc1 : l1.length ≤ c1) (h : ident_Covers.f l0 l1 = some r) :
    Calls Try.prog 37 #[.slice A0 l0.length c0, .slice A1 l1.length c1] w fun e w' => e = .returned (.bool r) ∧ Below w.heap.size w w' := by
  obtain ⟨⟨h1, h2, h3, h4⟩, rfl⟩ := ite_some h
  exact covers_calls l0 l1 A0 A1 c0 c1 w hr0 hc0 hr1 h1 h2 h3 h4
theorem foolscaplaw12_shown.calls (r : Bool) (w : World) (h : foolscaplaw12_shown.f = some r) : Calls Try.prog 27 #[] w fun e w' => e = .returned (.bool r) ∧ Below w.heap.size w w' := by
  obtain rfl : true = r := by injection h
  exact shown12_calls w
end Go.Proofs.Ytbbiocmlicoipaa.PC
