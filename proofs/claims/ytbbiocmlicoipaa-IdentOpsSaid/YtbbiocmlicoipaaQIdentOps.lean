/- IdentOps comes to true. -/
import Derived.Test.YtbbiocmlicoipaaLIdentOps
import Derived.Test.YtbbiocmlicoipaaQ3
namespace Go.Proofs.Ytbbiocmlicoipaa.PC
open Go.RowKit Go.Proofs.YtbbiocmlicoipaaW.PrintWords Go.Proofs.YtbbiocmlicoipaaW.PrintLast Go.Proofs.YtbbiocmlicoipaaW.PrintMore
set_option linter.unusedVariables false
set_option linter.unusedSimpArgs false
theorem ops_f (i0 i1 q : Int) (ins : Bool) (r0 r1 c : Int) : foolscaplaw12_IdentOps.f 5 i0 i1 q ins r0 r1 c = some true := by
  unfold foolscaplaw12_IdentOps.f
  have hs : foolscaplaw12_shown.f = some true := rfl
  rw [hs, Option.bind_some, right_f 4, Option.bind_some]
  by_cases h : rightP i0 i1 q ins r0 r1 c
  · have h0 := h.1
    unfold idP at h0
    rw [if_pos (decide_eq_true h), if_pos rfl, right_f 4, Option.bind_some, if_neg (by rw [decide_eq_true_iff]; unfold rightP; omega), right_f 4, Option.bind_some, if_neg (by rw [decide_eq_true_iff]; unfold rightP; omega),
      right_f 4, Option.bind_some, if_neg (by rw [decide_eq_true_iff]; unfold rightP chP; rintro ⟨_, _, _, _, h | h⟩ <;> omega), right_f 4, Option.bind_some, if_neg (by rw [decide_eq_true_iff]; unfold rightP idP; omega), right_f 4, Option.bind_some]
    refine some_b (b := true) ?_
    have h5 := h.2.2.2.2
    simp only [beq_iff_eq, iff_true]
    rw [Bool.eq_iff_iff, decide_eq_true_iff]
    have e : rightP i0 i1 q false r0 r1 0 ↔ idP r0 r1 := by
      unfold rightP
      exact ⟨fun x => by rcases x.2.2.2.2 with y | y; (cases y.1); exact y.2.1, fun x => ⟨h.1, h.2.1, h.2.2.1, h.2.2.2.1, .inr ⟨rfl, x, rfl⟩⟩⟩
    rw [e]
    constructor
    · intro hx
      unfold idP at hx
      have : r0 ≠ 0 := by omega
      simp [this]
    · intro hx
      have hz : ¬ (r0 = 0 ∧ r1 = 0) := by
        rintro ⟨a, b⟩
        rw [a, b] at hx
        simp at hx
      rcases h5 with ⟨_, h6 | h6, _⟩ | ⟨_, h6, _⟩
      · exact h6
      · exact absurd h6 hz
      · exact h6
  · rw [if_neg (by simpa using h)]
theorem ops_row (i0 i1 q : Int) (ins : Bool) (r0 r1 c : Int) (w : World) (_ : (Lit.int .i64 i0).wf = true) (_ : (Lit.int .i64 i1).wf = true) (_ : (Lit.int .i64 q).wf = true) (_ : (Lit.int .i64 r0).wf = true) (_ : (Lit.int .i64 r1).wf = true) (_ : (Lit.int .i32 c).wf = true) :
    Calls Try.prog 10 #[.agg #[.int .i64 i0, .int .i64 i1, .int .i64 q, .bool ins, .int .i64 r0, .int .i64 r1, .int .i32 c]] w fun e w' => e = .returned (.bool true) ∧ Below w.heap.size w w' :=
  foolscaplaw12_IdentOps.calls 5 i0 i1 q ins r0 r1 c true w rfl (ops_f i0 i1 q ins r0 r1 c)
end Go.Proofs.Ytbbiocmlicoipaa.PC
