/- IdentTells comes to true. -/
import Derived.Test.YtbbiocmlicoipaaLIdentTells
import Derived.Test.YtbbiocmlicoipaaQ3
namespace Go.Proofs.Ytbbiocmlicoipaa.PC
open Go.RowKit Go.Proofs.YtbbiocmlicoipaaW.PrintWords Go.Proofs.YtbbiocmlicoipaaW.PrintLast Go.Proofs.YtbbiocmlicoipaaW.PrintMore
set_option linter.unusedVariables false
set_option linter.unusedSimpArgs false
theorem author_f (a b : Int) : ∃ x o, ident_Author.f a b = some (x, o) ∧ foolscapref12_Author.f a b = some (x, o) := by
  unfold ident_Author.f foolscapref12_Author.f
  rw [in_f, Option.bind_some]
  by_cases h1 : 0 ≤ a ∧ a ≤ 63
  · rw [if_pos (decide_eq_true h1), in_f, Option.bind_some, if_neg (show ¬ a < 0 by omega), if_neg (show ¬ a > 63 by omega)]
    by_cases h2 : 0 ≤ b ∧ b ≤ 65535
    · rw [if_pos (decide_eq_true h2), if_neg (show ¬ b < 0 by omega), if_neg (show ¬ b > 65535 by omega)]
      exact ⟨_, _, rfl, by rw [Int.mul_comm]⟩
    · rw [if_neg (by simpa using h2)]
      by_cases h3 : b < 0
      · rw [if_pos h3]; exact ⟨_, _, rfl, rfl⟩
      · rw [if_neg h3, if_pos (by omega)]; exact ⟨_, _, rfl, rfl⟩
  · rw [if_neg (by simpa using h1)]
    by_cases h3 : a < 0
    · rw [if_pos h3]; exact ⟨_, _, rfl, rfl⟩
    · rw [if_neg h3, if_pos (by omega)]; exact ⟨_, _, rfl, rfl⟩
theorem parts_f (n : Int) : ∃ x y o, ident_Parts.f n = some (x, y, o) ∧ foolscapref12_Parts.f n = some (x, y, o) := by
  unfold ident_Parts.f foolscapref12_Parts.f
  rw [in_f, Option.bind_some]
  by_cases h1 : 0 ≤ n ∧ n ≤ 4194303
  · rw [if_pos (decide_eq_true h1), if_neg (show ¬ n < 0 by omega), if_neg (show ¬ n ≥ 4194304 by omega)]
    exact ⟨_, _, _, rfl, rfl⟩
  · rw [if_neg (by simpa using h1)]
    by_cases h3 : n < 0
    · rw [if_pos h3]; exact ⟨_, _, _, rfl, rfl⟩
    · rw [if_neg h3, if_pos (by omega)]; exact ⟨_, _, _, rfl, rfl⟩
theorem rless_f (a b c d : Int) : foolscapref12_Less.f a b c d = some (lessB a b c d) := by
  unfold foolscapref12_Less.f lessB
  split
  · exact some_t (by omega)
  · split
    · exact some_d (by omega)
    · exact some_f (by omega)
theorem tells_f (a0 a1 : Int) (b0 b1 c0 c1 i0 i1 q : Int) (ins : Bool) (r0 r1 c : Int) : foolscaplaw12_IdentTells.f 5 a0 a1 b0 b1 c0 c1 i0 i1 q ins r0 r1 c = some true := by
  unfold foolscaplaw12_IdentTells.f
  have hs : foolscaplaw12_shown.f = some true := rfl
  obtain ⟨x, o, e1, e2⟩ := author_f a0 a1
  obtain ⟨y, z, p, e3, e4⟩ := parts_f a1
  rw [hs, Option.bind_some, e1, Option.bind_some, e2, Option.bind_some, e3, Option.bind_some, e4, Option.bind_some, if_pos rfl, if_pos rfl, if_pos (beq_self_eq_true _), if_pos rfl, if_pos rfl, if_pos (beq_self_eq_true _),
    less_f 2, Option.bind_some, rless_f, Option.bind_some, if_pos (beq_self_eq_true _), right_f 4, Option.bind_some, rRight_f 3, Option.bind_some, beq_self_eq_true]
theorem tells_row (a0 a1 : Int) (b0 b1 c0 c1 i0 i1 q : Int) (ins : Bool) (r0 r1 c : Int) (w : World) (_ : (Lit.int .i64 a0).wf = true) (_ : (Lit.int .i64 a1).wf = true) (_ : (Lit.int .i64 b0).wf = true) (_ : (Lit.int .i64 b1).wf = true) (_ : (Lit.int .i64 c0).wf = true) (_ : (Lit.int .i64 c1).wf = true)
    (_ : (Lit.int .i64 i0).wf = true) (_ : (Lit.int .i64 i1).wf = true) (_ : (Lit.int .i64 q).wf = true) (_ : (Lit.int .i64 r0).wf = true) (_ : (Lit.int .i64 r1).wf = true) (_ : (Lit.int .i32 c).wf = true) :
    Calls Try.prog 12 #[.int .i64 a0, .int .i64 a1, .agg #[.int .i64 b0, .int .i64 b1], .agg #[.int .i64 c0, .int .i64 c1], .agg #[.int .i64 i0, .int .i64 i1, .int .i64 q, .bool ins, .int .i64 r0, .int .i64 r1, .int .i32 c]] w fun e w' => e = .returned (.bool true) ∧ Below w.heap.size w w' :=
  foolscaplaw12_IdentTells.calls 5 a0 a1 b0 b1 c0 c1 i0 i1 q ins r0 r1 c true w rfl (tells_f a0 a1 b0 b1 c0 c1 i0 i1 q ins r0 r1 c)
end Go.Proofs.Ytbbiocmlicoipaa.PC
