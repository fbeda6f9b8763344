/- IdentOrder comes to true. -/
import Derived.Test.YtbbiocmlicoipaaLIdentOrder
import Derived.Test.YtbbiocmlicoipaaQ1
namespace Go.Proofs.Ytbbiocmlicoipaa.PC
open Go.RowKit Go.Proofs.YtbbiocmlicoipaaW.PrintWords Go.Proofs.YtbbiocmlicoipaaW.PrintLast Go.Proofs.YtbbiocmlicoipaaW.PrintMore
set_option linter.unusedVariables false
set_option linter.unusedSimpArgs false
theorem order_j0 (x8 : Bool) (a b c d e f : Int) (h : x8 = lessB a b c d) : foolscaplaw12_IdentOrder.j0 6 true x8 false a b c d e f = some true := by
  rw [foolscaplaw12_IdentOrder.j0, if_neg (by decide), if_pos rfl]
  by_cases h8 : x8 = true
  · rw [if_pos h8, less_f 2, Option.bind_some]
    by_cases h9 : lessB c d e f = true
    · rw [if_pos h9, less_f 2, Option.bind_some]
      congr 1
      rw [h] at h8
      unfold lessB at h8 h9 ⊢
      rw [decide_eq_true_iff] at h8 h9 ⊢
      omega
    · rw [if_neg h9]
  · rw [if_neg h8]
theorem order_f (a b c d e f : Int) : foolscaplaw12_IdentOrder.f 7 a b c d e f = some true := by
  unfold foolscaplaw12_IdentOrder.f
  have hs : foolscaplaw12_shown.f = some true := rfl
  rw [hs, Option.bind_some, less_f 4, Option.bind_some, less_f 4, Option.bind_some]
  have key := fun x8 h => foolscaplaw12_IdentOrder.mono_l 6 true x8 false a b c d e f true (order_j0 x8 a b c d e f h)
  by_cases h1 : lessB a b c d = true
  · have h2 : lessB c d a b = false := by
      unfold lessB at *
      rw [decide_eq_true_iff] at h1
      rw [decide_eq_false_iff_not]; omega
    have h3 : (a == c && b == d) = false := by
      unfold lessB at h1
      rw [decide_eq_true_iff] at h1
      rw [Bool.eq_false_iff]
      intro h
      simp at h
      omega
    rw [if_pos h1, h2, if_neg (by decide), h3, show (false == true) = false from rfl]
    exact key _ rfl
  · rw [if_neg h1]
    by_cases h2 : lessB c d a b = true
    · have h3 : (a == c && b == d) = false := by
        unfold lessB at h2
        rw [decide_eq_true_iff] at h2
        rw [Bool.eq_false_iff]
        intro h
        simp at h
        omega
      rw [h2, h3, show (false == true) = false from rfl]
      exact key _ rfl
    · have h3 : (a == c && b == d) = true := by
        unfold lessB at h1 h2
        rw [decide_eq_true_iff] at h1 h2
        simp; omega
      rw [Bool.not_eq_true] at h2
      rw [h2, h3, show (true == false) = false from rfl]
      exact key _ rfl
theorem order_row (a b c d e f : Int) (w : World) (_ : (Lit.int .i64 a).wf = true) (_ : (Lit.int .i64 b).wf = true) (_ : (Lit.int .i64 c).wf = true) (_ : (Lit.int .i64 d).wf = true) (_ : (Lit.int .i64 e).wf = true) (_ : (Lit.int .i64 f).wf = true) :
    Calls Try.prog 13 #[.agg #[.int .i64 a, .int .i64 b], .agg #[.int .i64 c, .int .i64 d], .agg #[.int .i64 e, .int .i64 f]] w fun e w' => e = .returned (.bool true) ∧ Below w.heap.size w w' :=
  foolscaplaw12_IdentOrder.calls 7 a b c d e f true w (order_f a b c d e f)
end Go.Proofs.Ytbbiocmlicoipaa.PC
