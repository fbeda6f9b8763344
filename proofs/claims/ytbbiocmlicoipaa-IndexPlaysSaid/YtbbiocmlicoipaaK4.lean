/- Rows of elements of one cell; what may have changed beside a set of blocks; over any program; no condition. -/
import Derived.Test.YtbbiocmlicoipaaK1
namespace Go.Proofs.Ytbbiocmlicoipaa.K
open Go.RowKit
set_option linter.unusedVariables false
def SRow1 (w : World) (e : TypeId) (q : Prop) (v : Value) (n : Nat) (xs : List Value) : Prop :=
  xs.length = n ∧ ((v = .slice none 0 0 ∧ n = 0) ∨
    ∃ g cap cur, v = .slice (some ⟨g, 0, none⟩) n cap ∧ w.heap[g]? = some (.cells cur e (0, 0)) ∧ n ≤ cap ∧ cap ≤ maxLen ∧ cap ≤ cur.size ∧ (q → cap = cur.size) ∧ cur.toList.take n = xs)
theorem srow1 {w : World} {e : TypeId} {q : Prop} {v : Value} {n : Nat} {xs : List Value} : SRow w e 1 q v n xs ↔ SRow1 w e q v n xs := by
  unfold SRow SRow1
  simp only [Nat.mul_one]
end Go.Proofs.Ytbbiocmlicoipaa.K
