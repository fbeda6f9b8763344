/- Blocks of marks, as plain lists; no condition. -/
import Derived.RowKit
namespace Go.Proofs.Ytbbiocmlicoipaa.IX
open Go.RowKit
set_option linter.unusedVariables false
/-- A block of an index: where it lies, the slice of its marks, and the marks. -/
structure Blk where
  b : Nat
  v : Value
  ms : List Bool
def marks (L : List Blk) : List Bool := L.flatMap Blk.ms
def cn (l : List Bool) : Nat := l.count true
theorem marks_nil : marks [] = [] := rfl
theorem marks_cons (x : Blk) (L : List Blk) : marks (x :: L) = x.ms ++ marks L := rfl
theorem marks_app (A B : List Blk) : marks (A ++ B) = marks A ++ marks B := List.flatMap_append
theorem cn_app (a b : List Bool) : cn (a ++ b) = cn a + cn b := List.count_append
theorem cn_le (l : List Bool) : cn l ≤ l.length := List.count_le_length
theorem cn_cons (x : Bool) (l : List Bool) : cn (x :: l) = (if x = true then 1 else 0) + cn l := by
  unfold cn
  rw [List.count_cons]
  cases x <;> simp <;> omega
theorem cn_take_succ (l : List Bool) (i : Nat) (h : i < l.length) : cn (l.take (i + 1)) = cn (l.take i) + (if l[i] = true then 1 else 0) := by
  rw [← List.take_append_getElem h, cn_app, cn_cons]
  simp [cn]
theorem marks_take_succ (L : List Blk) (i : Nat) (h : i < L.length) : marks (L.take (i + 1)) = marks (L.take i) ++ L[i].ms := by
  rw [← List.take_append_getElem h, marks_app, marks_cons, marks_nil, List.append_nil]
theorem split_at (L : List Blk) (i : Nat) (h : i < L.length) : L = L.take i ++ L[i] :: L.drop (i + 1) := by
  rw [← List.drop_eq_getElem_cons h, List.take_append_drop]
theorem marks_len_take (L : List Blk) (i : Nat) : (marks (L.take i)).length ≤ (marks L).length := by
  conv => rhs; rw [← List.take_append_drop i L, marks_app, List.length_append]
  omega
/-- Which place is the k-th that is seen. -/
def sel : List Bool → Nat → Option Nat
  | [], _ => none
  | true :: l, 0 => some 0
  | true :: l, k + 1 => (sel l k).map (· + 1)
  | false :: l, k => (sel l k).map (· + 1)
theorem sel_app (a b : List Bool) (k : Nat) : sel (a ++ b) k = if k < cn a then sel a k else (sel b (k - cn a)).map (· + a.length) := by
  induction a generalizing k with
  | nil => simp [cn]
  | cons x a ih =>
    rw [List.cons_append, cn_cons]
    cases x
    · simp only [sel, ih, Bool.false_eq_true, if_false, Nat.zero_add]
      split
      · rfl
      · rw [Option.map_map]; congr 1
    · cases k with
      | zero => simp [sel]
      | succ k =>
        simp only [sel, ih, if_true]
        by_cases c : k < cn a
        · rw [if_pos c, if_pos (by omega)]
        · rw [if_neg c, if_neg (by omega), Option.map_map, show k + 1 - (1 + cn a) = k - cn a by omega]; congr 1
theorem sel_none (l : List Bool) (k : Nat) (h : cn l ≤ k) : sel l k = none := by
  induction l generalizing k with
  | nil => rfl
  | cons x l ih =>
    rw [cn_cons] at h
    cases x
    · simp only [sel]; rw [ih k (by simpa using h)]; rfl
    · cases k with
      | zero => simp at h
      | succ k => simp only [sel]; rw [ih k (by simp at h; omega)]; rfl
theorem sel_some (l : List Bool) (k : Nat) (h : k < cn l) : ∃ i, sel l k = some i ∧ i < l.length ∧ l[i]? = some true ∧ cn (l.take i) = k := by
  induction l generalizing k with
  | nil => simp [cn] at h
  | cons x l ih =>
    rw [cn_cons] at h
    cases x
    · obtain ⟨i, h1, h2, h3, h4⟩ := ih k (by simpa using h)
      exact ⟨i + 1, by simp [sel, h1], by simp; omega, by simpa using h3, by rw [List.take_succ_cons, cn_cons, h4]; simp⟩
    · cases k with
      | zero => exact ⟨0, rfl, by simp, rfl, rfl⟩
      | succ k =>
        obtain ⟨i, h1, h2, h3, h4⟩ := ih k (by simp at h; omega)
        exact ⟨i + 1, by simp [sel, h1], by simp; omega, by simpa using h3, by rw [List.take_succ_cons, cn_cons, h4]; simp; omega⟩
end Go.Proofs.Ytbbiocmlicoipaa.IX
