/- IdentAuthors comes to true. -/
import Derived.Test.YtbbiocmlicoipaaLIdentAuthors
namespace Go.Proofs.Ytbbiocmlicoipaa.PC
open Go.RowKit
theorem rng (a b : Int) : (a < 0 ∨ (0 ≤ a ∧ ¬ a < 64) ∨ (0 ≤ a ∧ a < 64 ∧ b < 0) ∨ (0 ≤ a ∧ a < 64 ∧ 0 ≤ b ∧ ¬ b < 65536)) ∨ (0 ≤ a ∧ a < 64 ∧ 0 ≤ b ∧ b < 65536) := by omega
theorem authors_row (a b c d n : Int) (w : World) (_ : (Lit.int .i64 a).wf = true) (_ : (Lit.int .i64 b).wf = true) (_ : (Lit.int .i64 c).wf = true) (_ : (Lit.int .i64 d).wf = true) (_ : (Lit.int .i64 n).wf = true) :
    Calls Try.prog 8 #[.int .i64 a, .int .i64 b, .int .i64 c, .int .i64 d, .int .i64 n] w fun e w' => e = .returned (.bool true) ∧ Below w.heap.size w w' := by
  obtain ⟨x, one, h1, hp, hone, hx⟩ : ∃ x one, ident_Author.f a b = some (x, one) ∧ (one = true → ident_Parts.f x = some (a, b, true)) ∧ ((one = true ∧ 0 ≤ a ∧ a < 64 ∧ 0 ≤ b ∧ b < 65536) ∨ (one = false ∧ (a < 0 ∨ (0 ≤ a ∧ ¬ a < 64) ∨ (0 ≤ a ∧ a < 64 ∧ b < 0) ∨ (0 ≤ a ∧ a < 64 ∧ 0 ≤ b ∧ ¬ b < 65536)))) ∧ (one = true → x = a * 65536 + b) := by
    rcases rng a b with h | h
    · exact ⟨0, false, author_out (by omega), (fun h => by cases h), .inr ⟨rfl, h⟩, fun h => by cases h⟩
    · refine ⟨a * 65536 + b, true, author_in h, fun _ => ?_, .inl ⟨rfl, h⟩, fun _ => rfl⟩
      rw [parts_in (by omega), show (a * 65536 + b) / 65536 = a by omega, show (a * 65536 + b) % 65536 = b by omega]
  obtain ⟨y, two, h2, hy⟩ : ∃ y two, ident_Author.f c d = some (y, two) ∧ (two = true → y = c * 65536 + d ∧ 0 ≤ d ∧ d < 65536) := by
    by_cases h : 0 ≤ c ∧ c < 64 ∧ 0 ≤ d ∧ d < 65536
    · exact ⟨_, true, author_in h, fun _ => ⟨rfl, h.2.2⟩⟩
    · exact ⟨_, false, author_out h, fun h => by cases h⟩
  have hxy : one = true → two = true → (x = y ↔ a = c ∧ b = d) := by
    intro h1 h2
    have e1 := hx h1
    have e2 := hy h2
    rcases hone with ⟨_, h⟩ | ⟨h, _⟩
    · omega
    · rw [h] at h1; cases h1
  by_cases hn : 0 ≤ n ∧ n < 4194304
  · exact authors_walk a b c d n x y _ _ _ one two true true w h1 h2 (parts_in hn) (author_in (by omega)) hp hxy (fun _ => ⟨rfl, by omega⟩) hone (.inl ⟨rfl, hn⟩)
  · exact authors_walk a b c d n x y _ _ _ one two false true w h1 h2 (parts_out hn) (author_in (by omega)) hp hxy (fun h => by cases h) hone (.inr ⟨rfl, by omega⟩)
end Go.Proofs.Ytbbiocmlicoipaa.PC
