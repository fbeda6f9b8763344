/- When an operation is right, as a plain fact, of ident and of its reference; no condition. -/
import Derived.Test.YtbbiocmlicoipaaQ1
import Derived.Test.YtbbiocmlicoipaaC2b
namespace Go.Proofs.Ytbbiocmlicoipaa.PC
open Go.RowKit Go.Proofs.YtbbiocmlicoipaaW.PrintWords Go.Proofs.YtbbiocmlicoipaaW.PrintLast Go.Proofs.YtbbiocmlicoipaaW.PrintMore
set_option linter.unusedVariables false
set_option linter.unusedSimpArgs false
def idP (c a : Int) : Prop := 1 ≤ c ∧ c ≤ 4294967295 ∧ 0 ≤ a ∧ a ≤ 4194303
instance (c a : Int) : Decidable (idP c a) := by unfold idP; infer_instance
def chP (c : Int) : Prop := 0 ≤ c ∧ c ≤ 1114111 ∧ (c < 55296 ∨ 57344 ≤ c)
instance (c : Int) : Decidable (chP c) := by unfold chP; infer_instance
def rightP (i0 i1 q : Int) (ins : Bool) (r0 r1 c : Int) : Prop :=
  idP i0 i1 ∧ 1 ≤ q ∧ q ≤ 4294967295 ∧ r0 < i0 ∧ ((ins = true ∧ (idP r0 r1 ∨ r0 = 0 ∧ r1 = 0) ∧ chP c) ∨ (ins = false ∧ idP r0 r1 ∧ c = 0))
instance (i0 i1 q : Int) (ins : Bool) (r0 r1 c : Int) : Decidable (rightP i0 i1 q ins r0 r1 c) := by unfold rightP; infer_instance
theorem some_b {a b : Bool} (h : a = true ↔ b = true) : some a = some b := by rw [Bool.eq_iff_iff.2 h]
theorem some_d {p q : Prop} [Decidable p] [Decidable q] (h : p ↔ q) : some (decide p) = some (decide q) := by rw [decide_eq_decide.2 h]
theorem some_f {q : Prop} [Decidable q] (h : ¬ q) : some false = some (decide q) := by rw [decide_eq_false h]
theorem some_t {q : Prop} [Decidable q] (h : q) : some true = some (decide q) := by rw [decide_eq_true h]
theorem in_f (a b c : Int) : ident_in.f a b c = some (decide (b ≤ a ∧ a ≤ c)) := by
  unfold ident_in.f
  split
  · exact some_d (by omega)
  · exact some_f (by omega)
theorem id_f (c a : Int) : ident_id.f c a = some (decide (idP c a)) := by
  unfold ident_id.f
  rw [in_f, Option.bind_some]
  by_cases h : 1 ≤ c ∧ c ≤ 4294967295
  · rw [if_pos (by simpa using h), in_f, Option.bind_some]
    exact some_d (by unfold idP; omega)
  · rw [if_neg (by simpa using h)]
    exact some_f (by unfold idP; omega)
theorem right_f (k : Nat) (i0 i1 q : Int) (ins : Bool) (r0 r1 c : Int) : ident_Right.f (k + 1) i0 i1 q ins r0 r1 c = some (decide (rightP i0 i1 q ins r0 r1 c)) := by
  unfold ident_Right.f
  have bad : ¬ (idP i0 i1 ∧ 1 ≤ q ∧ q ≤ 4294967295 ∧ r0 < i0) → ident_Right.j0 (k + 1) true i0 i1 q ins r0 r1 c = some (decide (rightP i0 i1 q ins r0 r1 c)) := by
    intro h
    rw [ident_Right.j0, if_pos rfl]
    exact some_f (by rintro ⟨h1, h2, h3, h4, _⟩; exact h ⟨h1, h2, h3, h4⟩)
  have good : (idP i0 i1 ∧ 1 ≤ q ∧ q ≤ 4294967295 ∧ r0 < i0) → ident_Right.j0 (k + 1) false i0 i1 q ins r0 r1 c = some (decide (rightP i0 i1 q ins r0 r1 c)) := by
    intro h
    rw [ident_Right.j0, if_neg (by decide)]
    have red : rightP i0 i1 q ins r0 r1 c ↔ ((ins = true ∧ (idP r0 r1 ∨ r0 = 0 ∧ r1 = 0) ∧ chP c) ∨ (ins = false ∧ idP r0 r1 ∧ c = 0)) := by
      unfold rightP
      exact ⟨fun x => x.2.2.2.2, fun x => ⟨h.1, h.2.1, h.2.2.1, h.2.2.2, x⟩⟩
    have ch : (if c ≥ 0 then (if c ≤ 1114111 then (if c < 55296 then (some true) else (some (decide (c ≥ 57344)))) else (some false)) else (some false)) = some (decide (chP c)) := by
      split
      · split
        · split
          · exact some_t (by unfold chP; omega)
          · exact some_d (by unfold chP; omega)
        · exact some_f (by unfold chP; omega)
      · exact some_f (by unfold chP; omega)
    cases ins
    · rw [if_neg (by decide), id_f, Option.bind_some]
      by_cases h2 : idP r0 r1
      · rw [if_pos (decide_eq_true h2)]
        refine some_b ?_
        rw [decide_eq_true_iff, red]
        simp [h2]
      · rw [if_neg (by simpa using h2)]
        exact some_f (by rw [red]; simp [h2])
    · rw [if_pos rfl, id_f, Option.bind_some]
      by_cases h2 : idP r0 r1
      · rw [if_pos (decide_eq_true h2), ch]
        exact some_d (by rw [red]; simp [h2])
      · rw [if_neg (by simpa using h2)]
        by_cases h3 : r0 = 0 ∧ r1 = 0
        · rw [if_pos (by simpa using h3), ch]
          exact some_d (by rw [red]; simp [h2, h3])
        · rw [if_neg (by simpa using h3)]
          exact some_f (by rw [red]; simp only [h2, h3]; simp)
  rw [id_f, Option.bind_some]
  by_cases h : idP i0 i1
  · rw [if_pos (decide_eq_true h), in_f, Option.bind_some]
    by_cases h2 : 1 ≤ q ∧ q ≤ 4294967295
    · rw [if_pos (decide_eq_true h2)]
      by_cases h3 : r0 ≥ i0
      · rw [decide_eq_true h3]
        exact bad fun x => by omega
      · rw [decide_eq_false h3]
        exact good ⟨h, h2.1, h2.2, by omega⟩
    · rw [if_neg (by simpa using h2)]
      exact bad fun x => by omega
  · rw [if_neg (by simpa using h)]
    exact bad fun x => h x.1
theorem rright_f (c a : Int) : foolscapref12_right.f c a = some (decide (idP c a)) := by
  unfold foolscapref12_right.f
  split
  · split
    · split
      · exact some_d (by unfold idP; omega)
      · exact some_f (by unfold idP; omega)
    · exact some_f (by unfold idP; omega)
  · exact some_f (by unfold idP; omega)
theorem size_f (k : Nat) (c : Int) : ∃ n, foolscapref01_Size.f (k + 1) c = some n ∧ (n > 0 ↔ chP c) := by
  unfold foolscapref01_Size.f
  have bad : ¬ chP c → ∃ n, foolscapref01_Size.j0 (k + 1) c true = some n ∧ (n > 0 ↔ chP c) := fun h => ⟨0, by rw [foolscapref01_Size.j0, if_pos rfl], by simp [h]⟩
  have good : chP c → ∃ n, foolscapref01_Size.j0 (k + 1) c false = some n ∧ (n > 0 ↔ chP c) := fun h => by
    rw [foolscapref01_Size.j0, if_neg (by decide)]
    split
    · exact ⟨_, rfl, by simp [h]⟩
    · split
      · exact ⟨_, rfl, by simp [h]⟩
      · split
        · exact ⟨_, rfl, by simp [h]⟩
        · exact ⟨_, rfl, by simp [h]⟩
  split
  · exact bad (by unfold chP; omega)
  · split
    · exact bad (by unfold chP; omega)
    · split
      · by_cases h : c ≤ 57343
        · rw [decide_eq_true h]; exact bad (by unfold chP; omega)
        · rw [decide_eq_false h]; exact good (by unfold chP; omega)
      · exact good (by unfold chP; omega)
theorem rRight_f (k : Nat) (i0 i1 q : Int) (ins : Bool) (r0 r1 c : Int) : foolscapref12_Right.f (k + 2) i0 i1 q ins r0 r1 c = some (decide (rightP i0 i1 q ins r0 r1 c)) := by
  unfold foolscapref12_Right.f
  have j0 : ∀ b : Bool, (b = true ↔ (idP r0 r1 ∨ ins = true ∧ r0 = 0 ∧ r1 = 0)) → foolscapref12_Right.j0 (k + 2) b i0 i1 q ins r0 r1 c = some (decide (rightP i0 i1 q ins r0 r1 c)) := by
    intro b hb
    rw [foolscapref12_Right.j0]
    cases ins
    · rw [if_neg (by decide), rright_f, Option.bind_some]
      by_cases h1 : idP i0 i1
      · rw [if_pos (decide_eq_true h1)]
        by_cases h2 : q ≥ 1
        · rw [if_pos h2]
          by_cases h3 : q ≤ 4294967295
          · rw [if_pos h3]
            by_cases h4 : b = true
            · rw [if_pos h4]
              by_cases h5 : r0 < i0
              · rw [if_pos h5]
                have h6 : idP r0 r1 := by
                  rcases hb.1 h4 with h | ⟨h, _⟩
                  · exact h
                  · cases h
                refine some_b ?_
                rw [decide_eq_true_iff]
                unfold rightP
                simp [h1, h3, h5, h6]
                omega
              · rw [if_neg h5]; exact some_f (by unfold rightP; simp [h5])
            · rw [if_neg h4]
              refine some_f ?_
              rintro ⟨_, _, _, _, ⟨h, _⟩ | ⟨_, h, _⟩⟩
              · cases h
              · exact h4 (hb.2 (.inl h))
          · rw [if_neg h3]; exact some_f (by unfold rightP; simp [h3])
        · rw [if_neg h2]; exact some_f (by unfold rightP; omega)
      · rw [if_neg (by simpa using h1)]; exact some_f (by unfold rightP; simp [h1])
    · obtain ⟨n, hn, hn2⟩ := size_f k c
      rw [if_pos rfl, hn, Option.bind_some, rright_f, Option.bind_some]
      by_cases h1 : idP i0 i1
      · rw [if_pos (decide_eq_true h1)]
        by_cases h2 : q ≥ 1
        · rw [if_pos h2]
          by_cases h3 : q ≤ 4294967295
          · rw [if_pos h3]
            by_cases h4 : b = true
            · rw [if_pos h4]
              by_cases h5 : r0 < i0
              · rw [if_pos h5]
                have h6 : idP r0 r1 ∨ r0 = 0 ∧ r1 = 0 := by
                  rcases hb.1 h4 with h | ⟨_, h⟩
                  · exact .inl h
                  · exact .inr h
                refine some_d ?_
                rw [hn2]
                unfold rightP
                exact ⟨fun h => ⟨h1, h2, h3, h5, .inl ⟨rfl, h6, h⟩⟩, fun h => by
                  rcases h.2.2.2.2 with h | h
                  · exact h.2.2
                  · cases h.1⟩
              · rw [if_neg h5]; exact some_f (by unfold rightP; simp [h5])
            · rw [if_neg h4]
              refine some_f ?_
              rintro ⟨_, _, _, _, ⟨_, h, _⟩ | ⟨h, _⟩⟩
              · rcases h with h | h
                · exact h4 (hb.2 (.inl h))
                · exact h4 (hb.2 (.inr ⟨rfl, h⟩))
              · cases h
          · rw [if_neg h3]; exact some_f (by unfold rightP; simp [h3])
        · rw [if_neg h2]; exact some_f (by unfold rightP; omega)
      · rw [if_neg (by simpa using h1)]; exact some_f (by unfold rightP; simp [h1])
  rw [rright_f, Option.bind_some]
  by_cases h : idP r0 r1
  · rw [if_pos (decide_eq_true h)]
    exact j0 true (by simp [h])
  · rw [if_neg (by simpa using h)]
    by_cases hi : ins = true
    · rw [if_pos hi]
      exact j0 _ (by simp [h, hi])
    · rw [if_neg hi]
      exact j0 false (by simp [h, hi])
end Go.Proofs.Ytbbiocmlicoipaa.PC
