/- Rows of bytes of characters, cut anywhere, as plain functions on lists; no condition. -/
import Derived.Test.YtdbpeaadnhiekaaUPlain
namespace Go.Proofs.Ytdbpeaadnhiekaa.U
set_option linter.unusedVariables false

theorem eb_cont {c : Int} (h : okc c = true) (m : Nat) (h0 : 1 ≤ m) (hm : m < (eb c).length) : ∃ b t, (eb c).drop m = b :: t ∧ 128 ≤ b ∧ b ≤ 191 := by
  have hc := (okc_iff c).1 h
  by_cases h1 : c ≤ 127
  · unfold eb at hm; rw [if_pos h1] at hm; simp at hm; omega
  by_cases h2 : c ≤ 2047
  · rw [eb2 (by omega) h2] at hm ⊢
    obtain rfl : m = 1 := by simp at hm; omega
    exact ⟨_, _, rfl, by omega, by omega⟩
  by_cases h3 : c ≤ 65535
  · rw [eb3 (by omega) h3] at hm ⊢
    have : m = 1 ∨ m = 2 := by simp at hm; omega
    rcases this with rfl | rfl
    · exact ⟨_, _, rfl, by omega, by omega⟩
    · exact ⟨_, _, rfl, by omega, by omega⟩
  · rw [eb4 (by omega)] at hm ⊢
    have : m = 1 ∨ m = 2 ∨ m = 3 := by simp at hm; omega
    rcases this with rfl | rfl | rfl
    · exact ⟨_, _, rfl, by omega, by omega⟩
    · exact ⟨_, _, rfl, by omega, by omega⟩
    · exact ⟨_, _, rfl, by omega, by omega⟩
/-- Whoever begins inside of what is whole is no beginning. -/
theorem no_begin {a : List Int} (ha : okl a = true) (p : List Int) : ∀ m, m < (ebs a).length → (fst ((ebs a).drop m ++ p)).2.2 ≠ 6 := by
  induction a with
  | nil => intro m h; simp [ebs] at h
  | cons c a ih =>
    rw [okl_cons] at ha
    intro m hm
    have e : ebs (c :: a) = eb c ++ ebs a := rfl
    rw [e] at hm ⊢
    rw [List.length_append] at hm
    by_cases h0 : m = 0
    · subst h0
      rw [List.drop_zero, List.append_assoc, fst_eb ha.1]
      simp
    by_cases h1 : m < (eb c).length
    · obtain ⟨b, t, hd, h2, h3⟩ := eb_cont ha.1 m (by omega) h1
      rw [List.drop_append_of_le_length (by omega), hd]
      simp only [List.cons_append, fst]
      rw [if_neg (by omega), if_pos (by omega)]
      simp
    · rw [List.drop_append, List.drop_of_length_le (l := eb c) (by omega), List.nil_append]
      exact ih ha.2 (m - (eb c).length) (by omega)
theorem split_at {a : List Int} : ∀ q, q ≤ (ebs a).length → ∃ a1 a2, a = a1 ++ a2 ∧ (ebs a1).length ≤ q ∧ (q = (ebs a1).length ∨ ∃ c r, a2 = c :: r ∧ q < (ebs a1).length + (eb c).length) := by
  induction a with
  | nil => intro q h; exact ⟨[], [], rfl, by simp [ebs], .inl (by simp [ebs] at h ⊢; exact h)⟩
  | cons c a ih =>
    intro q h
    have e : ebs (c :: a) = eb c ++ ebs a := rfl
    by_cases h1 : q < (eb c).length
    · exact ⟨[], c :: a, rfl, by simp [ebs], .inr ⟨c, a, rfl, by simp [ebs]; exact h1⟩⟩
    · rw [e, List.length_append] at h
      obtain ⟨a1, a2, h2, h3, h4⟩ := ih (q - (eb c).length) (by omega)
      refine ⟨c :: a1, a2, by rw [h2]; rfl, ?_, ?_⟩
      · show (eb c ++ ebs a1).length ≤ q
        rw [List.length_append]; omega
      · have e2 : (ebs (c :: a1)).length = (eb c).length + (ebs a1).length := by show (eb c ++ ebs a1).length = _; rw [List.length_append]
        rcases h4 with h4 | ⟨d, r, h5, h6⟩
        · left; omega
        · right; exact ⟨d, r, h5, by omega⟩
theorem tlF_of {l : List Int} (j : Nat) (hj : j = 0 ∨ (fst (l.drop (l.length - j))).2.2 = 6) : ∀ n, j ≤ n → (∀ m, j < m → m ≤ n → (fst (l.drop (l.length - m))).2.2 ≠ 6) → tlF l n = (j : Int) := by
  intro n
  induction n with
  | zero =>
    intro h _
    have hz : j = 0 := by omega
    rw [hz]
    rfl
  | succ n ih =>
    intro h hm
    simp only [tlF]
    by_cases e : j = n + 1
    · subst e
      rcases hj with hj | hj
      · omega
      · rw [if_pos hj]
    · rw [if_neg (hm (n + 1) (by omega) (by omega))]
      exact ih (by omega) fun m h1 h2 => hm m h1 (by omega)
/-- Bytes of characters, cut: the tail is what is begun. -/
theorem parts_cut {a : List Int} (ha : okl a = true) (q : Nat) (hq : q ≤ (ebs a).length) : ∃ (a1 a2 : List Int) (t : Nat), a = a1 ++ a2 ∧ tl ((ebs a).take q) = (t : Int) ∧ t ≤ 3 ∧ t ≤ q ∧ (ebs a).take (q - t) = ebs a1 ∧ (ebs a).drop (q - t) = ebs a2 := by
  obtain ⟨a1, a2, h1, h2, h3⟩ := split_at q hq
  subst h1
  rw [okl_append] at ha
  have e : ebs (a1 ++ a2) = ebs a1 ++ ebs a2 := ebs_append _ _
  have key : ∀ (t : Nat) (p : List Int), q = (ebs a1).length + t → p.length = t → t ≤ 3 → (ebs a2).take t = p → (t = 0 ∨ (fst p).2.2 = 6) → tl ((ebs (a1 ++ a2)).take q) = (t : Int) := by
    intro t p hqt hp ht h4 h5
    have e3 : (ebs (a1 ++ a2)).take q = ebs a1 ++ p := by
      rw [e, hqt, List.take_length_add_append, h4]
    rw [e3]
    unfold tl
    have hl : (ebs a1 ++ p).length = (ebs a1).length + t := by rw [List.length_append, hp]
    apply tlF_of
    · rcases h5 with h5 | h5
      · exact .inl h5
      · right
        rw [hl, Nat.add_sub_cancel, List.drop_left]
        exact h5
    · rw [hl]; omega
    · intro m h6 h7
      rw [hl] at h7 ⊢
      rw [show (ebs a1).length + t - m = (ebs a1).length - (m - t) by omega, List.drop_append_of_le_length (by omega)]
      exact no_begin ha.1 p _ (by omega)
  rcases h3 with h3 | ⟨c, r, h3, h4⟩
  · refine ⟨a1, a2, 0, rfl, key 0 [] h3 rfl (by decide) (by simp) (.inl rfl), by decide, by omega, ?_, ?_⟩
    · rw [e, h3, Nat.sub_zero, List.take_left]
    · rw [e, h3, Nat.sub_zero, List.drop_left]
  · by_cases h5 : q = (ebs a1).length
    · refine ⟨a1, a2, 0, rfl, key 0 [] h5 rfl (by decide) (by simp) (.inl rfl), by decide, by omega, ?_, ?_⟩
      · rw [e, h5, Nat.sub_zero, List.take_left]
      · rw [e, h5, Nat.sub_zero, List.drop_left]
    · have hc : okc c = true := by
        have := ha.2
        rw [h3, okl_cons] at this
        exact this.1
      have hl := eb_len c
      have e4 : (ebs a2).take (q - (ebs a1).length) = (eb c).take (q - (ebs a1).length) := by
        rw [h3]
        show (eb c ++ ebs r).take _ = _
        rw [List.take_append_of_le_length (by omega)]
      refine ⟨a1, a2, q - (ebs a1).length, rfl, key _ _ (by omega) (by rw [List.length_take]; omega) (by omega) e4 (.inr ?_), by omega, by omega, ?_, ?_⟩
      · rw [fst_cut hc _ (by omega) (by omega)]
      · rw [e, show q - (q - (ebs a1).length) = (ebs a1).length by omega, List.take_left]
      · rw [e, show q - (q - (ebs a1).length) = (ebs a1).length by omega, List.drop_left]
end Go.Proofs.Ytdbpeaadnhiekaa.U
