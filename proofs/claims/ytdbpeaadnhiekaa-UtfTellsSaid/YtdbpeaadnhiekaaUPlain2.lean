/- Beginnings of characters, as plain functions on lists; no condition. -/
import Derived.Test.YtdbpeaadnhiekaaUPlain
namespace Go.Proofs.Ytdbpeaadnhiekaa.U
set_option linter.unusedVariables false

/-! ### What may follow -/
theorem more_back (n : Int) : ∀ (j : Nat) (lo hi v : Int) (r : List Int) (b : Int), more n j lo hi v (r ++ [b]) = (0, 0, 6) → more n j lo hi v r = (0, 0, 6) := by
  intro j
  induction j with
  | zero => intro lo hi v r b h; simp [more] at h
  | succ j ih =>
    intro lo hi v r b h
    cases r with
    | nil => rfl
    | cons a r =>
      simp only [List.cons_append, more] at h ⊢
      by_cases h1 : a < lo
      · rw [if_pos h1] at h; simp at h
      rw [if_neg h1] at h ⊢
      by_cases h2 : hi < a
      · rw [if_pos h2] at h; simp at h
      rw [if_neg h2] at h ⊢
      exact ih _ _ _ _ _ h
def probes : List Int := [128, 143, 144, 159, 160, 191]
theorem more_on (n : Int) : ∀ (j : Nat) (lo hi v : Int) (r : List Int), lo ≤ hi → lo ∈ probes → more n j lo hi v r = (0, 0, 6) →
    ∃ b ∈ probes, more n j lo hi v (r ++ [b]) = (0, 0, 6) ∨ ((more n j lo hi v (r ++ [b])).2.2 = 0 ∧ (more n j lo hi v (r ++ [b])).2.1 = n ∧ r.length + 1 = j) := by
  intro j
  induction j with
  | zero => intro lo hi v r _ _ h; simp [more] at h
  | succ j ih =>
    intro lo hi v r hle hlo h
    cases r with
    | nil =>
      refine ⟨lo, hlo, ?_⟩
      simp only [List.nil_append, more]
      rw [if_neg (by omega), if_neg (by omega)]
      cases j with
      | zero => right; simp [more]
      | succ j => left; rfl
    | cons a r =>
      simp only [more] at h
      by_cases h1 : a < lo
      · rw [if_pos h1] at h; simp at h
      rw [if_neg h1] at h
      by_cases h2 : hi < a
      · rw [if_pos h2] at h; simp at h
      rw [if_neg h2] at h
      obtain ⟨b, hb, hh⟩ := ih 128 191 (v * 64 + a % 64) r (by decide) (by decide) h
      refine ⟨b, hb, ?_⟩
      simp only [List.cons_append, more]
      rw [if_neg h1, if_neg h2]
      rcases hh with hh | ⟨g1, g2, g3⟩
      · exact .inl hh
      · exact .inr ⟨g1, g2, by simp; omega⟩
theorem more_short (n : Int) : ∀ (j : Nat) (lo hi v : Int) (r : List Int), more n j lo hi v r = (0, 0, 6) → r.length < j := by
  intro j
  induction j with
  | zero => intro lo hi v r h; simp [more] at h
  | succ j ih =>
    intro lo hi v r h
    cases r with
    | nil => simp
    | cons a r =>
      simp only [more] at h
      by_cases h1 : a < lo
      · rw [if_pos h1] at h; simp at h
      rw [if_neg h1] at h
      by_cases h2 : hi < a
      · rw [if_pos h2] at h; simp at h
      rw [if_neg h2] at h
      have := ih _ _ _ _ h
      simp; omega
/-- How First goes on behind the first byte. -/
theorem fst_how (a : Int) : (∀ r, fst (a :: r) = (a, 1, 0)) ∨ (∀ r, fst (a :: r) = (0, 0, 2)) ∨
    ∃ (j : Nat) (lo hi v : Int), 1 ≤ j ∧ j ≤ 3 ∧ lo ≤ hi ∧ lo ∈ probes ∧ ∀ r, fst (a :: r) = more ((j : Int) + 1) j lo hi v r := by
  by_cases h1 : a ≤ 127
  · left; intro r; simp only [fst]; rw [if_pos h1]
  by_cases h2 : a < 194
  · right; left; intro r; simp only [fst]; rw [if_neg h1, if_pos h2]
  by_cases h3 : a < 224
  · right; right; refine ⟨1, 128, 191, a - 192, by decide, by decide, by decide, by decide, fun r => ?_⟩
    simp only [fst]; rw [if_neg h1, if_neg h2, if_pos h3]; rfl
  by_cases h4 : a = 224
  · right; right; refine ⟨2, 160, 191, 0, by decide, by decide, by decide, by decide, fun r => ?_⟩
    simp only [fst]; rw [if_neg h1, if_neg h2, if_neg h3, if_pos h4]; rfl
  by_cases h5 : a = 237
  · right; right; refine ⟨2, 128, 159, 13, by decide, by decide, by decide, by decide, fun r => ?_⟩
    simp only [fst]; rw [if_neg h1, if_neg h2, if_neg h3, if_neg h4, if_pos h5]; rfl
  by_cases h6 : a < 240
  · right; right; refine ⟨2, 128, 191, a - 224, by decide, by decide, by decide, by decide, fun r => ?_⟩
    simp only [fst]; rw [if_neg h1, if_neg h2, if_neg h3, if_neg h4, if_neg h5, if_pos h6]; rfl
  by_cases h7 : a = 240
  · right; right; refine ⟨3, 144, 191, 0, by decide, by decide, by decide, by decide, fun r => ?_⟩
    simp only [fst]; rw [if_neg h1, if_neg h2, if_neg h3, if_neg h4, if_neg h5, if_neg h6, if_pos h7]; rfl
  by_cases h8 : a = 244
  · right; right; refine ⟨3, 128, 143, 4, by decide, by decide, by decide, by decide, fun r => ?_⟩
    simp only [fst]; rw [if_neg h1, if_neg h2, if_neg h3, if_neg h4, if_neg h5, if_neg h6, if_neg h7, if_pos h8]; rfl
  by_cases h9 : a < 244
  · right; right; refine ⟨3, 128, 191, a - 240, by decide, by decide, by decide, by decide, fun r => ?_⟩
    simp only [fst]; rw [if_neg h1, if_neg h2, if_neg h3, if_neg h4, if_neg h5, if_neg h6, if_neg h7, if_neg h8, if_pos h9]; rfl
  · right; left; intro r; simp only [fst]; rw [if_neg h1, if_neg h2, if_neg h3, if_neg h4, if_neg h5, if_neg h6, if_neg h7, if_neg h8, if_neg h9]
/-- Is it a beginning? -/
def bg (x : List Int) : Bool := decide ((fst x).2.2 = 6)
/-- Is it a character, whole? -/
def wh (x : List Int) : Int × Bool := if (fst x).2.2 = 0 ∧ (fst x).2.1 = (x.length : Int) then ((fst x).1, true) else (0, false)
theorem bg_iff (x : List Int) : bg x = true ↔ fst x = (0, 0, 6) := by
  unfold bg
  rw [decide_eq_true_iff]
  constructor
  · intro h
    rcases fst_tells x with g | g | g | ⟨_, g⟩
    · omega
    · rw [g] at h; simp at h
    · exact g
    · rw [g] at h; simp at h
  · intro h; rw [h]
theorem bg_short {x : List Int} (h : bg x = true) : 1 ≤ x.length ∧ x.length ≤ 3 := by
  rw [bg_iff] at h
  cases x with
  | nil => simp [fst] at h
  | cons a r =>
    rcases fst_how a with g | g | ⟨j, lo, hi, v, h1, h2, _, _, g⟩
    · rw [g] at h; simp at h
    · rw [g] at h; simp at h
    · rw [g] at h
      have := more_short _ _ _ _ _ _ h
      simp; omega
theorem wh_eb {c : Int} (h : okc c = true) : wh (eb c) = (c, true) := by
  unfold wh
  have := fst_eb h []
  rw [List.append_nil] at this
  rw [this]
  simp only
  rw [if_pos ⟨trivial, sz_ok h⟩]
theorem wh_true {x : List Int} (hx : byl x) (h : (wh x).2 = true) : okc (wh x).1 = true ∧ x = eb (wh x).1 := by
  unfold wh at h ⊢
  by_cases g : (fst x).2.2 = 0 ∧ (fst x).2.1 = (x.length : Int)
  · rw [if_pos g]
    obtain ⟨h1, h2, r, h3⟩ := fst_ok hx g.1
    have e := sz_ok h1
    refine ⟨h1, ?_⟩
    have hr : r = [] := by
      have := congrArg List.length h3
      rw [List.length_append] at this
      apply List.eq_nil_of_length_eq_zero
      omega
    rw [hr, List.append_nil] at h3
    exact h3
  · rw [if_neg g] at h; simp at h
theorem wh_false {x : List Int} (h : ¬ (wh x).2 = true) : wh x = (0, false) := by
  unfold wh at h ⊢
  by_cases g : (fst x).2.2 = 0 ∧ (fst x).2.1 = (x.length : Int)
  · rw [if_pos g] at h; exact absurd rfl h
  · rw [if_neg g]
/-- A beginning is what one of six bytes makes whole, or a beginning. -/
theorem bg_any {x : List Int} (hx : byl x) (h1 : 1 ≤ x.length) : bg x = probes.any fun b => (wh (x ++ [b])).2 || bg (x ++ [b]) := by
  rw [Bool.eq_iff_iff, List.any_eq_true]
  constructor
  · intro h
    rw [bg_iff] at h
    cases x with
    | nil => simp at h1
    | cons a r =>
      rcases fst_how a with g | g | ⟨j, lo, hi, v, j1, j2, hle, hlo, g⟩
      · rw [g] at h; simp at h
      · rw [g] at h; simp at h
      · rw [g] at h
        obtain ⟨b, hb, hh⟩ := more_on _ _ _ _ _ _ hle hlo h
        refine ⟨b, hb, ?_⟩
        rw [Bool.or_eq_true]
        rcases hh with hh | ⟨k1, k2, k3⟩
        · right
          rw [bg_iff, List.cons_append, g]
          exact hh
        · left
          unfold wh
          rw [List.cons_append, g, if_pos ⟨k1, by rw [k2]; simp; omega⟩]
  · rintro ⟨b, hb, h⟩
    have hb' : 0 ≤ b ∧ b ≤ 255 := by simp [probes] at hb; omega
    have hxb : byl (x ++ [b]) := (byl_append _ _).2 ⟨hx, fun y hy => by simp at hy; omega⟩
    rw [Bool.or_eq_true] at h
    rcases h with h | h
    · obtain ⟨k1, k2⟩ := wh_true hxb h
      have hl : (x ++ [b]).length = x.length + 1 := by simp
      have e : x = (eb (wh (x ++ [b])).1).take x.length := by
        rw [← k2, List.take_left]
      have hk : x.length < (eb (wh (x ++ [b])).1).length := by rw [← k2, hl]; omega
      rw [bg_iff, e]
      exact fst_cut k1 _ (by omega) hk
    · rw [bg_iff] at h ⊢
      cases x with
      | nil => simp at h1
      | cons a r =>
        rcases fst_how a with g | g | ⟨j, lo, hi, v, j1, j2, hle, hlo, g⟩
        · rw [List.cons_append, g] at h; simp at h
        · rw [List.cons_append, g] at h; simp at h
        · rw [List.cons_append, g] at h
          rw [g]
          exact more_back _ _ _ _ _ _ _ h

end Go.Proofs.Ytdbpeaadnhiekaa.U
