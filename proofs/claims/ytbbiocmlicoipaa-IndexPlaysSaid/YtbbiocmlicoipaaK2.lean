/- A row of elements of several cells, as the flat list of its cells; no condition. -/
import Derived.Test.YtbbiocmlicoipaaC0
import Derived.Test.YtbbiocmlicoipaaK1
namespace Go.Proofs.Ytbbiocmlicoipaa.K
open Go.RowKit Go.Proofs.YtbbiocmlicoipaaW.PrintWords Go.Proofs.YtbbiocmlicoipaaW.PrintLast Go.Proofs.YtbbiocmlicoipaaW.PrintMore
set_option linter.unusedVariables false
section
variable {α : Type} {fl : α → List Value} {sz : Nat} {R : α → List Value → Prop}
theorem flat_len (hl : ∀ x, (fl x).length = sz) (ps : List α) : (ps.flatMap fl).length = ps.length * sz := by
  induction ps with
  | nil => simp
  | cons p ps ih => rw [List.flatMap_cons, List.length_append, ih, hl, List.length_cons, Nat.add_mul]; omega
theorem flat_drop (hl : ∀ x, (fl x).length = sz) (ps : List α) (j : Nat) : (ps.flatMap fl).drop (j * sz) = (ps.drop j).flatMap fl := by
  induction ps generalizing j with
  | nil => simp
  | cons p ps ih =>
    cases j with
    | zero => simp
    | succ j => rw [List.drop_succ_cons, ← ih j, List.flatMap_cons, Nat.add_mul, Nat.one_mul, List.drop_append, List.drop_of_length_le (by rw [hl]; omega), hl, List.nil_append, Nat.add_sub_cancel]
theorem flat_take (hl : ∀ x, (fl x).length = sz) (ps : List α) (j : Nat) : (ps.flatMap fl).take (j * sz) = (ps.take j).flatMap fl := by
  induction ps generalizing j with
  | nil => simp
  | cons p ps ih =>
    cases j with
    | zero => simp
    | succ j => rw [List.take_succ_cons, List.flatMap_cons, List.flatMap_cons, ← ih j, Nat.add_mul, Nat.one_mul, List.take_append, List.take_of_length_le (by rw [hl]; omega), hl, Nat.add_sub_cancel]
theorem flat_reps (hl : ∀ x, (fl x).length = sz) (hR : ∀ x, R x (fl x)) (ps : List α) : Reps R sz ps (ps.flatMap fl) := by
  refine ⟨flat_len hl ps, fun j p hj => ?_⟩
  rw [flat_drop hl]
  obtain ⟨hlt, rfl⟩ := List.getElem?_eq_some_iff.1 hj
  rw [List.drop_eq_getElem_cons hlt, List.flatMap_cons, List.take_left' (hl _)]
  exact hR _
theorem reps_flat (hl : ∀ x, (fl x).length = sz) (hR : ∀ x c, R x c → c = fl x) : ∀ {ps : List α} {cs : List Value}, Reps R sz ps cs → cs = ps.flatMap fl := by
  intro ps
  induction ps with
  | nil => intro cs h; have := h.1; simp at this; simp [this]
  | cons p ps ih =>
    intro cs h
    have h0 := hR _ _ (h.2 0 p rfl)
    rw [Nat.zero_mul, List.drop_zero] at h0
    have ht : Reps R sz ps (cs.drop sz) := by
      refine ⟨by rw [List.length_drop, h.1, List.length_cons, Nat.add_mul]; omega, fun j q hj => ?_⟩
      have := h.2 (j + 1) q (by simpa using hj)
      rw [List.drop_drop, show sz + j * sz = (j + 1) * sz by rw [Nat.add_mul]; omega]
      exact this
    have := ih ht
    rw [List.flatMap_cons, ← this, ← h0, List.take_append_drop]
end
theorem owns_of_R {α : Type} {d : Kd α} {fl : α → List Value} {e : Nat} {w : World} {base : Nat} {ok : Nat → Prop} {v : Value} {xs : List α} (hl : ∀ x, (fl x).length = d.sz)
    (hM : ∀ {w base ok x cs}, d.M w base ok x cs → cs = fl x) (h : d.R e w base ok v xs) : w.ownsRow base e d.sz v xs.length (xs.flatMap fl) := by
  obtain ⟨_, inner, ho, hr⟩ := h
  rw [reps_flat hl (fun x c hx => hM hx) hr] at ho
  exact ho
theorem R_of_owns {α : Type} {d : Kd α} {fl : α → List Value} {e : Nat} {w : World} {base : Nat} {ok : Nat → Prop} {v : Value} {xs : List α} (hl : ∀ x, (fl x).length = d.sz)
    (hM : ∀ w base ok x, d.M w base ok x (fl x)) (hok : ∀ k, v.ownBlock = some k → ok k) (h : w.ownsRow base e d.sz v xs.length (xs.flatMap fl)) : d.R e w base ok v xs :=
  ⟨hok, _, h, flat_reps hl (fun x => hM _ _ _ x) xs⟩
end Go.Proofs.Ytbbiocmlicoipaa.K
