/- A slice of structs that is handed in, as a row of elements that can be read; no condition. -/
import Derived.Test.YtbbiocmlicoipaaWWords
import Derived.Deep.Slices
import Derived.SizedLaws
import Derived.WideShapes
namespace Go.Proofs.Ytbbiocmlicoipaa.K
open Go.RowKit Go.ChangeShapes Go.WideShapes Go.Proofs.YtbbiocmlicoipaaW.PrintWords
set_option linter.unusedVariables false
theorem list_of {α : Type} (f : Nat → α → Prop) (n : Nat) (h : ∀ i, i < n → ∃ x, f i x) : ∃ zs : List α, zs.length = n ∧ ∀ i x, zs[i]? = some x → f i x := by
  induction n with
  | zero => exact ⟨[], rfl, fun i x h => by simp at h⟩
  | succ n ih =>
    obtain ⟨zs, hl, hz⟩ := ih fun i hi => h i (Nat.lt_succ_of_lt hi)
    obtain ⟨x, hx⟩ := h n (Nat.lt_succ_self n)
    refine ⟨zs ++ [x], by simp [hl], fun i y hy => ?_⟩
    rcases Nat.lt_trichotomy i n with c | c | c
    · rw [List.getElem?_append_left (by omega)] at hy
      exact hz i y hy
    · subst c
      rw [List.getElem?_append_right (by omega), hl, Nat.sub_self] at hy
      simp at hy
      rw [← hy]; exact hx
    · rw [List.getElem?_eq_none (by simp; omega)] at hy
      cases hy
theorem open_rows {H : Type} {enc : TypeId × Value → H} {P : Program} {W : World} {base : Nat} {spare : Nat → Bool} {held : Bool} {t e sz B : Nat} {a : Option Addr} {len cap : Nat} {d : DataW H} {ps : List MemPlace} {ts : List TypeId} {ds : List (DataW H)} {j : Nat}
    {α : Type} {K : α → List Value → Prop} {good : α → Prop}
    (hsz : (DataW.weightsEach P ts ds).all (· ≤ reachBytes) = true) (ht : ts[j]? = some t) (hd : ds[j]? = some d) (hu : P.underlying t = some (.slice e)) (hc : P.cellsOf e = sz) (hB : P.bytesOf e = B)
    (hK : ∀ x c, K x c → c.length = sz) (hread : ∀ n cs x, DataW.trod enc P W base spare held n e cs = some x → ∃ y, K y cs ∧ good y)
    (h : DataW.Trod enc P W base spare held t (.slice a len cap) d ps) :
    ∃ zs : List α, zs.length = len ∧ ReadsRow K sz W a zs.length zs ∧ zs.length ≤ cap ∧ zs.length * B ≤ 140737488351232 ∧ ∀ y ∈ zs, good y := by
  obtain ⟨fuel, hf⟩ := h
  rcases Go.Deep.open_slice hu hf with ⟨hcs, _⟩ | ⟨x, len', cap', m, n, D, Pl, hcs, hb, hl, hm, hmm, hx, hel⟩
  · simp [Value.cells] at hcs
    obtain ⟨rfl, rfl, rfl⟩ := hcs
    exact ⟨[], rfl, ⟨rfl, by simp, fun h => by simp at h⟩, Nat.le_refl _, by simp, fun y hy => by simp at hy⟩
  · simp [Value.cells] at hcs
    obtain ⟨rfl, rfl, rfl⟩ := hcs
    have hle : len ≤ m := by rw [hmm]; split <;> omega
    obtain ⟨hx, _⟩ := Prod.mk.inj hx
    subst hx
    have z := sized_slice hsz ht hd hu
    rw [hB] at z
    obtain ⟨zs, hzl, hz⟩ := list_of (fun i (y : α) => ∃ c, c.length = sz ∧ K y c ∧ good y ∧ ∀ k u, c[k]? = some u → W.cell? (x.add (i * sz + k)) = some u) len (fun i hi => by
      obtain ⟨cs', h1, h2⟩ := hel i (by omega)
      obtain ⟨y, hy, hg⟩ := hread _ _ _ h2
      obtain ⟨_, h3, h4⟩ := World.cells?_some h1
      refine ⟨y, cs', by rw [h3, hc], hy, hg, fun k u hu => ?_⟩
      have hk : k < cs'.length := (List.getElem?_eq_some_iff.1 hu).1
      have := h4 k (by rw [← h3]; exact hk)
      rw [Go.Deep.add_add, hc] at this
      rw [this, hu])
    subst hzl
    refine ⟨zs, rfl, ⟨rfl, ?_, fun _ => ⟨x, rfl, fun i y hy => ?_⟩⟩, hl, ?_, fun y hy => ?_⟩
    · unfold maxLen at hm; omega
    · obtain ⟨c, h1, h2, _, h4⟩ := hz i y hy
      exact ⟨c, h1, h2, h4⟩
    · refine Nat.le_trans (Nat.mul_le_mul_right _ ?_) z
      simp
    · obtain ⟨i, hi, rfl⟩ := List.getElem_of_mem hy
      obtain ⟨c, _, _, h3, _⟩ := hz i _ (List.getElem?_eq_getElem hi)
      exact h3
end Go.Proofs.Ytbbiocmlicoipaa.K
