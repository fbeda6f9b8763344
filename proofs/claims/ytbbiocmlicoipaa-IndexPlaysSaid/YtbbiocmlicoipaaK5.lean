/- What may have changed between two worlds beside a set of blocks; blocks known whole; over any program; no condition. -/
import Derived.Test.YtbbiocmlicoipaaK4
import Derived.Test.YtbbiocmlicoipaaWWords
namespace Go.Proofs.Ytbbiocmlicoipaa.K
open Go.RowKit Go.Proofs.YtbbiocmlicoipaaW.PrintWords
set_option linter.unusedVariables false
/-- Of what was there, at most the blocks of F have changed. -/
structure Fr (F : List Nat) (w w' : World) : Prop where
  os : w'.os = w.os
  tape : w'.tape = w.tape
  output : w'.output = w.output
  size : w.heap.size ≤ w'.heap.size
  block : ∀ k, k < w.heap.size → k ∉ F → w'.heap[k]? = w.heap[k]?
theorem Fr.refl (F : List Nat) (w : World) : Fr F w w := ⟨rfl, rfl, rfl, Nat.le_refl _, fun _ _ _ => rfl⟩
theorem Fr.trans {F F' : List Nat} {a b c : World} (h : Fr F a b) (k : Fr F' b c) (hF : ∀ x ∈ F', x ∈ F ∨ a.heap.size ≤ x) : Fr F a c :=
  ⟨k.os.trans h.os, k.tape.trans h.tape, k.output.trans h.output, Nat.le_trans h.size k.size, fun i hi hn => (k.block i (Nat.lt_of_lt_of_le hi h.size) (fun hm => by
    rcases hF i hm with h1 | h1
    · exact hn h1
    · omega)).trans (h.block i hi hn)⟩
theorem Fr.mono {F F' : List Nat} {a b : World} (h : Fr F a b) (hF : ∀ x ∈ F, x ∈ F' ∨ a.heap.size ≤ x) : Fr F' a b := (Fr.refl F' a).trans h hF
theorem Fr.of_below {F : List Nat} {w w' : World} (h : Below w.heap.size w w') : Fr F w w' := ⟨h.os, h.tape, h.output, h.size, fun k hk _ => h.block k hk⟩
theorem Fr.of_grown {F : List Nat} {w w' : World} {row : Option Nat} (h : w.grownBy w' row) (hr : ∀ g, row = some g → g ∈ F) : Fr F w w' :=
  ⟨h.os, h.tape, h.output, h.size, fun k hk hn => h.block k hk fun e => hn (hr k e.symm)⟩
theorem Fr.of_set {F : List Nat} (w : World) (p : Addr) (u : Value) (hp : p.block ∈ F) : Fr F w (w.setCell p u) :=
  ⟨rfl, rfl, rfl, by simp [World.setCell], fun k hk hn => Below.heap_setCell _ _ _ _ (fun e => hn (by rw [e]; exact hp))⟩
theorem Fr.of_alloc {F : List Nat} (w : World) (o : Obj) : Fr F w (w.alloc o) := Fr.of_below ((Below.refl _ _).alloc (Nat.le_refl _) _)
theorem Fr.of_drew {F : List Nat} (w : World) : Fr F w w.drew := Fr.of_below (Below.refl _ _).drew
theorem Fr.of_drewN {F : List Nat} (w : World) (n : Nat) : Fr F w (w.drewN n) := ⟨rfl, rfl, rfl, by simp, fun _ _ _ => rfl⟩
theorem Fr.below {F : List Nat} {w0 w w' : World} (h : Fr F w w') (hb : Below w0.heap.size w0 w) (hF : ∀ x ∈ F, w0.heap.size ≤ x) : Below w0.heap.size w0 w' :=
  ⟨h.os.trans hb.os, h.tape.trans hb.tape, h.output.trans hb.output, Nat.le_trans hb.size h.size, fun k hk => (h.block k (Nat.lt_of_lt_of_le hk hb.size) (fun hm => by have := hF k hm; omega)).trans (hb.block k hk)⟩
theorem heap_set (w : World) (b o : Nat) (u : Value) {cs : Array Value} {t : TypeId} (h : w.heap[b]? = some (.cells cs t (0, 0))) : (w.setCell ⟨b, o, none⟩ u).heap[b]? = some (.cells (cs.setIfInBounds o u) t (0, 0)) := blk_set h o u
theorem heap_far (w : World) (p : Addr) (u : Value) {k : Nat} (h : k ≠ p.block) : (w.setCell p u).heap[k]? = w.heap[k]? := Below.heap_setCell _ _ _ _ h
theorem heap_drewN (w : World) (n k : Nat) : (w.drewN n).heap[k]? = w.heap[k]? := rfl
theorem heap_types {w : World} {a b : Nat} {ca cb : Array Value} {ta tb : TypeId} {fa fb : Nat × Nat} (ha : w.heap[a]? = some (.cells ca ta fa)) (hb : w.heap[b]? = some (.cells cb tb fb)) (ht : ta ≠ tb) : a ≠ b := by
  rintro rfl
  rw [ha] at hb
  injection hb with hb
  injection hb with _ h2
  exact ht h2
theorem heap_new (w : World) (o : Obj) : (w.alloc o).heap[w.heap.size]? = some o := Array.getElem?_push_size
theorem alloc_sz (w : World) (o : Obj) : (w.alloc o).heap.size = w.heap.size + 1 := Array.size_push _
theorem heap_old (w : World) (o : Obj) {k : Nat} (h : k < w.heap.size) : (w.alloc o).heap[k]? = w.heap[k]? := Below.heap_alloc _ _ _ h
/-- The blocks of a slice's row: one, or none. -/
def ob (v : Value) : List Nat := v.ownBlock.toList
theorem SRow.form {w : World} {e sz : Nat} {q : Prop} {v : Value} {n : Nat} {xs : List Value} (h : SRow w e sz q v n xs) : ∃ A cap, v = .slice A n cap ∧ n ≤ cap ∧ (A = none → n = 0 ∧ cap = 0) := by
  rcases h.2 with ⟨rfl, rfl⟩ | ⟨g, cap, cur, rfl, _, hn, _⟩
  · exact ⟨none, 0, rfl, Nat.le_refl _, fun _ => ⟨rfl, rfl⟩⟩
  · exact ⟨_, cap, rfl, hn, fun h => by cases h⟩
theorem SRow.ob_lt {w : World} {e sz : Nat} {q : Prop} {v : Value} {n : Nat} {xs : List Value} (h : SRow w e sz q v n xs) : ∀ g ∈ ob v, g < w.heap.size ∧ ∃ cs, w.heap[g]? = some (.cells cs e (0, 0)) := by
  intro g hg
  rcases h.2 with ⟨rfl, rfl⟩ | ⟨g', cap, cur, rfl, hh, _⟩
  · simp [ob, Value.ownBlock] at hg
  · simp [ob, Value.ownBlock] at hg
    subst hg
    exact ⟨lt_of hh, cur, hh⟩
theorem SRow.keep {w w' : World} {e sz : Nat} {q : Prop} {v : Value} {n : Nat} {xs : List Value} (h : SRow w e sz q v n xs) (hk : ∀ g ∈ ob v, w'.heap[g]? = w.heap[g]?) : SRow w' e sz q v n xs := by
  refine ⟨h.1, ?_⟩
  rcases h.2 with ⟨rfl, rfl⟩ | ⟨g, cap, cur, rfl, hh, r⟩
  · exact .inl ⟨rfl, rfl⟩
  · exact .inr ⟨g, cap, cur, rfl, (hk g (by simp [ob, Value.ownBlock])).trans hh, r⟩
/-- A cell of a row of one-cell elements. -/
theorem SRow.cell1 {w : World} {e : Nat} {q : Prop} {v : Value} {n : Nat} {xs : List Value} (h : SRow w e 1 q v n xs) {i : Nat} {u : Value} (hu : xs[i]? = some u) :
    ∃ g cap, v = .slice (some ⟨g, 0, none⟩) n cap ∧ n ≤ cap ∧ w.cell? ⟨g, i, none⟩ = some u := by
  have hi := (List.getElem?_eq_some_iff.1 hu).1
  rcases (srow1.1 h).2 with ⟨rfl, rfl⟩ | ⟨g, cap, cur, rfl, hh, hn, _, _, _, ht⟩
  · have := (srow1.1 h).1; omega
  · refine ⟨g, cap, rfl, hn, ?_⟩
    rw [cell_of hh]
    rw [← ht, List.getElem?_take] at hu
    split at hu
    · simpa using hu
    · cases hu
end Go.Proofs.Ytbbiocmlicoipaa.K
