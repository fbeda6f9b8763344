/- IdentJoins comes to true. -/
import Derived.Test.YtbbiocmlicoipaaLIdentJoins
import Derived.Test.YtbbiocmlicoipaaQ2
namespace Go.Proofs.Ytbbiocmlicoipaa.PC
open Go.RowKit Go.Proofs.YtbbiocmlicoipaaW.PrintWords Go.Proofs.YtbbiocmlicoipaaW.PrintLast Go.Proofs.YtbbiocmlicoipaaW.PrintMore Go.Proofs.Ytbbiocmlicoipaa.I
set_option linter.unusedVariables false
set_option linter.unusedSimpArgs false
/-- A vector, with its length. -/
def goodV (v : List S54) (n : Nat) : Prop := upS v ∧ vec (ens v) ∧ v.length ≤ n
theorem good_join {a b : List S54} {n m : Nat} (ha : goodV a n) (hb : goodV b m) : goodV (joinS a b) (n + m) ∧ ∀ x, sq (ens (joinS a b)) x = max (sq (ens a) x) (sq (ens b) x) := by
  have e := joinS_eq ha.1 b
  refine ⟨⟨joinS_up ha.1 b, by rw [e]; exact jn_vec ha.2.1 hb.2.1.2, ?_⟩, fun x => by rw [e]; exact jn_sq ha.2.1 hb.2.1 x⟩
  have := joinS_len ha.1 b
  have := ha.2.2
  have := hb.2.2
  omega
theorem good_ext {a b : List S54} {n m : Nat} (ha : goodV a n) (hb : goodV b m) (h : ∀ x, sq (ens a) x = sq (ens b) x) : a = b := ens_inj (vec_ext ha.2.1 hb.2.1 h)
open Classical in
theorem joins_j1 (k : Nat) (hk : 1000 ≤ k) (a b : List S54) (ha : goodV a 30) (hb : goodV b 30) : foolscaplaw12_IdentJoins.j1 (k + 1) a b true (joinS a b) false = some true := by
  have hJ := good_join ha hb
  have la := ha.2.2
  have lb := hb.2.2
  have lj := hJ.1.2.2
  have c1 := covers_f ha.2.1 hb.2.1.2 (by omega) (by omega)
  have c2 := covers_f hb.2.1 ha.2.1.2 (by omega) (by omega)
  have g1 := gap_f ha.2.1 hJ.1.2.1.2 (by omega) (by omega)
  have g2 := gap_f ha.2.1 hb.2.1.2 (by omega) (by omega)
  have z1 := gp_zero ha.2.1 hb.2.1
  have z2 := gp_zero hb.2.1 ha.2.1
  have e := gp_jn ha.2.1 hb.2.1
  rw [← joinS_eq ha.1 b] at e
  have s := same_f a b (by omega) k (by omega)
  rw [foolscaplaw12_IdentJoins.j1, if_neg (by decide), c1, Option.bind_some]
  have same : a = b ↔ (gp (ens a) (ens b) = 0 ∧ gp (ens b) (ens a) = 0) := by
    constructor
    · rintro rfl; exact ⟨z1.2 fun x => Int.le_refl _, z1.2 fun x => Int.le_refl _⟩
    · rintro ⟨h1, h2⟩; exact good_ext ha hb fun x => by have := z1.1 h1 x; have := z2.1 h2 x; omega
  by_cases h1 : gp (ens a) (ens b) = 0
  · rw [if_pos (by simpa using h1), c2, Option.bind_some, if_pos rfl, s, Option.bind_some]
    rw [if_pos (by rw [beq_iff_eq, decide_eq_decide, same]; simp [h1]), g1, Option.bind_some, g2, Option.bind_some, e]
    simp
  · rw [if_neg (by simpa using h1), if_pos rfl, s, Option.bind_some]
    rw [if_pos (by rw [beq_iff_eq]; symm; rw [decide_eq_false_iff_not, same]; exact fun h => h1 h.1), g1, Option.bind_some, g2, Option.bind_some, e]
    simp
theorem joins_j0 (k : Nat) (hk : 1000 ≤ k) (a b c : List S54) (ha : goodV a 30) (hb : goodV b 30) (hc : goodV c 30) : foolscaplaw12_IdentJoins.j0 (k + 2) a b c true (joinS a b) false = some true := by
  have hJ := good_join ha hb
  have la := ha.2.2
  have lb := hb.2.2
  have lc := hc.2.2
  have lj := hJ.1.2.2
  have c1 := covers_f hc.2.1 ha.2.1.2 (by omega) (by omega)
  have c2 := covers_f hc.2.1 hb.2.1.2 (by omega) (by omega)
  have c3 := covers_f hc.2.1 hJ.1.2.1.2 (by omega) (by omega)
  have z1 := gp_zero hc.2.1 ha.2.1
  have z2 := gp_zero hc.2.1 hb.2.1
  have z3 := gp_zero hc.2.1 hJ.1.2.1
  have j1 := joins_j1 k hk a b ha hb
  rw [foolscaplaw12_IdentJoins.j0, if_neg (by decide), c1, Option.bind_some]
  by_cases h1 : gp (ens c) (ens a) = 0
  · rw [if_pos (by simpa using h1), c2, Option.bind_some]
    by_cases h2 : gp (ens c) (ens b) = 0
    · have h3 : gp (ens c) (ens (joinS a b)) = 0 := z3.2 fun x => by rw [hJ.2]; have := z1.1 h1 x; have := z2.1 h2 x; omega
      rw [if_pos (by simpa using h2), c3, Option.bind_some, decide_eq_true h3]
      exact j1
    · rw [if_neg (by simpa using h2)]
      exact j1
  · rw [if_neg (by simpa using h1)]
    exact j1
open Classical in
theorem joins_f (l0 l1 l2 : List S54) : foolscaplaw12_IdentJoins.f 2002 l0 l1 l2 = some true := by
  have ha : goodV (vecS l0) 30 := vecS_ok l0
  have hb : goodV (vecS l1) 30 := vecS_ok l1
  have hc : goodV (vecS l2) 30 := vecS_ok l2
  have v0 := vector_f l0 2002 (by omega)
  have v1 := vector_f l1 2002 (by omega)
  have v2 := vector_f l2 2002 (by omega)
  generalize vecS l0 = a at *
  generalize vecS l1 = b at *
  generalize vecS l2 = c at *
  have hJ := good_join ha hb
  have hA := good_join hJ.1 hc
  have hI := good_join hb ha
  have hK := good_join hb hc
  have hM := good_join ha hK.1
  have la := ha.2.2
  have lb := hb.2.2
  have lc := hc.2.2
  have lj := hJ.1.2.2
  have lA := hA.1.2.2
  have lI := hI.1.2.2
  have lK := hK.1.2.2
  have lM := hM.1.2.2
  unfold foolscaplaw12_IdentJoins.f
  have hs : foolscaplaw12_shown.f = some true := rfl
  rw [hs, Option.bind_some, v0, Option.bind_some, v1, Option.bind_some, v2, Option.bind_some, join_f ha.1 (by omega), Option.bind_some, join_f hJ.1.1 (by omega), Option.bind_some, Vector_f hJ.1.2.1 (by omega) 2002 (by omega), Option.bind_some, if_pos rfl]
  rw [covers_f hJ.1.2.1 ha.2.1.2 (by omega) (by omega), Option.bind_some, if_pos (by rw [decide_eq_true_iff, gp_zero hJ.1.2.1 ha.2.1]; intro x; rw [hJ.2]; omega)]
  rw [covers_f hJ.1.2.1 hb.2.1.2 (by omega) (by omega), Option.bind_some, if_pos (by rw [decide_eq_true_iff, gp_zero hJ.1.2.1 hb.2.1]; intro x; rw [hJ.2]; omega)]
  have e1 : joinS b a = joinS a b := good_ext hI.1 hJ.1 fun x => by rw [hI.2, hJ.2]; omega
  have e2 : joinS a (joinS b c) = joinS (joinS a b) c := good_ext hM.1 hA.1 fun x => by rw [hM.2, hA.2, hJ.2, hK.2]; omega
  rw [join_f hb.1 (by omega), Option.bind_some, e1, same_f _ _ (by omega) 2002 (by omega), Option.bind_some, if_pos (by simp), join_f hb.1 (by omega), Option.bind_some, join_f ha.1 (by omega), Option.bind_some, e2, same_f _ _ (by omega) 2002 (by omega), Option.bind_some]
  rw [show (!decide (joinS (joinS a b) c = joinS (joinS a b) c)) = false by simp]
  exact joins_j0 2000 (by omega) a b c ha hb hc
theorem joins_row (a : Option Addr) (cap : Nat) (z : List S54) (a1 : Option Addr) (cap1 : Nat) (z1 : List S54) (a2 : Option Addr) (cap2 : Nat) (z2 : List S54) (w : World)
    (hr : Kd.C k54 w a z.length z) (hc : z.length ≤ cap) (hy : z.length * 16 ≤ 140737488351232) (hg : ∀ y ∈ z, (Lit.int .i64 y.f0).wf = true ∧ (Lit.int .i64 y.f1).wf = true)
    (hr1 : Kd.C k54 w a1 z1.length z1) (hc1 : z1.length ≤ cap1) (hy1 : z1.length * 16 ≤ 140737488351232) (hg1 : ∀ y ∈ z1, (Lit.int .i64 y.f0).wf = true ∧ (Lit.int .i64 y.f1).wf = true)
    (hr2 : Kd.C k54 w a2 z2.length z2) (hc2 : z2.length ≤ cap2) (hy2 : z2.length * 16 ≤ 140737488351232) (hg2 : ∀ y ∈ z2, (Lit.int .i64 y.f0).wf = true ∧ (Lit.int .i64 y.f1).wf = true) :
    Calls Try.prog 11 #[.slice a z.length cap, .slice a1 z1.length cap1, .slice a2 z2.length cap2] w fun e w' => e = .returned (.bool true) ∧ Below w.heap.size w w' :=
  foolscaplaw12_IdentJoins.calls 2002 a cap z a1 cap1 z1 a2 cap2 z2 true w hr hc hr1 hc1 hr2 hc2 (joins_f z z1 z2)
end Go.Proofs.Ytbbiocmlicoipaa.PC
