/- What the printed functions of ident and of its reference tell, as plain facts; vectors of at most some thousands. -/
import Derived.Test.YtbbiocmlicoipaaX1
import Derived.Test.YtbbiocmlicoipaaC1
import Derived.Test.YtbbiocmlicoipaaC2
namespace Go.Proofs.Ytbbiocmlicoipaa.PC
open Go.RowKit Go.Proofs.YtbbiocmlicoipaaW.PrintWords Go.Proofs.YtbbiocmlicoipaaW.PrintLast Go.Proofs.YtbbiocmlicoipaaW.PrintMore Go.Proofs.Ytbbiocmlicoipaa.K Go.Proofs.Ytbbiocmlicoipaa.I
set_option linter.unusedVariables false
set_option linter.unusedSimpArgs false
theorem cmp_f (a b : Int) : cmp_Compare_int.f a b = some (cmpI a b) := by
  have e : ∀ x : Int, cmp_isNaN_int.f x = some false := fun x => by unfold cmp_isNaN_int.f; simp
  unfold cmp_Compare_int.f cmpI
  rw [e, e]
  simp only [Option.bind_some]
  rw [if_neg (by decide), if_neg (by decide)]
  by_cases h : a < b
  · rw [if_pos h, if_pos h]
  · rw [if_neg h, if_neg h]
    by_cases h2 : b < a
    · rw [if_pos h2, if_pos h2]
    · rw [if_neg h2, if_neg h2]
theorem or_f (k : Nat) (a b : Int) : cmp_Or_int.f (k + 3) [a, b] = some (if a = 0 then b else a) := by
  unfold cmp_Or_int.f
  rw [cmp_Or_int.l0, if_pos (by simp), if_pos (by simp), if_pos (by simp)]
  have e0 : rd [a, b] 0 = a := rfl
  rw [e0]
  by_cases h : a = 0
  · rw [if_pos h, if_pos h, show wrap64 (0 + 1) = 1 from by unfold wrap64; decide, cmp_Or_int.l0, if_pos (by simp), if_pos (by simp), if_pos (by simp)]
    have e1 : rd [a, b] 1 = b := rfl
    rw [e1]
    by_cases h2 : b = 0
    · rw [if_pos h2, show wrap64 (1 + 1) = 2 from by unfold wrap64; decide, cmp_Or_int.l0, if_neg (by simp), h2]
    · rw [if_neg h2]
  · rw [if_neg h, if_neg h]
def lessB (a b c d : Int) : Bool := decide (a < c ∨ a = c ∧ b < d)
theorem less_f (k : Nat) (a b c d : Int) : ident_Less.f (k + 3) a b c d = some (lessB a b c d) := by
  unfold ident_Less.f
  rw [cmp_f, Option.bind_some, cmp_f, Option.bind_some, or_f, Option.bind_some]
  congr 1
  unfold lessB cmpI
  rw [decide_eq_decide]
  repeat' split
  all_goals omega
theorem rd_ok (xs : List S54) (i : Nat) (h : i < xs.length) : rd_T54 xs (i : Int) = xs[i] := by
  unfold rd_T54; simp [h]
theorem wrap_nat (i : Nat) (h : i ≤ 9000000000000) : wrap64 ((i : Int) + 1) = ((i + 1 : Nat) : Int) := by
  unfold wrap64; omega
theorem S54.eq {x y : S54} (h : x.f0 = y.f0) (k : x.f1 = y.f1) : x = y := by cases x; cases y; simp_all
/-- Are two rows of entries the same? -/
def eqS : List S54 → List S54 → Bool
  | [], _ => true
  | x :: xs, y :: ys => (x.f0 == y.f0 && x.f1 == y.f1) && eqS xs ys
  | _ :: _, [] => false
theorem same_l0 (xs ys : List S54) (hl : xs.length = ys.length) (hm : xs.length ≤ 1000000) : ∀ (d i k : Nat), xs.length - i = d → i ≤ xs.length → d < k → foolscapref12_Same.l0 k xs ys (i : Int) = some (eqS (xs.drop i) (ys.drop i)) := by
  intro d
  induction d with
  | zero =>
    intro i k hd hi hk
    obtain ⟨k, rfl⟩ : ∃ m, k = m + 1 := ⟨k - 1, by omega⟩
    rw [foolscapref12_Same.l0, if_neg (by omega), List.drop_of_length_le (by omega)]
    rfl
  | succ d ih =>
    intro i k hd hi hk
    obtain ⟨k, rfl⟩ : ∃ m, k = m + 1 := ⟨k - 1, by omega⟩
    have h1 : i < xs.length := by omega
    have h2 : i < ys.length := by omega
    rw [foolscapref12_Same.l0, if_pos (by omega), if_pos (by omega), if_pos (by omega), rd_ok _ _ h1, rd_ok _ _ h2, List.drop_eq_getElem_cons h1, List.drop_eq_getElem_cons h2, wrap_nat _ (by omega), ih (i + 1) k (by omega) (by omega) (by omega)]
    simp only [eqS]
    by_cases c1 : xs[i].f0 = ys[i].f0
    · by_cases c2 : xs[i].f1 = ys[i].f1
      · rw [if_neg (by simp [c1, c2])]; simp [c1, c2]
      · rw [if_pos (by simp [c2])]; simp [c2]
    · rw [if_pos (by simp [c1])]; simp [c1]
theorem eqS_self (xs : List S54) : eqS xs xs = true := by
  induction xs with
  | nil => rfl
  | cons x xs ih => simp [eqS, ih]
theorem eqS_iff {xs ys : List S54} (hl : xs.length = ys.length) : eqS xs ys = true ↔ xs = ys := by
  constructor
  · intro h
    induction xs generalizing ys with
    | nil => cases ys with | nil => rfl | cons y ys => simp at hl
    | cons x xs ih =>
      cases ys with
      | nil => simp at hl
      | cons y ys =>
        simp [eqS] at h
        rw [S54.eq h.1.1 h.1.2, ih (by simpa using hl) h.2]
  · rintro rfl; exact eqS_self _
open Classical in
theorem same_f (xs ys : List S54) (hm : xs.length ≤ 1000000) (k : Nat) (hk : xs.length < k) : foolscapref12_Same.f k xs ys = some (decide (xs = ys)) := by
  unfold foolscapref12_Same.f
  by_cases hl : xs.length = ys.length
  · rw [if_pos (by omega), show (0 : Int) = ((0 : Nat) : Int) from rfl, same_l0 xs ys hl hm xs.length 0 k (by omega) (by omega) hk]
    congr 1
    rw [List.drop_zero, List.drop_zero, Bool.eq_iff_iff, eqS_iff hl]
    simp
  · rw [if_neg (by omega)]
    congr 1
    symm
    rw [decide_eq_false_iff_not]
    rintro rfl; exact hl rfl
theorem seq_l0 (xs : List S54) (a : Int) (hm : xs.length ≤ 1000000) : ∀ (d i k : Nat), xs.length - i = d → i ≤ xs.length → d < k → foolscapref12_Seq.l0 k xs a (i : Int) = some (sq (ens (xs.drop i)) a) := by
  intro d
  induction d with
  | zero =>
    intro i k hd hi hk
    obtain ⟨k, rfl⟩ : ∃ m, k = m + 1 := ⟨k - 1, by omega⟩
    rw [foolscapref12_Seq.l0, if_neg (by omega), List.drop_of_length_le (by omega)]
    rfl
  | succ d ih =>
    intro i k hd hi hk
    obtain ⟨k, rfl⟩ : ∃ m, k = m + 1 := ⟨k - 1, by omega⟩
    have h1 : i < xs.length := by omega
    rw [foolscapref12_Seq.l0, if_pos (by omega), if_pos (by omega), rd_ok _ _ h1, List.drop_eq_getElem_cons h1, wrap_nat _ (by omega), ih (i + 1) k (by omega) (by omega) (by omega)]
    show _ = some (if (toE xs[i]).a = a then (toE xs[i]).s else sq (ens (xs.drop (i + 1))) a)
    by_cases c : xs[i].f0 = a
    · rw [if_pos c, if_pos (show (toE xs[i]).a = a from c)]; rfl
    · rw [if_neg c, if_neg (show ¬ (toE xs[i]).a = a from c)]
theorem rseq_f (xs : List S54) (a : Int) (hm : xs.length ≤ 1000000) (k : Nat) (hk : xs.length < k) : foolscapref12_Seq.f k xs a = some (sq (ens xs) a) := by
  unfold foolscapref12_Seq.f
  rw [show (0 : Int) = ((0 : Nat) : Int) from rfl, seq_l0 xs a hm xs.length 0 k (by omega) (by omega) hk]
  rfl
/-- What the reference's With puts together. -/
def mg (a s : Int) : List S54 → Bool → List S54
  | [], p => if p then [] else [⟨a, s⟩]
  | e :: xs, true => if e.f0 = a then mg a s xs true else e :: mg a s xs true
  | e :: xs, false => if e.f0 ≥ a then ⟨a, s⟩ :: (if e.f0 = a then mg a s xs true else e :: mg a s xs true) else e :: mg a s xs false
theorem eta54 (e : S54) : (⟨e.f0, e.f1⟩ : S54) = e := rfl
theorem with_l0 (xs : List S54) (a s : Int) (hm : xs.length ≤ 1000000) : ∀ (d i k : Nat) (out : List S54) (p : Bool), xs.length - i = d → i ≤ xs.length → 2 * d < k → out.length + 2 * d ≤ 3000000 →
    foolscapref12_With.l0 k xs a s out p (i : Int) = some (out ++ mg a s (xs.drop i) p) := by
  intro d
  induction d with
  | zero =>
    intro i k out p hd hi hk ho
    obtain ⟨k, rfl⟩ : ∃ m, k = m + 1 := ⟨k - 1, by omega⟩
    rw [foolscapref12_With.l0, if_neg (by omega), List.drop_of_length_le (by omega)]
    cases p
    · rw [if_neg (by decide), if_pos (by omega)]; rfl
    · rw [if_pos rfl]; simp [mg]
  | succ d ih =>
    intro i k out p hd hi hk ho
    obtain ⟨k, rfl⟩ : ∃ m, k = m + 1 + 1 := ⟨k - 2, by omega⟩
    have h1 : i < xs.length := by omega
    rw [foolscapref12_With.l0, if_pos (by omega), List.drop_eq_getElem_cons h1, rd_ok _ _ h1]
    cases p
    · rw [if_neg (by decide), if_pos (by omega), foolscapref12_With.j1, rd_ok _ _ h1, wrap_nat _ (by omega)]
      simp only [mg]
      by_cases c : xs[i].f0 ≥ a
      · rw [if_pos (decide_eq_true c), if_pos (by omega), Option.bind_some, if_pos (by omega), if_pos (by omega), if_pos c]
        by_cases c2 : xs[i].f0 = a
        · rw [if_pos c2, if_pos c2, ih (i + 1) k _ true (by omega) (by omega) (by omega) (by simp; omega)]; simp
        · rw [if_neg c2, if_neg c2, if_pos (by simp; omega), ih (i + 1) k _ true (by omega) (by omega) (by omega) (by simp; omega)]; simp
      · rw [if_neg (by simpa using c), if_pos (by omega), if_pos (by omega), if_neg c, if_neg (by omega), if_pos (by omega), ih (i + 1) k _ false (by omega) (by omega) (by omega) (by simp; omega)]
        simp
    · rw [if_pos rfl, foolscapref12_With.j1, rd_ok _ _ h1, wrap_nat _ (by omega), if_neg (by decide), if_pos (by omega), if_pos (by omega)]
      simp only [mg]
      by_cases c2 : xs[i].f0 = a
      · rw [if_pos c2, if_pos c2, ih (i + 1) k _ true (by omega) (by omega) (by omega) (by omega)]
      · rw [if_neg c2, if_neg c2, if_pos (by omega), ih (i + 1) k _ true (by omega) (by omega) (by omega) (by simp; omega)]; simp
theorem mg_true (a s : Int) {xs : List S54} (h : ∀ e ∈ xs, e.f0 ≠ a) : mg a s xs true = xs := by
  induction xs with
  | nil => rfl
  | cons e xs ih => simp only [mg]; rw [if_neg (h e (by simp)), ih fun f hf => h f (List.mem_cons_of_mem _ hf)]
theorem ens_inj {xs ys : List S54} (h : ens xs = ens ys) : xs = ys := by
  induction xs generalizing ys with
  | nil => cases ys with | nil => rfl | cons y ys => simp [ens] at h
  | cons x xs ih =>
    cases ys with
    | nil => simp [ens] at h
    | cons y ys =>
      simp [ens, toE] at h
      rw [S54.eq h.1.1 h.1.2, ih (by simpa [ens] using h.2)]
theorem mg_false (a s : Int) (hs : 0 < s) {xs : List S54} (h : upS xs) (hq : sq (ens xs) a < s) : ens (mg a s xs false) = wt (ens xs) a s := by
  induction xs with
  | nil => simp only [mg, ens, List.map_nil, wt]; rw [if_pos hs]; rfl
  | cons e xs ih =>
    obtain ⟨h1, h2⟩ := List.pairwise_cons.1 h
    show _ = wt (toE e :: ens xs) a s
    have hq' : (if e.f0 = a then e.f1 else sq (ens xs) a) < s := hq
    simp only [mg, wt]
    by_cases c : e.f0 < a
    · rw [if_neg (by omega), if_pos (show (toE e).a < a from c)]
      rw [if_neg (by omega)] at hq'
      show toE e :: ens (mg a s xs false) = _
      rw [ih h2 hq']
    · rw [if_pos (by omega), if_neg (show ¬ (toE e).a < a from c)]
      by_cases c2 : e.f0 = a
      · rw [if_pos c2, if_pos (show (toE e).a = a from c2), mg_true _ _ fun f hf => by have := h1 f hf; omega]
        rw [if_pos c2] at hq'
        show toE ⟨a, s⟩ :: ens xs = _
        congr 1
        exact En.eq rfl (show s = max e.f1 s by omega)
      · rw [if_neg c2, if_neg (show ¬ (toE e).a = a from c2), if_pos hs, mg_true _ _ fun f hf => by have := h1 f hf; omega]
        rfl
theorem wt_same {v : List En} (h : up v) (a s : Int) (hq : s ≤ sq v a) (hs : 0 < s) : wt v a s = v := by
  induction v with
  | nil => simp only [sq] at hq; omega
  | cons e v ih =>
    simp only [sq] at hq
    simp only [wt]
    by_cases c : e.a < a
    · rw [if_neg (by omega)] at hq
      rw [if_pos c, ih h.2 hq]
    · rw [if_neg c]
      by_cases c2 : e.a = a
      · rw [if_pos c2] at hq
        rw [if_pos c2]
        congr 1
        exact En.eq c2.symm (show max e.s s = e.s by omega)
      · rw [if_neg c2] at hq
        exfalso
        have : sq v a = 0 := sq_none fun f hf => by have := h.1 f hf; omega
        omega
theorem rwith_f {xs : List S54} (h : upS xs) (a s : Int) (hs : 0 < s) (hm : xs.length ≤ 1000000) (k : Nat) (hk : 2 * xs.length < k) : foolscapref12_With.f k xs a s = some (wtS xs a s) := by
  unfold foolscapref12_With.f
  rw [rseq_f xs a hm k (by omega), Option.bind_some]
  by_cases c : sq (ens xs) a ≥ s
  · rw [if_pos c, Option.bind_some, if_pos (by simp; omega)]
    congr 1
    apply ens_inj
    rw [wtS_eq h, wt_same (upS_up h) a s c hs]
    rfl
  · rw [if_neg c, show (0 : Int) = ((0 : Nat) : Int) from rfl, with_l0 xs a s hm xs.length 0 k [] false (by omega) (by omega) hk (by simp; omega)]
    congr 1
    apply ens_inj
    rw [wtS_eq h, List.nil_append, List.drop_zero]
    exact mg_false a s hs h (by omega)
end Go.Proofs.Ytbbiocmlicoipaa.PC
