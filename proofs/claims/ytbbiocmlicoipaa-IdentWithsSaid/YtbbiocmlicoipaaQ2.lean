/- Rows of entries put into a vector one behind the other, and ident.Vector, as plain facts; vectors of at most some thousands. -/
import Derived.Test.YtbbiocmlicoipaaQ1
namespace Go.Proofs.Ytbbiocmlicoipaa.PC
open Go.RowKit Go.Proofs.YtbbiocmlicoipaaW.PrintWords Go.Proofs.YtbbiocmlicoipaaW.PrintLast Go.Proofs.YtbbiocmlicoipaaW.PrintMore Go.Proofs.Ytbbiocmlicoipaa.K Go.Proofs.Ytbbiocmlicoipaa.I
set_option linter.unusedVariables false
set_option linter.unusedSimpArgs false
theorem bits_le (x : Int) (m : Nat) (hm : m < 4611686018427387904) : 0 ≤ Go.bits .and .i64 x (m : Int) ∧ Go.bits .and .i64 x (m : Int) ≤ m := by
  have hb : m % 2 ^ IntKind.i64.bits = m := Nat.mod_eq_of_lt (Nat.lt_trans hm (by decide))
  have h1 : (BitVec.ofInt IntKind.i64.bits x).toNat &&& m ≤ m := Nat.and_le_right
  have e : Go.bits .and .i64 x (m : Int) = (((BitVec.ofInt IntKind.i64.bits x).toNat &&& m : Nat) : Int) := by
    simp only [Go.bits, BitVec.ofInt_natCast, BitVec.toNat_and, BitVec.toNat_ofNat, hb]
    rw [IntKind.wrap_i64]
    omega
  rw [e]
  omega
/-- What a law makes of an entry: an author, a number. -/
def ent (e : S54) : Int × Int := (Go.bits .and .i64 e.f0 4194303, wrap64 (1 + (Go.bits .and .i64 e.f1 65535)))
theorem ent_ok (e : S54) : 0 ≤ (ent e).1 ∧ (ent e).1 < 4194304 ∧ 1 ≤ (ent e).2 ∧ (ent e).2 ≤ 65536 := by
  have h1 : 0 ≤ Go.bits .and .i64 e.f0 4194303 ∧ Go.bits .and .i64 e.f0 4194303 ≤ 4194303 := bits_le e.f0 4194303 (by decide)
  have h2 : 0 ≤ Go.bits .and .i64 e.f1 65535 ∧ Go.bits .and .i64 e.f1 65535 ≤ 65535 := bits_le e.f1 65535 (by decide)
  unfold ent
  simp only [wrap64]
  omega
def okP (ps : List (Int × Int)) : Prop := ∀ p ∈ ps, 0 ≤ p.1 ∧ p.1 < 4194304 ∧ 1 ≤ p.2 ∧ p.2 ≤ 65536
def putS (v : List S54) (ps : List (Int × Int)) : List S54 := ps.foldl (fun v p => wtS v p.1 p.2) v
def mo (m : Int) (ps : List (Int × Int)) (x : Int) : Int := ps.foldl (fun m p => if p.1 = x then max m p.2 else m) m
theorem putS_snoc (v : List S54) (ps : List (Int × Int)) (p : Int × Int) : putS v (ps ++ [p]) = wtS (putS v ps) p.1 p.2 := by unfold putS; rw [List.foldl_append]; rfl
theorem mo_snoc (m : Int) (ps : List (Int × Int)) (p : Int × Int) (x : Int) : mo m (ps ++ [p]) x = if p.1 = x then max (mo m ps x) p.2 else mo m ps x := by unfold mo; rw [List.foldl_append]; rfl
theorem mo_base (m : Int) (ps : List (Int × Int)) (x : Int) (hm : 0 ≤ m) : mo m ps x = max m (mo 0 ps x) ∧ 0 ≤ mo 0 ps x := by
  induction ps generalizing m with
  | nil => exact ⟨by simp [mo]; omega, Int.le_refl _⟩
  | cons p ps ih =>
    show mo (if p.1 = x then max m p.2 else m) ps x = max m (mo (if p.1 = x then max 0 p.2 else 0) ps x) ∧ 0 ≤ mo (if p.1 = x then max 0 p.2 else 0) ps x
    by_cases c : p.1 = x
    · rw [if_pos c, if_pos c]
      have a := ih (max m p.2) (by omega)
      have b := ih (max 0 p.2) (by omega)
      omega
    · rw [if_neg c, if_neg c]
      exact ih m hm
theorem mo_cons (p : Int × Int) (ps : List (Int × Int)) (x : Int) : mo 0 (p :: ps) x = if p.1 = x then max p.2 (mo 0 ps x) else mo 0 ps x := by
  show mo (if p.1 = x then max 0 p.2 else 0) ps x = _
  have b := mo_base (max 0 p.2) ps x (by omega)
  have b0 := mo_base 0 ps x (by omega)
  by_cases c : p.1 = x
  · rw [if_pos c, if_pos c]; omega
  · rw [if_neg c, if_neg c]
theorem mo_rev (ps : List (Int × Int)) (x : Int) : mo 0 ps.reverse x = mo 0 ps x := by
  induction ps with
  | nil => rfl
  | cons p ps ih =>
    rw [List.reverse_cons, mo_snoc, mo_cons, ih]
    by_cases c : p.1 = x
    · rw [if_pos c, if_pos c]; omega
    · rw [if_neg c, if_neg c]
theorem okP_snoc {ps : List (Int × Int)} {p : Int × Int} : okP (ps ++ [p]) ↔ okP ps ∧ (0 ≤ p.1 ∧ p.1 < 4194304 ∧ 1 ≤ p.2 ∧ p.2 ≤ 65536) := by
  unfold okP
  constructor
  · intro h; exact ⟨fun q hq => h q (by simp [hq]), h p (by simp)⟩
  · rintro ⟨h1, h2⟩ q hq
    rcases List.mem_append.1 hq with hq | hq
    · exact h1 q hq
    · simp at hq; rw [hq]; exact h2
theorem snoc_ind {α : Type} {p : List α → Prop} (h0 : p []) (h1 : ∀ l x, p l → p (l ++ [x])) (l : List α) : p l := by
  have : ∀ r : List α, p r.reverse := by
    intro r
    induction r with
    | nil => exact h0
    | cons x r ih => rw [List.reverse_cons]; exact h1 _ _ ih
  have := this l.reverse
  rwa [List.reverse_reverse] at this
theorem putS_all (ps : List (Int × Int)) : okP ps → upS (putS [] ps) ∧ vec (ens (putS [] ps)) ∧ (putS [] ps).length ≤ ps.length ∧ ∀ x, sq (ens (putS [] ps)) x = mo 0 ps x := by
  induction ps using snoc_ind with
  | h0 => intro _; exact ⟨List.Pairwise.nil, vec_nil, Nat.le_refl _, fun x => rfl⟩
  | h1 ps p ih =>
    intro h
    obtain ⟨h1, h2⟩ := okP_snoc.1 h
    obtain ⟨a, b, c, d⟩ := ih h1
    rw [putS_snoc]
    have e := wtS_eq a p.1 p.2
    have l := wtS_len a p.1 p.2
    refine ⟨wtS_up a _ _, ?_, by simp; omega, fun x => ?_⟩
    · rw [e]; exact wt_vec b ⟨h2.1, h2.2.1⟩ (by omega)
    · rw [e, wt_sq b (by omega), mo_snoc]
      by_cases c : x = p.1
      · rw [if_pos c, if_pos c.symm, d, c]
      · rw [if_neg c, if_neg (fun k => c k.symm), d]
theorem putS_rev {ps : List (Int × Int)} (h : okP ps) : putS [] ps.reverse = putS [] ps := by
  have a := putS_all ps h
  have b := putS_all ps.reverse (fun p hp => h p (List.mem_reverse.1 hp))
  apply ens_inj
  refine vec_ext b.2.1 a.2.1 fun x => ?_
  rw [b.2.2.2, a.2.2.2, mo_rev]
def ents (l : List S54) : List (Int × Int) := l.map ent
theorem ents_ok (l : List S54) : okP (ents l) := by
  intro p hp
  obtain ⟨e, _, rfl⟩ := List.mem_map.1 hp
  exact ent_ok e
theorem ents_take (l : List S54) (i : Nat) (h : i < l.length) : ents (l.take (i + 1)) = ents (l.take i) ++ [ent (rd_T54 l (i : Int))] := by
  unfold ents
  rw [← List.map_singleton, ← List.map_append, rd_ok _ _ h, ← List.take_append_getElem h]
theorem put_take (l : List S54) (i : Nat) (h : i < l.length) : putS [] (ents (l.take (i + 1))) = wtS (putS [] (ents (l.take i))) (Go.bits .and .i64 (rd_T54 l (i : Int)).f0 4194303) (wrap64 (1 + (Go.bits .and .i64 (rd_T54 l (i : Int)).f1 65535))) := by
  rw [ents_take l i h, putS_snoc]; rfl
theorem ents_len (l : List S54) : (ents l).length = l.length := List.length_map _
/-- The laws' vector of what is handed in. -/
def vecS (l : List S54) : List S54 := putS [] (ents (l.take 30))
theorem vector_l0 (l : List S54) : ∀ (d i k : Nat), 30 - i = d → i ≤ 30 → i ≤ l.length → d + 70 < k → foolscaplaw12_vector.l0 k l (putS [] (ents (l.take i))) (i : Int) = some (vecS l) := by
  intro d
  induction d with
  | zero =>
    intro i k hd hi hl hk
    obtain ⟨k, rfl⟩ : ∃ m, k = m + 1 := ⟨k - 1, by omega⟩
    obtain rfl : i = 30 := by omega
    rw [foolscaplaw12_vector.l0]
    unfold vecS
    by_cases c : ((30 : Nat) : Int) < (l.length : Int)
    · rw [if_pos c, if_neg (by omega)]
    · rw [if_neg c]
  | succ d ih =>
    intro i k hd hi hl hk
    obtain ⟨k, rfl⟩ : ∃ m, k = m + 1 := ⟨k - 1, by omega⟩
    rw [foolscaplaw12_vector.l0]
    by_cases c : (i : Int) < (l.length : Int)
    · have hlt : i < l.length := by omega
      have hp := putS_all _ (ents_ok (l.take i))
      have hlen : (putS [] (ents (l.take i))).length ≤ 30 := by
        have := hp.2.2.1
        rw [ents_len, List.length_take] at this
        omega
      have he := ent_ok (rd_T54 l (i : Int))
      rw [if_pos c, if_pos (by omega), if_pos (by omega), rwith_f hp.1 _ _ (by have := he.2.2.1; unfold ent at this; simp only at this; omega) (by omega) k (by omega), Option.bind_some, ← put_take l i hlt, wrap_nat _ (by omega)]
      exact ih (i + 1) k (by omega) (by omega) (by omega) (by omega)
    · rw [if_neg c]
      unfold vecS
      rw [List.take_of_length_le (show l.length ≤ i by omega), List.take_of_length_le (show l.length ≤ 30 by omega)]
theorem vector_f (l : List S54) (k : Nat) (hk : 100 < k) : foolscaplaw12_vector.f k l = some (vecS l) := by
  unfold foolscaplaw12_vector.f
  exact vector_l0 l 30 0 k (by omega) (by omega) (by omega) (by omega)
theorem vecS_ok (l : List S54) : upS (vecS l) ∧ vec (ens (vecS l)) ∧ (vecS l).length ≤ 30 := by
  have h := putS_all _ (ents_ok (l.take 30))
  refine ⟨h.1, h.2.1, ?_⟩
  have := h.2.2.1
  rw [ents_len, List.length_take] at this
  unfold vecS
  omega
theorem Vector_l0 (xs : List S54) (hv : vec (ens xs)) (hm : xs.length ≤ 1000000) : ∀ (d i k : Nat) (last : Int), xs.length - i = d → i ≤ xs.length → d < k → -1 ≤ last → last < 4194304 → (∀ e ∈ xs.drop i, last < e.f0) →
    ident_Vector.l0 k last xs (xs.length : Int) (i : Int) = some true := by
  intro d
  induction d with
  | zero =>
    intro i k last hd hi hk _ _ _
    obtain ⟨k, rfl⟩ : ∃ m, k = m + 1 := ⟨k - 1, by omega⟩
    rw [ident_Vector.l0, if_neg (by omega)]
  | succ d ih =>
    intro i k last hd hi hk hl0 hl1 hl
    obtain ⟨k, rfl⟩ : ∃ m, k = m + 1 := ⟨k - 1, by omega⟩
    have h1 : i < xs.length := by omega
    have hf := fit_rd hv.2 i h1
    rw [rd_ok _ _ h1] at hf
    have hlt := hl xs[i] (by rw [List.drop_eq_getElem_cons h1]; exact List.mem_cons_self)
    have hw : wrap64 (last + 1) = last + 1 := by unfold wrap64; omega
    rw [ident_Vector.l0, if_pos (by omega), if_pos (by omega), if_pos (by omega), rd_ok _ _ h1, hw]
    have e1 : ident_in.f xs[i].f0 (last + 1) 4194303 = some true := by unfold ident_in.f; rw [if_pos (by omega), decide_eq_true (by omega)]
    have e2 : ident_in.f xs[i].f1 1 4294967295 = some true := by unfold ident_in.f; rw [if_pos (by omega), decide_eq_true (by omega)]
    rw [e1, Option.bind_some, if_pos rfl, e2, Option.bind_some, if_pos rfl, wrap_nat _ (by omega)]
    refine ih (i + 1) k xs[i].f0 (by omega) (by omega) (by omega) (by omega) (by omega) fun e he => ?_
    have hp := up_upS hv.1
    obtain ⟨j, hj, rfl⟩ := List.getElem_of_mem he
    rw [List.getElem_drop]
    rw [List.length_drop] at hj
    exact List.pairwise_iff_getElem.1 hp i (i + 1 + j) h1 (by omega) (by omega)
theorem Vector_f {xs : List S54} (hv : vec (ens xs)) (hm : xs.length ≤ 1000000) (k : Nat) (hk : xs.length < k) : ident_Vector.f k xs = some true := by
  unfold ident_Vector.f
  refine Vector_l0 xs hv hm xs.length 0 k (-1) (by omega) (by omega) hk (by omega) (by omega) fun e he => ?_
  rw [List.drop_zero] at he
  have := (hv.2 (toE e) (List.mem_map_of_mem he)).1
  show -1 < (toE e).a
  omega
theorem with_f {xs : List S54} (h : upS xs) (hl : xs.length ≤ 1000000) (a s : Int) : ident_With.f xs a s = some (wtS xs a s) := by unfold ident_With.f; rw [if_pos ⟨h, hl⟩]
theorem seq_f {xs : List S54} (h : upS xs) (hl : xs.length ≤ 1000000) (a : Int) : ident_Seq.f xs a = some (sq (ens xs) a) := by unfold ident_Seq.f; rw [if_pos ⟨h, hl⟩]
theorem join_f {xs ys : List S54} (h : upS xs) (hl : xs.length + ys.length ≤ 1000000) : ident_Join.f xs ys = some (joinS xs ys) := by unfold ident_Join.f; rw [if_pos ⟨h, hl⟩]
theorem gap_f {xs ys : List S54} (h : vec (ens xs)) (h2 : fit (ens ys)) (hl : xs.length ≤ 1000000) (hl2 : ys.length ≤ 1000000) : ident_Gap.f xs ys = some (gp (ens xs) (ens ys)) := by unfold ident_Gap.f; rw [if_pos ⟨h, h2, hl, hl2⟩]
theorem covers_f {xs ys : List S54} (h : vec (ens xs)) (h2 : fit (ens ys)) (hl : xs.length ≤ 1000000) (hl2 : ys.length ≤ 1000000) : ident_Covers.f xs ys = some (decide (gp (ens xs) (ens ys) = 0)) := by unfold ident_Covers.f; rw [if_pos ⟨h, h2, hl, hl2⟩]
end Go.Proofs.Ytbbiocmlicoipaa.PC
