/- The law UtfOrder on lists and numbers: characters are ordered as their bytes; no condition. -/
import Derived.Test.YtdbpeaadnhiekaaLUtfOrder
import Derived.Test.YtdbpeaadnhiekaaUC
namespace Go.Proofs.Ytdbpeaadnhiekaa.Pure
open Go.RowKit Go.Proofs.Ytdbpeaadnhiekaa.PU Go.Proofs.Ytdbpeaadnhiekaa.U Go.Proofs.YtdbpeaadnhiekaaW.PrintWords Go.Proofs.YtdbpeaadnhiekaaW.PrintLast
set_option linter.unusedVariables false
set_option linter.unusedSimpArgs false
/-- The order of rows of numbers. -/
def lexB : List Int → List Int → Bool
  | _, [] => false
  | [], _ :: _ => true
  | a :: x, b :: y => decide (a < b) || (decide (a = b) && lexB x y)
theorem lex_nums {a b : List Int} (ha : byl a) (hb : byl b) : Op.bytesLess (strOfNums a).toList (strOfNums b).toList = lexB a b := by
  have e : ∀ l : List Int, (strOfNums l).toList = l.map (fun n => UInt8.ofNat n.toNat) := by
    intro l
    unfold strOfNums
    exact ByteArray.toList_mk _
  rw [e, e]
  induction a generalizing b with
  | nil => cases b <;> rfl
  | cons x a ih =>
    cases b with
    | nil => rfl
    | cons y b =>
      have hx := ha x (by simp)
      have hy := hb y (by simp)
      have h := ih (fun z hz => ha z (List.mem_cons_of_mem _ hz)) (b := b) (fun z hz => hb z (List.mem_cons_of_mem _ hz))
      simp only [List.map_cons, Op.bytesLess, lexB, h]
      have h1 : (UInt8.ofNat x.toNat < UInt8.ofNat y.toNat) ↔ x < y := by
        rw [UInt8.lt_iff_toNat_lt]
        simp
        omega
      have h2 : (UInt8.ofNat x.toNat = UInt8.ofNat y.toNat) ↔ x = y := by
        constructor
        · intro h
          have := congrArg UInt8.toNat h
          simp at this
          omega
        · intro h; rw [h]
      congr 1
      · exact decide_eq_decide.2 h1
      · congr 1
        rw [Bool.eq_iff_iff]
        simp [h2]
theorem lex_same (p x y : List Int) : lexB (p ++ x) (p ++ y) = lexB x y := by
  induction p with
  | nil => rfl
  | cons a p ih => simp [lexB, ih]
theorem lex_lt {c d : Int} (hc : okc c = true) (hd : okc d = true) (h : c < d) (x y : List Int) : lexB (eb c ++ x) (eb d ++ y) = true ∧ lexB (eb d ++ y) (eb c ++ x) = false := by
  rw [okc_iff] at hc hd
  have tr : ∀ (a b : Int) (u v : Bool), (a < b ∨ (a = b ∧ u = true)) → (decide (a < b) || (decide (a = b) && u)) = true := by
    intro a b u v h; rcases h with h | ⟨h, h'⟩ <;> simp [*]
  by_cases c1 : c ≤ 127
  · have ec : eb c = [c] := by unfold eb; rw [if_pos c1]
    by_cases d1 : d ≤ 127
    · have ed : eb d = [d] := by unfold eb; rw [if_pos d1]
      rw [ec, ed]; simp only [List.cons_append, List.nil_append, lexB]
      constructor
      · simp; omega
      · simp; omega
    by_cases d2 : d ≤ 2047
    · rw [ec, eb2 (by omega) d2]; simp only [List.cons_append, List.nil_append, lexB]; constructor <;> simp <;> omega
    by_cases d3 : d ≤ 65535
    · rw [ec, eb3 (by omega) d3]; simp only [List.cons_append, List.nil_append, lexB]; constructor <;> simp <;> omega
    · rw [ec, eb4 (by omega)]; simp only [List.cons_append, List.nil_append, lexB]; constructor <;> simp <;> omega
  by_cases c2 : c ≤ 2047
  · by_cases d2 : d ≤ 2047
    · rw [eb2 (by omega) c2, eb2 (by omega) d2]; simp only [List.cons_append, List.nil_append, lexB]; constructor <;> simp <;> omega
    by_cases d3 : d ≤ 65535
    · rw [eb2 (by omega) c2, eb3 (by omega) d3]; simp only [List.cons_append, List.nil_append, lexB]; constructor <;> simp <;> omega
    · rw [eb2 (by omega) c2, eb4 (by omega)]; simp only [List.cons_append, List.nil_append, lexB]; constructor <;> simp <;> omega
  by_cases c3 : c ≤ 65535
  · by_cases d3 : d ≤ 65535
    · rw [eb3 (by omega) c3, eb3 (by omega) d3]; simp only [List.cons_append, List.nil_append, lexB]; constructor <;> simp <;> omega
    · rw [eb3 (by omega) c3, eb4 (by omega)]; simp only [List.cons_append, List.nil_append, lexB]; constructor <;> simp <;> omega
  · rw [eb4 (by omega), eb4 (by omega)]; simp only [List.cons_append, List.nil_append, lexB]; constructor <;> simp <;> omega
theorem lex_nil (c : Int) (x : List Int) : lexB [] (eb c ++ x) = true ∧ lexB (eb c ++ x) [] = false := by
  have h := eb_ne c x
  cases he : eb c ++ x with
  | nil => exact absurd he h
  | cons a t => exact ⟨rfl, rfl⟩
/-- The loop, from where both rows are the same on. -/
theorem order_l (a b : List Int) (ha : okl a = true) (hb : okl b = true) (hla : a.length ≤ 50) (hlb : b.length ≤ 50) : ∀ (d k i : Nat), i + d = min a.length b.length → 2 * d + 10 ≤ k → (∀ x : List Int, lexB (ebs a) (ebs b) = lexB (ebs (a.drop i)) (ebs (b.drop i))) →
    foolscaplaw01_UtfOrder.l0 k a b true (ebs a) (ebs b) (decide ((a.length : Int) < (b.length : Int))) (i : Int) = some true := by
  intro d
  induction d with
  | zero =>
    intro k i hi hk hs
    have hs := hs []
    obtain ⟨k, rfl⟩ : ∃ m, k = m + 1 := ⟨k - 1, by omega⟩
    rw [foolscaplaw01_UtfOrder.l0]
    obtain ⟨k, rfl⟩ : ∃ m, k = m + 1 := ⟨k - 1, by omega⟩
    have fin : ∀ q : Bool, q = false → foolscaplaw01_UtfOrder.j2 (k + 1) a b true (ebs a) (ebs b) (decide ((a.length : Int) < (b.length : Int))) (i : Int) q = some true := by
      intro q hq
      rw [hq, foolscaplaw01_UtfOrder.j2, if_neg (by decide), if_pos rfl, lex_nums (ebs_byl ha) (ebs_byl hb), hs]
      by_cases h : i < b.length
      · have hia : i = a.length := by omega
        rw [List.drop_of_length_le (l := a) (by omega), List.drop_eq_getElem_cons h]
        simp only [ebs]
        rw [(lex_nil _ _).1, decide_eq_true (by omega)]
        rfl
      · rw [List.drop_of_length_le (l := b) (by omega), decide_eq_false (by omega)]
        simp only [ebs]
        cases ebs (List.drop i a) <;> rfl
    by_cases h : (i : Int) < (a.length : Int)
    · rw [if_pos h]
      exact fin _ (by simp; omega)
    · rw [if_neg h]
      exact fin _ rfl
  | succ d ih =>
    intro k i hi hk hs
    obtain ⟨k, rfl⟩ : ∃ m, k = m + 1 := ⟨k - 1, by omega⟩
    have h1 : i < a.length := by omega
    have h2 : i < b.length := by omega
    rw [foolscaplaw01_UtfOrder.l0, if_pos (by omega)]
    obtain ⟨k, rfl⟩ : ∃ m, k = m + 1 := ⟨k - 1, by omega⟩
    have ha' : okc a[i] = true := by unfold okl at ha; exact (List.all_eq_true.1 ha) _ (List.getElem_mem h1)
    have hb' : okc b[i] = true := by unfold okl at hb; exact (List.all_eq_true.1 hb) _ (List.getElem_mem h2)
    rw [foolscaplaw01_UtfOrder.j2, if_pos (by simp; omega), if_pos (by omega), if_pos (by omega), if_pos (by omega), rd_nat a i h1, rd_nat b i h2]
    have e : ∀ x : List Int, lexB (ebs a) (ebs b) = lexB (eb a[i] ++ ebs (a.drop (i + 1))) (eb b[i] ++ ebs (b.drop (i + 1))) := by
      intro x
      rw [hs x, List.drop_eq_getElem_cons h1, List.drop_eq_getElem_cons h2]
      rfl
    by_cases h : a[i] = b[i]
    · rw [if_pos h, wrap64_in (by omega) (by omega), show ((i : Int) + 1) = ((i + 1 : Nat) : Int) by simp]
      refine ih k (i + 1) (by omega) (by omega) fun x => ?_
      rw [e x, h, lex_same]
    · rw [if_neg h, if_pos rfl, lex_nums (ebs_byl ha) (ebs_byl hb), e []]
      by_cases hlt : a[i] < b[i]
      · rw [(lex_lt ha' hb' hlt _ _).1, decide_eq_true hlt]; rfl
      · rw [(lex_lt hb' ha' (by omega) _ _).2, decide_eq_false hlt]; rfl
theorem UtfOrder : foolscaplaw01_UtfOrder.Pure := by
  intro l0 l1 _ _ _ _ _ _
  refine ⟨6000, ?_⟩
  generalize hK : 6000 = K
  have hK' : 6000 ≤ K := by omega
  clear hK
  unfold foolscaplaw01_UtfOrder.f
  have hla := cut_le l0 (m := 50) (by decide)
  have hlb := cut_le l1 (m := 50) (by decide)
  rw [shown_f K (by omega)]
  simp only [Option.bind_some]
  rw [if_pos (cut_lo l0.length (by decide)), if_pos (cut_hi l0.length _), if_pos (cut_lo l1.length (by decide)), if_pos (cut_hi l1.length _)]
  generalize l0.take (mn (l0.length : Int) 50).toNat = a at *
  generalize l1.take (mn (l1.length : Int) 50).toNat = b at *
  rw [Encode_f a (by omega) K (by omega), Encode_f b (by omega) K (by omega)]
  simp only [Option.bind_some]
  obtain ⟨K, rfl⟩ : ∃ m, K = m + 1 := ⟨K - 1, by omega⟩
  have hj : ∀ (x y : List Int), foolscaplaw01_UtfOrder.j0 (K + 1) a b true x y true = some true := by
    intro x y
    rw [foolscaplaw01_UtfOrder.j0, if_pos rfl]
  by_cases ha : okl a = true
  · by_cases hb : okl b = true
    · rw [encR_ok ha, encR_ok hb, if_pos rfl, foolscaplaw01_UtfOrder.j0, if_neg (by simp)]
      exact order_l a b ha hb (by omega) (by omega) (min a.length b.length) K 0 (by omega) (by omega) fun _ => rfl
    · rw [encR_ok ha, encR_no hb, if_pos rfl]
      exact hj _ _
  · rw [encR_no ha, if_neg (by decide)]
    exact hj _ _
end Go.Proofs.Ytdbpeaadnhiekaa.Pure
