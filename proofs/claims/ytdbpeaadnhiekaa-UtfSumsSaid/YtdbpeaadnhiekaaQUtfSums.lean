/- The law UtfSums on lists and numbers: the bytes of characters are as many as their sizes; no condition. -/
import Derived.Test.YtdbpeaadnhiekaaLUtfSums
import Derived.Test.YtdbpeaadnhiekaaUC
namespace Go.Proofs.Ytdbpeaadnhiekaa.Pure
open Go.RowKit Go.Proofs.Ytdbpeaadnhiekaa.PU Go.Proofs.Ytdbpeaadnhiekaa.U Go.Proofs.YtdbpeaadnhiekaaW.PrintWords Go.Proofs.YtdbpeaadnhiekaaW.PrintLast
set_option linter.unusedVariables false
set_option linter.unusedSimpArgs false
def szs (l : List Int) : Int := (l.map sz).foldr (· + ·) 0
theorem szs_ebs {l : List Int} (h : okl l = true) : szs l = ((ebs l).length : Int) := by
  induction l with
  | nil => rfl
  | cons c l ih =>
    rw [okl_cons] at h
    have e : szs (c :: l) = sz c + szs l := rfl
    rw [e, ih h.2, sz_ok h.1]
    simp [ebs]
theorem nums_app (a b : List Int) : ((strOfNums a) ++ (strOfNums b)).toList = (strOfNums (a ++ b)).toList := by
  have e : (strOfNums a) ++ (strOfNums b) = strOfNums (a ++ b) := by
    unfold strOfNums
    apply ByteArray.ext
    simp
  rw [e]
theorem nums_size (a : List Int) : (strOfNums a).size = a.length := by
  unfold strOfNums ByteArray.size
  simp
theorem sums_l (a b : List Int) (ha : okl a = true) (hb : okl b = true) (hl : a.length ≤ 100) (hl' : b.length ≤ 100) : ∀ (d k i : Nat), i + d = a.length → 300 + d ≤ k →
    foolscaplaw01_UtfSums.l0 k a true (ebs a) (ebs b) (ebs (a ++ b)) 0 (szs (a.take i)) (i : Int) = some true := by
  intro d
  induction d with
  | zero =>
    intro k i hi hk
    obtain ⟨k, rfl⟩ : ∃ m, k = m + 1 := ⟨k - 1, by omega⟩
    have h1 := ebs_len_le a
    have h2 := ebs_len_le b
    rw [foolscaplaw01_UtfSums.l0, if_neg (by omega), if_pos rfl, if_pos rfl, List.take_of_length_le (by omega), szs_ebs ha, if_pos rfl, if_pos (by rw [nums_size, nums_size]; omega), nums_app, ebs_append,
      nums_eq ((byl_append _ _).2 ⟨ebs_byl ha, ebs_byl hb⟩) ((byl_append _ _).2 ⟨ebs_byl ha, ebs_byl hb⟩), decide_eq_true rfl]
  | succ d ih =>
    intro k i hi hk
    obtain ⟨k, rfl⟩ : ∃ m, k = m + 1 := ⟨k - 1, by omega⟩
    have hlt : i < a.length := by omega
    have hs : ∀ n, 0 ≤ szs (a.take n) ∧ szs (a.take n) ≤ 400 := by
      intro n
      have hok : okl (a.take n) = true := by
        have := ha
        rw [← List.take_append_drop n a, okl_append] at this
        exact this.1
      rw [szs_ebs hok]
      have := ebs_len_le (a.take n)
      have := List.length_take_le' n a
      omega
    have hstep : szs (a.take i) + sz a[i] = szs (a.take (i + 1)) := by
      rw [List.take_succ_eq_append_getElem hlt]
      have : ∀ (x : List Int) (y : Int), szs (x ++ [y]) = szs x + sz y := by
        intro x y
        induction x with
        | nil => simp [szs]
        | cons c x ih => 
          have e : szs (c :: x ++ [y]) = sz c + szs (x ++ [y]) := rfl
          have e' : szs (c :: x) = sz c + szs x := rfl
          rw [e, ih, e']; omega
      rw [this]
    have h1 := hs i
    have h2 := hs (i + 1)
    rw [foolscaplaw01_UtfSums.l0, if_pos (by omega), if_pos (by omega), rd_nat a i hlt, Size_k k (by omega)]
    simp only [Option.bind_some]
    rw [hstep, wrap64_in (by omega) (by omega), wrap64_in (by omega) (by omega), show ((i : Int) + 1) = ((i + 1 : Nat) : Int) by simp]
    exact ih k (i + 1) (by omega) (by omega)
theorem UtfSums : foolscaplaw01_UtfSums.Pure := by
  intro l0 l1 _ _ _ _ _ _
  refine ⟨6000, ?_⟩
  generalize hK : 6000 = K
  have hK' : 6000 ≤ K := by omega
  clear hK
  unfold foolscaplaw01_UtfSums.f
  have hla := cut_le l0 (m := 100) (by decide)
  have hlb := cut_le l1 (m := 100) (by decide)
  rw [shown_f K (by omega)]
  simp only [Option.bind_some]
  rw [if_pos (cut_lo l0.length (by decide)), if_pos (cut_hi l0.length _), if_pos (cut_lo l1.length (by decide)), if_pos (cut_hi l1.length _)]
  generalize l0.take (mn (l0.length : Int) 100).toNat = a at *
  generalize l1.take (mn (l1.length : Int) 100).toNat = b at *
  rw [Encode_f a (by omega) K (by omega), Encode_f b (by omega) K (by omega)]
  simp only [Option.bind_some, List.nil_append]
  rw [if_pos (by simp only [List.length_nil]; omega), if_pos (by omega), Encode_f (a ++ b) (by rw [List.length_append]; omega) K (by rw [List.length_append]; omega)]
  simp only [Option.bind_some]
  obtain ⟨K, rfl⟩ : ∃ m, K = m + 1 := ⟨K - 1, by omega⟩
  have hj : ∀ (x y z : List Int) (n : Int), foolscaplaw01_UtfSums.j0 (K + 1) a true x y z n true = some (n == 1) := by
    intro x y z n
    rw [foolscaplaw01_UtfSums.j0, if_pos rfl, if_pos rfl]
  by_cases ha : okl a = true
  · by_cases hb : okl b = true
    · have hab : okl (a ++ b) = true := (okl_append a b).2 ⟨ha, hb⟩
      rw [encR_ok ha, encR_ok hb, encR_ok hab, if_pos rfl, foolscaplaw01_UtfSums.j0, if_neg (by simp)]
      exact sums_l a b ha hb (by omega) (by omega) a.length K 0 (by omega) (by omega)
    · have hab : ¬ okl (a ++ b) = true := fun h => hb ((okl_append a b).1 h).2
      rw [encR_ok ha, encR_no hb, encR_no hab, if_pos rfl]
      exact hj _ _ _ _
  · have hab : ¬ okl (a ++ b) = true := fun h => ha ((okl_append a b).1 h).1
    rw [encR_no ha, encR_no hab, if_neg (by decide), hj]
    rfl
end Go.Proofs.Ytdbpeaadnhiekaa.Pure
