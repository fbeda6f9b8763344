/- The law UtfOne on lists and numbers: each number is a character, or not, and its bytes are told from all others; no condition. -/
import Derived.Test.YtdbpeaadnhiekaaLUtfOne
import Derived.Test.YtdbpeaadnhiekaaUC
namespace Go.Proofs.Ytdbpeaadnhiekaa.Pure
open Go.RowKit Go.Proofs.Ytdbpeaadnhiekaa.PU Go.Proofs.Ytdbpeaadnhiekaa.U Go.Proofs.YtdbpeaadnhiekaaW.PrintWords Go.Proofs.YtdbpeaadnhiekaaW.PrintLast
set_option linter.unusedVariables false
set_option linter.unusedSimpArgs false
theorem one_ebs {c : Int} : ebs [c] = eb c := by simp [ebs]
theorem one_okl {c : Int} : okl [c] = okc c := by simp [okl]
theorem tl_cut {c : Int} (h : okc c = true) (k : Nat) (h0 : 0 < k) (hk : k < (eb c).length) : tl ((eb c).take k) = (k : Int) := by
  have hf := fst_cut h k h0 hk
  have hl := (eb_len c).2
  have hlen : ((eb c).take k).length = k := by rw [List.length_take]; omega
  unfold tl
  rw [hlen, Nat.min_eq_right (by omega)]
  obtain ⟨m, rfl⟩ : ∃ m, k = m + 1 := ⟨k - 1, by omega⟩
  simp only [tlF]
  rw [hlen, Nat.sub_self, List.drop_zero, hf, if_pos rfl]
theorem u8_and255 (x : Int) : 0 ≤ Go.bits .and .i64 x 255 := by
  unfold Go.bits
  have h : (BitVec.ofInt 64 x &&& BitVec.ofInt 64 255).toNat ≤ 255 := by
    rw [BitVec.toNat_and]
    exact Nat.le_trans Nat.and_le_right (by decide)
  show 0 ≤ IntKind.i64.wrap (((BitVec.ofInt 64 x &&& BitVec.ofInt 64 255).toNat : Nat) : Int)
  rw [IntKind.wrap_i64]
  omega
theorem one_j2 (k : Nat) (hk : 20 ≤ k) (c x2 : Int) (h : okc c = true) : foolscaplaw01_UtfOne.j2 k x2 true (eb c) false = some true := by
  obtain ⟨k, rfl⟩ : ∃ m, k = m + 1 := ⟨k - 1, by omega⟩
  have hl := eb_len c
  have hb := eb_byl h
  have hx := u8_and255 x2
  rw [foolscaplaw01_UtfOne.j2, if_neg (by decide), if_neg (by omega)]
  generalize Go.bits .and .i64 x2 255 = q at *
  have h1 : 0 ≤ Int.tmod q ((eb c).length : Int) := Int.tmod_nonneg _ hx
  have h2 : Int.tmod q ((eb c).length : Int) < ((eb c).length : Int) := Int.tmod_lt_of_pos _ (by omega)
  generalize Int.tmod q ((eb c).length : Int) = t at *
  obtain ⟨n, rfl⟩ := Int.eq_ofNat_of_zero_le h1
  rw [if_pos h1, if_pos (by omega), Int.toNat_natCast, First_f _ (byl_take hb n) (by rw [List.length_take]; omega) k (by omega)]
  simp only [Option.bind_some]
  by_cases h0 : n = 0
  · subst h0
    rw [if_pos (by rfl), if_pos trivial, List.take_zero]
    rfl
  · have hcut := fst_cut h n (by omega) (by omega)
    rw [if_neg (by omega), if_pos trivial, hcut, if_pos rfl, Tail_f _ (byl_take hb n) (by rw [List.length_take]; omega) k (by omega), tl_cut h n (by omega) (by omega)]
    simp
theorem one_j1 (k : Nat) (hk : 40 ≤ k) (c x2 : Int) (m : List Int) (hm : byl m) (hml : m.length ≤ 20) (h : okc c = true) : foolscaplaw01_UtfOne.j1 k c m x2 true (eb c) false = some true := by
  obtain ⟨k, rfl⟩ : ∃ m, k = m + 1 := ⟨k - 1, by omega⟩
  have hl := eb_len c
  rw [foolscaplaw01_UtfOne.j1, if_neg (by decide)]
  simp only [Option.bind_some, List.nil_append]
  rw [if_pos (by simp only [List.length_nil]; omega), if_pos (by omega), First_f _ ((byl_append _ _).2 ⟨eb_byl h, hm⟩) (by rw [List.length_append]; omega) k (by omega), fst_eb h]
  simp only [Option.bind_some]
  rw [if_pos trivial, if_pos trivial, sz_ok h, show (((eb c).length : Int) != ((eb c).length : Int)) = false by simp]
  exact one_j2 k (by omega) c x2 h
theorem one_j0 (k : Nat) (hk : 60 ≤ k) (c x2 : Int) (m : List Int) (hm : byl m) (hml : m.length ≤ 20) (q : Bool) (hq : q = okc c) : foolscaplaw01_UtfOne.j0 k c m x2 true q = some true := by
  obtain ⟨k, rfl⟩ : ∃ m, k = m + 1 := ⟨k - 1, by omega⟩
  subst hq
  rw [foolscaplaw01_UtfOne.j0, Encode_f [c] (by simp) k (by simp; omega)]
  simp only [Option.bind_some]
  by_cases h : okc c = true
  · have hl := eb_len c
    rw [if_pos h, encR_ok (by rw [one_okl]; exact h), one_ebs, if_pos rfl, if_neg (by simp only; omega), if_neg (by simp only; omega), Size_k k (by omega)]
    simp only [Option.bind_some]
    rw [sz_ok h, show (((eb c).length : Int) != ((eb c).length : Int)) = false by simp]
    exact one_j1 k (by omega) c x2 m hm hml h
  · rw [if_neg h, encR_no (by rw [one_okl]; exact h), if_pos trivial, if_pos rfl, if_pos (by simp), Size_k k (by omega), sz_no h]
    rfl
theorem UtfOne : foolscaplaw01_UtfOne.Pure := by
  intro c l1 x2 _ _ _ h1 _
  refine ⟨6000, ?_⟩
  generalize hK : 6000 = K
  have hK' : 6000 ≤ K := by omega
  clear hK
  unfold foolscaplaw01_UtfOne.f
  have hlb := cut_le l1 (m := 20) (by decide)
  have hb : byl (l1.take (mn (l1.length : Int) 20).toNat) := byl_take (byl_of h1) _
  rw [shown_f K (by omega)]
  simp only [Option.bind_some]
  rw [if_pos (cut_lo l1.length (by decide)), if_pos (cut_hi l1.length _)]
  generalize l1.take (mn (l1.length : Int) 20).toNat = b at *
  have go := fun q => one_j0 K (by omega) c x2 b hb (by omega) q
  by_cases g0 : c ≥ 0
  · rw [if_pos g0]
    by_cases g1 : c ≤ 1114111
    · rw [if_pos g1]
      by_cases g2 : c < 55296
      · rw [if_pos g2]
        exact go _ ((okc_iff c).2 (by omega)).symm
      · rw [if_neg g2]
        refine go _ ?_
        rw [Bool.eq_iff_iff, okc_iff]
        simp
        omega
    · rw [if_neg g1]
      exact go _ (by rw [Bool.eq_iff_iff, okc_iff]; simp; omega)
  · rw [if_neg g0]
    exact go _ (by rw [Bool.eq_iff_iff, okc_iff]; simp; omega)
end Go.Proofs.Ytdbpeaadnhiekaa.Pure
