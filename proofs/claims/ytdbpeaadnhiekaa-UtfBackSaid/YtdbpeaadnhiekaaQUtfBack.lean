/- The law UtfBack on lists and numbers: what is encoded is decoded, and there is one way to write it; no condition. -/
import Derived.Test.YtdbpeaadnhiekaaLUtfBack
import Derived.Test.YtdbpeaadnhiekaaUC
namespace Go.Proofs.Ytdbpeaadnhiekaa.Pure
open Go.RowKit Go.Proofs.Ytdbpeaadnhiekaa.PU Go.Proofs.Ytdbpeaadnhiekaa.U Go.Proofs.YtdbpeaadnhiekaaW.PrintWords Go.Proofs.YtdbpeaadnhiekaaW.PrintLast
set_option linter.unusedVariables false
set_option linter.unusedSimpArgs false
theorem back_j (k : Nat) (hk : 5000 ≤ k) (b : List Int) (hb : byl b) (hl : b.length ≤ 1000) : foolscaplaw01_UtfBack.j0 k b true = some true := by
  obtain ⟨k, rfl⟩ : ∃ m, k = m + 1 := ⟨k - 1, by omega⟩
  rw [foolscaplaw01_UtfBack.j0, Decode_f b hb (by omega) k (by omega)]
  simp only [Option.bind_some]
  rcases dec_tells hb with ⟨c, hc, rfl, e⟩ | e
  · have := len_le_ebs c
    rw [e, if_pos rfl, Encode_f c (by omega) k (by omega), encR_ok hc]
    simp only [Option.bind_some]
    rw [if_pos trivial, if_pos trivial, nums_eq hb hb, decide_eq_true rfl]
  · rw [e, if_neg (by decide)]
    rfl
theorem UtfBack : foolscaplaw01_UtfBack.Pure := by
  intro l0 l1 _ _ _ _ _ h1
  refine ⟨6000, ?_⟩
  generalize hK : 6000 = K
  have hK' : 6000 ≤ K := by omega
  clear hK
  unfold foolscaplaw01_UtfBack.f
  have hb : byl (l1.take (mn (l1.length : Int) 1000).toNat) := byl_take (byl_of h1) _
  have hlb := cut_le l1 (m := 1000) (by decide)
  have hla := cut_le l0 (m := 300) (by decide)
  rw [shown_f K (by omega)]
  simp only [Option.bind_some]
  rw [if_pos (cut_lo l0.length (by decide)), if_pos (cut_hi l0.length _), if_pos (cut_lo l1.length (by decide)), if_pos (cut_hi l1.length _)]
  generalize l0.take (mn (l0.length : Int) 300).toNat = a at *
  generalize l1.take (mn (l1.length : Int) 1000).toNat = b at *
  rw [Encode_f a (by omega) K (by omega)]
  simp only [Option.bind_some]
  by_cases h : okl a = true
  · have := ebs_len_le a
    rw [encR_ok h, if_pos rfl, Decode_f _ (ebs_byl h) (by omega) K (by omega), dec_ebs h]
    simp only [Option.bind_some]
    rw [Same_f a a (by omega) K (by omega)]
    simp only [Option.bind_some, decide_true]
    rw [if_pos trivial, if_pos trivial]
    exact back_j K (by omega) b hb (by omega)
  · rw [encR_no h, if_neg (by decide), if_pos rfl, if_neg (by decide)]
    exact back_j K (by omega) b hb (by omega)
end Go.Proofs.Ytdbpeaadnhiekaa.Pure
