/- The law UtfTells on lists and numbers: characters have the bytes that the document says, and bytes are characters, or not; no condition. -/
import Derived.Test.YtdbpeaadnhiekaaLUtfTells
import Derived.Test.YtdbpeaadnhiekaaURC
namespace Go.Proofs.Ytdbpeaadnhiekaa.Pure
open Go.RowKit Go.Proofs.Ytdbpeaadnhiekaa.PU Go.Proofs.Ytdbpeaadnhiekaa.U Go.Proofs.YtdbpeaadnhiekaaW.PrintWords Go.Proofs.YtdbpeaadnhiekaaW.PrintLast
set_option linter.unusedVariables false
set_option linter.unusedSimpArgs false
theorem UtfTells : foolscaplaw01_UtfTells.Pure := by
  intro l0 l1 c _ _ _ _ _ h1 _
  refine ⟨6000, ?_⟩
  generalize hK : 6000 = K
  have hK' : 6000 ≤ K := by omega
  clear hK
  unfold foolscaplaw01_UtfTells.f
  have hla := cut_le l0 (m := 300) (by decide)
  have hlb := cut_le l1 (m := 1000) (by decide)
  have hb : byl (l1.take (mn (l1.length : Int) 1000).toNat) := byl_take (byl_of h1) _
  rw [shown_f K (by omega)]
  simp only [Option.bind_some]
  rw [if_pos (cut_lo l0.length (by decide)), if_pos (cut_hi l0.length _), if_pos (cut_lo l1.length (by decide)), if_pos (cut_hi l1.length _)]
  generalize l0.take (mn (l0.length : Int) 300).toNat = a at *
  generalize l1.take (mn (l1.length : Int) 1000).toNat = b at *
  have he := enc_same a
  rw [if_pos (by simp only [List.length_nil]; omega), if_pos (by simp only [List.length_nil]; omega), List.nil_append, List.nil_append, Encode_f a (by omega) K (by omega)]
  simp only [Option.bind_some]
  rw [rEncode_f a (by omega) K (by omega), First_f b hb (by omega) K (by omega)]
  simp only [Option.bind_some]
  rw [rFirst_f hb (by omega) K (by omega), Decode_f b hb (by omega) K (by omega)]
  simp only [Option.bind_some]
  rw [rDecode_f b hb (by omega) K (by omega)]
  simp only [Option.bind_some]
  have hd : (dec b).1.length ≤ 1000 := by
    rcases dec_tells hb with ⟨k, _, e1, e2⟩ | e2
    · have := len_le_ebs k
      rw [e2]; rw [e1] at hlb; simp only; omega
    · rw [e2]; simp
  rw [Same_f _ _ (by omega) K (by omega)]
  simp only [Option.bind_some, decide_true]
  rw [if_pos trivial, if_pos he.1, if_pos he.2, if_pos trivial, if_pos trivial, if_pos trivial, if_pos trivial, if_pos trivial, Size_k K (by omega)]
  simp only [Option.bind_some]
  rw [rSize_k K (by omega)]
  simp only [Option.bind_some]
  rw [if_pos trivial, Tail_f b hb (by omega) K (by omega)]
  simp only [Option.bind_some]
  rw [rTail_f b hb (by omega) K (by omega)]
  simp
end Go.Proofs.Ytdbpeaadnhiekaa.Pure
