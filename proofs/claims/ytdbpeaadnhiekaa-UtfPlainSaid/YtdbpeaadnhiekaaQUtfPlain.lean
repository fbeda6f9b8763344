/- The law UtfPlain on lists and numbers: bytes below 128 are the characters of these numbers, and stand in no other character; no condition. -/
import Derived.Test.YtdbpeaadnhiekaaLUtfPlain
import Derived.Test.YtdbpeaadnhiekaaUC
namespace Go.Proofs.Ytdbpeaadnhiekaa.Pure
open Go.RowKit Go.Proofs.Ytdbpeaadnhiekaa.PU Go.Proofs.Ytdbpeaadnhiekaa.U Go.Proofs.YtdbpeaadnhiekaaW.PrintWords Go.Proofs.YtdbpeaadnhiekaaW.PrintLast
set_option linter.unusedVariables false
set_option linter.unusedSimpArgs false
def st (b : List Int) (i : Nat) : List Int := (b.take i).map (· % 128) ++ b.drop i
theorem st_len (b : List Int) (i : Nat) : (st b i).length = b.length := by unfold st; simp; omega
theorem st_all (b : List Int) : st b b.length = b.map (· % 128) := by unfold st; simp
theorem st_step (b : List Int) (i : Nat) (h : i < b.length) : (st b i).set i (b[i] % 128) = st b (i + 1) := by
  unfold st
  have hl : ((b.take i).map (· % 128)).length = i := by rw [List.length_map, List.length_take]; omega
  rw [List.drop_eq_getElem_cons h, List.take_succ_eq_append_getElem h, List.set_append_right _ _ (by omega), hl, Nat.sub_self, List.set_cons_zero, List.map_append, List.append_assoc]
  rfl
theorem st_rd (b : List Int) (i : Nat) (h : i < b.length) : rd (st b i) (i : Int) = b[i] := by
  rw [rd_nat _ i (by rw [st_len]; exact h)]
  unfold st
  rw [List.getElem_append_right (by simp; omega)]
  simp [Nat.min_eq_left (show i ≤ b.length by omega)]
theorem small_ebs {l : List Int} (h : ∀ x ∈ l, 0 ≤ x ∧ x ≤ 127) : okl l = true ∧ ebs l = l := by
  induction l with
  | nil => exact ⟨rfl, rfl⟩
  | cons c l ih =>
    obtain ⟨h1, h2⟩ := ih fun x hx => h x (List.mem_cons_of_mem _ hx)
    have hc := h c (by simp)
    refine ⟨by rw [okl_cons, okc_iff]; exact ⟨by omega, h1⟩, ?_⟩
    simp only [ebs, h2]
    unfold eb
    rw [if_pos hc.2]
    rfl
theorem big_eb {c : Int} (h : okc c = true) (h8 : 128 ≤ c) : ∀ x ∈ eb c, 128 ≤ x := by
  rw [okc_iff] at h
  intro x hx
  by_cases h2 : c ≤ 2047
  · rw [eb2 (by omega) h2] at hx; simp at hx; omega
  by_cases h3 : c ≤ 65535
  · rw [eb3 (by omega) h3] at hx; simp at hx; omega
  · rw [eb4 (by omega)] at hx; simp at hx; omega
/-- The loop over a character's bytes: to its end. -/
theorem plain_l3 (l : List Int) (hl : l.length * 4 ≤ 140737488351232) (i : Nat) (hi : i < l.length) (x : List Int) (f : Int) (hx : x.length ≤ 10) (hf : f = 0 → 128 ≤ l[i] → ∀ y ∈ x, 128 ≤ y) (k0 : Nat)
    (hnext : ∀ k, k0 ≤ k → foolscaplaw01_UtfPlain.l2 k l true (wrap64 ((i : Int) + 1)) = some true) : ∀ (d k n : Nat), n + d = x.length → k0 + 1 + d ≤ k →
    foolscaplaw01_UtfPlain.l3 k l true (i : Int) x f (n : Int) = some true := by
  intro d
  induction d with
  | zero =>
    intro k n hn hk
    obtain ⟨k, rfl⟩ : ∃ m, k = m + 1 := ⟨k - 1, by omega⟩
    rw [foolscaplaw01_UtfPlain.l3, if_neg (by omega)]
    exact hnext k (by omega)
  | succ d ih =>
    intro k n hn hk
    obtain ⟨k, rfl⟩ : ∃ m, k = m + 1 := ⟨k - 1, by omega⟩
    have hlt : n < x.length := by omega
    have hgo := ih k (n + 1) (by omega) (by omega)
    rw [foolscaplaw01_UtfPlain.l3, if_pos (by omega), wrap64_in (by omega) (by omega), show ((n : Int) + 1) = ((n + 1 : Nat) : Int) by simp]
    by_cases h0 : f = 0
    · rw [if_pos h0, if_pos (by omega), if_pos (by omega), rd_nat l i hi, rd_nat x n hlt]
      by_cases h8 : l[i] ≥ 128
      · have := hf h0 h8 x[n] (List.getElem_mem hlt)
        rw [if_pos h8, if_pos (by omega), if_neg (by omega)]
        exact hgo
      · rw [if_neg h8]
        exact hgo
    · rw [if_neg h0]
      exact hgo
theorem one_of {l : List Int} {i : Nat} (h : i < l.length) : (l.take (i + 1)).drop i = [l[i]] := by
  rw [List.take_succ_eq_append_getElem h, List.drop_append_of_le_length (by simp; omega), List.drop_of_length_le (by simp; omega)]
  rfl
theorem plain_l2 (l : List Int) (hl : l.length * 4 ≤ 140737488351232) : ∀ (d k i : Nat), i + d = min l.length 100 → 30 * (d + 1) ≤ k →
    foolscaplaw01_UtfPlain.l2 k l true (i : Int) = some true := by
  intro d
  induction d with
  | zero =>
    intro k i hi hk
    obtain ⟨k, rfl⟩ : ∃ m, k = m + 1 := ⟨k - 1, by omega⟩
    rw [foolscaplaw01_UtfPlain.l2]
    obtain ⟨k, rfl⟩ : ∃ m, k = m + 1 := ⟨k - 1, by omega⟩
    by_cases h : (i : Int) < (l.length : Int)
    · rw [if_pos h, foolscaplaw01_UtfPlain.j4, if_neg (by simp; omega)]
    · rw [if_neg h, foolscaplaw01_UtfPlain.j4, if_neg (by decide)]
  | succ d ih =>
    intro k i hi hk
    obtain ⟨k, rfl⟩ : ∃ m, k = m + 1 := ⟨k - 1, by omega⟩
    have hlt : i < l.length := by omega
    rw [foolscaplaw01_UtfPlain.l2, if_pos (by omega)]
    obtain ⟨k, rfl⟩ : ∃ m, k = m + 1 := ⟨k - 1, by omega⟩
    have hw : wrap64 ((i : Int) + 1) = ((i + 1 : Nat) : Int) := by rw [wrap64_in (by omega) (by omega)]; simp
    rw [foolscaplaw01_UtfPlain.j4, if_pos (by simp; omega), hw, if_pos (by omega), if_pos (by omega), if_pos (by omega), show (((i + 1 : Nat) : Int)).toNat = i + 1 by omega, show ((i : Int)).toNat = i by omega, one_of hlt,
      Encode_f [l[i]] (by simp) k (by simp; omega)]
    simp only [Option.bind_some]
    have hnext : ∀ j, 30 * (d + 1) ≤ j → foolscaplaw01_UtfPlain.l2 j l true (wrap64 ((i : Int) + 1)) = some true := fun j hj => by rw [hw]; exact ih j (i + 1) (by omega) hj
    by_cases h : okl [l[i]] = true
    · rw [encR_ok h]
      have hc : okc l[i] = true := ((okl_cons _ _).1 h).1
      have hlen := eb_len l[i]
      have e : ebs [l[i]] = eb l[i] := by simp [ebs]
      simp only [e]
      exact plain_l3 l hl i hlt (eb l[i]) 0 (by omega) (fun _ h8 => big_eb hc h8) _ hnext (eb l[i]).length k 0 (by omega) (by omega)
    · rw [encR_no h]
      exact plain_l3 l hl i hlt [] 1 (by simp) (fun h => absurd h (by decide)) _ hnext 0 k 0 rfl (by omega)
theorem plain_l1 (b l : List Int) (hb : b.length ≤ 300) (hl : l.length * 4 ≤ 140737488351232) : ∀ (d k i : Nat), i + d = b.length → 4000 + d ≤ k →
    foolscaplaw01_UtfPlain.l1 k b l true b (i : Int) = some true := by
  intro d
  induction d with
  | zero =>
    intro k i hi hk
    obtain ⟨k, rfl⟩ : ∃ m, k = m + 1 := ⟨k - 1, by omega⟩
    rw [foolscaplaw01_UtfPlain.l1, if_neg (by omega)]
    exact plain_l2 l hl (min l.length 100) k 0 (by omega) (by omega)
  | succ d ih =>
    intro k i hi hk
    obtain ⟨k, rfl⟩ : ∃ m, k = m + 1 := ⟨k - 1, by omega⟩
    rw [foolscaplaw01_UtfPlain.l1, if_pos (by omega), if_pos (by omega), if_pos (by omega), if_pos rfl, wrap64_in (by omega) (by omega), show ((i : Int) + 1) = ((i + 1 : Nat) : Int) by simp]
    exact ih k (i + 1) (by omega) (by omega)
theorem plain_l0 (b l : List Int) (hb : byl b) (hlb : b.length ≤ 300) (hl : l.length * 4 ≤ 140737488351232) : ∀ (d k i : Nat), i + d = b.length → 5000 + d ≤ k →
    foolscaplaw01_UtfPlain.l0 k (st b i) l true (i : Int) = some true := by
  intro d
  induction d with
  | zero =>
    intro k i hi hk
    obtain ⟨k, rfl⟩ : ∃ m, k = m + 1 := ⟨k - 1, by omega⟩
    rw [foolscaplaw01_UtfPlain.l0, st_len, if_neg (by omega), show i = b.length by omega, st_all]
    have hs : ∀ x ∈ b.map (· % 128), 0 ≤ x ∧ x ≤ 127 := by
      intro x hx
      obtain ⟨y, hy, rfl⟩ := List.mem_map.1 hx
      omega
    obtain ⟨h1, h2⟩ := small_ebs hs
    have hd := dec_ebs h1
    rw [h2] at hd
    rw [Decode_f _ (fun x hx => by have := hs x hx; omega) (by simp; omega) k (by simp; omega), hd]
    simp only [Option.bind_some]
    obtain ⟨k, rfl⟩ : ∃ m, k = m + 1 := ⟨k - 1, by omega⟩
    rw [if_pos trivial, foolscaplaw01_UtfPlain.j1, if_neg (by simp)]
    exact plain_l1 (b.map (· % 128)) l (by simp; omega) hl b.length k 0 (by simp) (by omega)
  | succ d ih =>
    intro k i hi hk
    obtain ⟨k, rfl⟩ : ∃ m, k = m + 1 := ⟨k - 1, by omega⟩
    have hlt : i < b.length := by omega
    have hbi := hb b[i] (List.getElem_mem hlt)
    rw [foolscaplaw01_UtfPlain.l0, st_len, if_pos (by omega), if_pos (by omega), st_rd b i hlt, show Go.bits .and .u8 b[i] 127 = b[i] % 128 from bits_mask .u8 8 (by decide) wraps_u8 7 (by decide) b[i] hbi.1 (by omega),
      show ((i : Int)).toNat = i by omega, st_step b i hlt, wrap64_in (by omega) (by omega), show ((i : Int) + 1) = ((i + 1 : Nat) : Int) by simp]
    exact ih k (i + 1) (by omega) (by omega)
theorem UtfPlain : foolscaplaw01_UtfPlain.Pure := by
  intro l0 l1 _ _ h0 _ hl1 _
  refine ⟨6000, ?_⟩
  generalize hK : 6000 = K
  have hK' : 6000 ≤ K := by omega
  clear hK
  unfold foolscaplaw01_UtfPlain.f
  have hla := cut_le l0 (m := 300) (by decide)
  have hb : byl (l0.take (mn (l0.length : Int) 300).toNat) := byl_take (byl_of h0) _
  rw [shown_f K (by omega)]
  simp only [Option.bind_some]
  rw [if_pos (cut_lo l0.length (by decide)), if_pos (cut_hi l0.length _)]
  generalize l0.take (mn (l0.length : Int) 300).toNat = a at *
  rw [if_pos (by simp only [List.length_nil]; omega), List.nil_append]
  have e : st a 0 = a := by unfold st; simp
  have := plain_l0 a l1 hb (by omega) hl1 a.length K 0 (by omega) (by omega)
  rw [e] at this
  exact this
end Go.Proofs.Ytdbpeaadnhiekaa.Pure
