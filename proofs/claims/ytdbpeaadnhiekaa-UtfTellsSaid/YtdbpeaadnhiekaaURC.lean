/- The printed functions of the reference for utf tell what the plain functions on characters and bytes tell; lists not longer than some thousands. -/
import Derived.Test.YtdbpeaadnhiekaaU5
import Derived.Test.YtdbpeaadnhiekaaUC
import Derived.Test.YtdbpeaadnhiekaaUPlain2
namespace Go.Proofs.Ytdbpeaadnhiekaa.PU
open Go.RowKit Go.Proofs.YtdbpeaadnhiekaaW.PrintWords Go.Proofs.YtdbpeaadnhiekaaW.PrintLast Go.Proofs.YtdbpeaadnhiekaaW.PrintMore Go.Proofs.Ytdbpeaadnhiekaa.U
set_option linter.unusedVariables false
set_option linter.unusedSimpArgs false

/-! ### Strings of bytes -/
theorem str_size (a : List Int) : (strOfNums a).size = a.length := by
  unfold strOfNums ByteArray.size
  simp
theorem str_app (a b : List Int) : (strOfNums a) ++ (strOfNums b) = strOfNums (a ++ b) := by
  unfold strOfNums
  apply ByteArray.ext
  simp
theorem str_list (l : List Int) : (strOfNums l).toList = l.map (fun n => UInt8.ofNat n.toNat) := by
  unfold strOfNums
  exact ByteArray.toList_mk _
theorem str_nil (l : List Int) : ((strOfNums l).toList = ([] : List UInt8)) ↔ l = [] := by
  rw [str_list]
  simp
theorem str_eq {a b : List Int} (ha : byl a) (hb : byl b) : ((strOfNums a).toList = (strOfNums b).toList) ↔ a = b := by
  have := nums_eq ha hb
  constructor
  · intro h
    rw [h] at this
    simp at this
    exact this
  · intro h; rw [h]
theorem str_ext (a : List Int) (i j : Nat) : (strOfNums a).extract i j = strOfNums ((a.take j).drop i) := by
  unfold strOfNums
  apply ByteArray.ext
  rw [ByteArray.data_extract]
  simp [List.extract_toArray, List.drop_take]
theorem str_take (a : List Int) (n : Nat) : (strOfNums a).extract 0 n = strOfNums (a.take n) := by rw [str_ext]; simp
theorem str_drop (a : List Int) (n : Nat) : (strOfNums a).extract n (strOfNums a).size = strOfNums (a.drop n) := by rw [str_ext, str_size]; simp
theorem str_bt {a : List Int} (ha : byl a) (i : Nat) (h : i < a.length) : bt (strOfNums a) (i : Int) = a[i] := by
  unfold bt
  have h1 : ((i : Int)).toNat < (strOfNums a).size := by rw [str_size]; omega
  rw [dif_pos h1]
  have hx := ha a[i] (List.getElem_mem h)
  have e : (strOfNums a)[((i : Int)).toNat]'h1 = UInt8.ofNat (a[i].toNat) := by
    change (strOfNums a).data[((i : Int)).toNat]'h1 = _
    simp [strOfNums]
  rw [e]
  simp
  omega

/-! ### Size, one, Encode -/
theorem rSize_k (k : Nat) (hk : 1 ≤ k) (c : Int) : foolscapref01_Size.f k c = some (sz c) := by
  obtain ⟨k, rfl⟩ : ∃ m, k = m + 1 := ⟨k - 1, by omega⟩
  have j1 : ∀ c b, foolscapref01_Size.j0 (k + 1) c b = if b = true then (some 0) else (if c ≤ 127 then (some 1) else (if c ≤ 2047 then (some 2) else (if c ≤ 65535 then (some 3) else (some 4)))) := fun c b => rfl
  unfold foolscapref01_Size.f
  by_cases h1 : c < 0
  · rw [if_pos h1, j1, if_pos rfl, sz_no (by rw [okc_iff]; omega)]
  rw [if_neg h1]
  by_cases h2 : c > 1114111
  · rw [if_pos h2, j1, if_pos rfl, sz_no (by rw [okc_iff]; omega)]
  rw [if_neg h2]
  by_cases h3 : c ≥ 55296
  · rw [if_pos h3, j1]
    by_cases h4 : c ≤ 57343
    · rw [if_pos (by simpa using h4), sz_no (by rw [okc_iff]; omega)]
    · rw [if_neg (by simpa using h4), if_neg (by omega), if_neg (by omega)]
      by_cases h5 : c ≤ 65535
      · rw [if_pos h5, sz3 (by omega) h5 (by omega)]
      · rw [if_neg h5, sz4 (by omega) (by omega)]
  · rw [if_neg h3, j1, if_neg (by decide)]
    by_cases h4 : c ≤ 127
    · rw [if_pos h4, sz1 (by omega) h4]
    rw [if_neg h4]
    by_cases h5 : c ≤ 2047
    · rw [if_pos h5, sz2 (by omega) h5]
    · rw [if_neg h5, if_pos (by omega), sz3 (by omega) (by omega) (by omega)]
/-- One round of the loop that writes a character's bytes, and its end. -/
theorem one_step (k : Nat) (n v : Int) (l : List Int) (i : Nat) (hv : 0 ≤ v) (hv' : v ≤ 2000000) (hi : 0 < i) (hl : i < l.length) (hl' : l.length ≤ 10) :
    foolscapref01_one.l0 (k + 1) n v l (i : Int) = foolscapref01_one.l0 k n (v / 64) (l.set i (128 + v % 64)) ((i - 1 : Nat) : Int) := by
  rw [foolscapref01_one.l0, if_pos (by omega), if_pos (by omega), if_pos (by omega), Int.tdiv_eq_ediv_of_nonneg hv, Int.tmod_eq_emod_of_nonneg hv, wrap64_in (by omega) (by omega), wrap64_in (by omega) (by omega), wrap64_in (by omega) (by omega),
    Int.toNat_natCast, show (128 + v % 64) % 256 = 128 + v % 64 by omega, show ((i : Int) - 1) = ((i - 1 : Nat) : Int) by omega]
theorem one_end (k : Nat) (n v : Int) (l : List Int) (hl : 0 < l.length) (b : Int) (hw : 0 ≤ (IntKind.u64.wrap (wrap64 (8 - n)))) (hb : wrap64 (256 - (shl .i64 1 (IntKind.u64.wrap (wrap64 (8 - n))))) = b) (h0 : 0 ≤ b + v) (h1 : b + v ≤ 255) :
    foolscapref01_one.l0 (k + 1) n v l 0 = some (strOfNums (l.set 0 (b + v))) := by
  rw [foolscapref01_one.l0, if_neg (by decide), if_pos hw, if_pos (by omega), hb, wrap64_in (by omega) (by omega), show (b + v) % 256 = b + v by omega]
  rfl
theorem one_f (k : Nat) (hk : 10 ≤ k) (c : Int) (h : okc c = true) : foolscapref01_one.f k c = some (strOfNums (eb c)) := by
  have hc := (okc_iff c).1 h
  unfold foolscapref01_one.f
  rw [rSize_k k (by omega)]
  simp only [Option.bind_some]
  rw [wrap64_in (n := c) (by omega) (by omega)]
  obtain ⟨k, rfl⟩ : ∃ m, k = m + 1 := ⟨k - 1, by omega⟩
  by_cases h1 : c ≤ 127
  · rw [sz1 hc.1 h1, if_pos rfl]
    unfold eb
    rw [if_pos h1, show c % 256 = c by omega]
  by_cases h2 : c ≤ 2047
  · rw [sz2 (by omega) h2, if_neg (by decide), if_pos (by decide), if_pos (by decide), show wrap64 (2 - 1) = ((1 : Nat) : Int) by decide +kernel, show List.replicate ((2 : Int)).toNat (0 : Int) = [0, 0] from rfl,
      one_step k 2 c [0, 0] 1 (by omega) (by omega) (by decide) (by decide) (by decide)]
    obtain ⟨k, rfl⟩ : ∃ m, k = m + 1 := ⟨k - 1, by omega⟩
    rw [show (((1 - 1 : Nat)) : Int) = 0 by decide, one_end k 2 (c / 64) _ (by simp) 192 (by decide +kernel) (by decide +kernel) (by omega) (by omega), eb2 (by omega) h2]
    rfl
  by_cases h3 : c ≤ 65535
  · rw [sz3 (by omega) h3 (by omega), if_neg (by decide), if_pos (by decide), if_pos (by decide), show wrap64 (3 - 1) = ((2 : Nat) : Int) by decide +kernel, show List.replicate ((3 : Int)).toNat (0 : Int) = [0, 0, 0] from rfl,
      one_step k 3 c [0, 0, 0] 2 (by omega) (by omega) (by decide) (by decide) (by decide)]
    obtain ⟨k, rfl⟩ : ∃ m, k = m + 1 := ⟨k - 1, by omega⟩
    rw [show (((2 - 1 : Nat)) : Int) = ((1 : Nat) : Int) by decide, one_step k 3 (c / 64) _ 1 (by omega) (by omega) (by decide) (by simp) (by simp)]
    obtain ⟨k, rfl⟩ : ∃ m, k = m + 1 := ⟨k - 1, by omega⟩
    rw [show (((1 - 1 : Nat)) : Int) = 0 by decide, one_end k 3 (c / 64 / 64) _ (by simp) 224 (by decide +kernel) (by decide +kernel) (by omega) (by omega), eb3 (by omega) h3, show c / 64 / 64 = c / 4096 by omega]
    rfl
  · rw [sz4 (by omega) (by omega), if_neg (by decide), if_pos (by decide), if_pos (by decide), show wrap64 (4 - 1) = ((3 : Nat) : Int) by decide +kernel, show List.replicate ((4 : Int)).toNat (0 : Int) = [0, 0, 0, 0] from rfl,
      one_step k 4 c [0, 0, 0, 0] 3 (by omega) (by omega) (by decide) (by decide) (by decide)]
    obtain ⟨k, rfl⟩ : ∃ m, k = m + 1 := ⟨k - 1, by omega⟩
    rw [show (((3 - 1 : Nat)) : Int) = ((2 : Nat) : Int) by decide, one_step k 4 (c / 64) _ 2 (by omega) (by omega) (by decide) (by simp) (by simp)]
    obtain ⟨k, rfl⟩ : ∃ m, k = m + 1 := ⟨k - 1, by omega⟩
    rw [show (((2 - 1 : Nat)) : Int) = ((1 : Nat) : Int) by decide, one_step k 4 (c / 64 / 64) _ 1 (by omega) (by omega) (by decide) (by simp) (by simp)]
    obtain ⟨k, rfl⟩ : ∃ m, k = m + 1 := ⟨k - 1, by omega⟩
    rw [show (((1 - 1 : Nat)) : Int) = 0 by decide, one_end k 4 (c / 64 / 64 / 64) _ (by simp) 240 (by decide +kernel) (by decide +kernel) (by omega) (by omega), eb4 (by omega), show c / 64 / 64 / 64 = c / 262144 by omega, show c / 64 / 64 = c / 4096 by omega]
    rfl
def rencR (l : List Int) : ByteArray × Int := if okl l = true then (strOfNums (ebs l), 0) else ((⟨#[]⟩ : ByteArray), 1)
theorem rEncode_l (l : List Int) (hl : l.length ≤ 10000) : ∀ (d k i : Nat) (acc : List Int), i + d = l.length → d + 20 ≤ k → acc.length ≤ 4 * i →
    foolscapref01_Encode.l0 k l (strOfNums acc) (i : Int) = some (if okl (l.drop i) = true then (strOfNums (acc ++ ebs (l.drop i)), 0) else ((⟨#[]⟩ : ByteArray), 1)) := by
  intro d
  induction d with
  | zero =>
    intro k i acc hi hk ha
    obtain ⟨k, rfl⟩ : ∃ m, k = m + 1 := ⟨k - 1, by omega⟩
    rw [foolscapref01_Encode.l0]
    have hd : l.drop i = [] := List.drop_of_length_le (by omega)
    rw [if_neg (by omega), hd]
    simp [okl, ebs]
  | succ d ih =>
    intro k i acc hi hk ha
    obtain ⟨k, rfl⟩ : ∃ m, k = m + 1 := ⟨k - 1, by omega⟩
    have hlt : i < l.length := by omega
    have hd : l.drop i = l[i] :: l.drop (i + 1) := List.drop_eq_getElem_cons hlt
    rw [foolscapref01_Encode.l0]
    rw [if_pos (by omega), if_pos (by omega), rd_nat l i hlt, rSize_k k (by omega)]
    simp only [Option.bind_some]
    by_cases h : okc l[i] = true
    · have hb := eb_len l[i]
      rw [if_neg (fun e => (sz_zero _).1 e h), one_f k (by omega) _ h]
      simp only [Option.bind_some]
      rw [str_size, str_size, if_pos (by omega), str_app, wrap64_in (by omega) (by omega)]
      have e : ((i : Int) + 1) = ((i + 1 : Nat) : Int) := by simp
      rw [e, ih k (i + 1) _ (by omega) (by omega) (by rw [List.length_append]; omega), hd]
      by_cases h' : okl (l.drop (i + 1)) = true
      · rw [if_pos h', if_pos (by rw [okl_cons]; exact ⟨h, h'⟩)]
        simp [ebs]
      · rw [if_neg h', if_neg (by rw [okl_cons]; exact fun x => h' x.2)]
    · rw [if_pos ((sz_zero _).2 h), hd, if_neg (by rw [okl_cons]; exact fun x => h x.1)]
theorem rEncode_f (l : List Int) (hl : l.length ≤ 10000) (k : Nat) (hk : l.length + 20 ≤ k) : foolscapref01_Encode.f k l = some (rencR l) := by
  unfold foolscapref01_Encode.f
  have := rEncode_l l hl l.length k 0 [] (by omega) hk (by simp)
  simp only [Int.ofNat_zero, List.drop_zero, List.nil_append] at this
  exact this
theorem enc_same (l : List Int) : ((strOfNums (encR l).1).toList = (rencR l).1.toList) ∧ (encR l).2 = (rencR l).2 := by
  unfold encR rencR
  by_cases h : okl l = true
  · rw [if_pos h, if_pos h]; exact ⟨rfl, rfl⟩
  · rw [if_neg h, if_neg h]; exact ⟨rfl, rfl⟩

/-! ### guess, whole -/
theorem guess_l {x : List Int} (hx : byl x) (n : Nat) (hn : n = x.length) (hn4 : n ≤ 4) : ∀ (d k i : Nat) (v : Int), i + d = n → d + 1 ≤ k → 0 ≤ v → v < lim d →
    ∃ g, foolscapref01_guess.l0 k (strOfNums x) (n : Int) v (i : Int) = some g ∧ g = (x.drop i).foldl (fun v b => v * 64 + b % 64) v := by
  intro d
  induction d with
  | zero =>
    intro k i v hi hk h0 h2
    obtain ⟨k, rfl⟩ : ∃ m, k = m + 1 := ⟨k - 1, by omega⟩
    refine ⟨_, ?_, rfl⟩
    simp only [lim] at h2
    rw [foolscapref01_guess.l0, if_neg (by omega), wrap32_in (by omega) (by omega), List.drop_of_length_le (by omega)]
    rfl
  | succ d ih =>
    intro k i v hi hk h0 h2
    obtain ⟨k, rfl⟩ : ∃ m, k = m + 1 := ⟨k - 1, by omega⟩
    have hlt : i < x.length := by omega
    have hb := hx x[i] (List.getElem_mem hlt)
    have hj := lim_le d
    simp only [lim] at h2
    obtain ⟨g, hg, he⟩ := ih k (i + 1) (v * 64 + x[i] % 64) (by omega) (by omega) (by omega) (by omega)
    refine ⟨g, ?_, ?_⟩
    · rw [foolscapref01_guess.l0, if_pos (by omega), if_pos (by omega), str_size, if_pos (by omega), str_bt hx i hlt, wrap64_in (n := x[i]) (by omega) (by omega), Int.tmod_eq_emod_of_nonneg hb.1, wrap64_in (n := v * 64) (by omega) (by omega),
        wrap64_in (by omega) (by omega), wrap64_in (by omega) (by omega), show ((i : Int) + 1) = ((i + 1 : Nat) : Int) by simp]
      exact hg
    · rw [he, List.drop_eq_getElem_cons hlt]
      rfl
def md : Nat → Int
  | 2 => 32
  | 3 => 16
  | 4 => 8
  | _ => 256
def gs (x : List Int) : Int := (x.drop 1).foldl (fun v b => v * 64 + b % 64) (x.getD 0 0 % md x.length)
theorem guess_f {x : List Int} (hx : byl x) (h1 : 1 ≤ x.length) (h4 : x.length ≤ 4) (k : Nat) (hk : 10 ≤ k) : foolscapref01_guess.f k (strOfNums x) (x.length : Int) = some (gs x) := by
  obtain ⟨a, t, rfl⟩ := two_of h1
  have ha := hx a (by simp)
  have l1 : lim 1 = 33554432 := by decide
  have l2 : lim 2 = 524288 := by decide
  have l3 : lim 3 = 8192 := by decide
  have hbt : bt (strOfNums (a :: t)) 0 = a := str_bt hx 0 (by simp)
  unfold foolscapref01_guess.f
  rw [str_size, if_pos (by omega), hbt, wrap64_in (n := a) (by omega) (by omega)]
  have key : ∀ (n : Nat) (v : Int), n = (a :: t).length → 0 ≤ v → v < lim (n - 1) → v = a % md n → foolscapref01_guess.j0 k (strOfNums (a :: t)) (n : Int) v = some (gs (a :: t)) := by
    intro n v hn h0 hv he
    obtain ⟨k, rfl⟩ : ∃ m, k = m + 1 := ⟨k - 1, by omega⟩
    rw [foolscapref01_guess.j0]
    have hn1 : 1 ≤ n := by rw [hn]; simp
    obtain ⟨g, hg, hh⟩ := guess_l hx n hn (by omega) (n - 1) k 1 v (by omega) (by omega) h0 hv
    have hg' : foolscapref01_guess.l0 k (strOfNums (a :: t)) (n : Int) v 1 = some g := hg
    rw [hg', hh, he, hn]
    rfl
  have hl : (a :: t).length = 1 ∨ (a :: t).length = 2 ∨ (a :: t).length = 3 ∨ (a :: t).length = 4 := by omega
  rcases hl with h | h | h | h
  · rw [h, if_neg (by decide)]
    exact key 1 a h.symm ha.1 (by show a < 2147483648; omega) (by show a = a % 256; omega)
  · rw [h, if_pos (by decide), if_pos (by decide +kernel), show shl .i64 1 (IntKind.u64.wrap (wrap64 (7 - ((2 : Nat) : Int)))) = 32 by decide +kernel, if_neg (by decide), Int.tmod_eq_emod_of_nonneg ha.1]
    exact key 2 _ h.symm (by omega) (by rw [show lim (2 - 1) = 33554432 by decide]; omega) rfl
  · rw [h, if_pos (by decide), if_pos (by decide +kernel), show shl .i64 1 (IntKind.u64.wrap (wrap64 (7 - ((3 : Nat) : Int)))) = 16 by decide +kernel, if_neg (by decide), Int.tmod_eq_emod_of_nonneg ha.1]
    exact key 3 _ h.symm (by omega) (by rw [show lim (3 - 1) = 524288 by decide]; omega) rfl
  · rw [h, if_pos (by decide), if_pos (by decide +kernel), show shl .i64 1 (IntKind.u64.wrap (wrap64 (7 - ((4 : Nat) : Int)))) = 8 by decide +kernel, if_neg (by decide), Int.tmod_eq_emod_of_nonneg ha.1]
    exact key 4 _ h.symm (by omega) (by rw [show lim (4 - 1) = 8192 by decide]; omega) rfl
theorem gs_eb {c : Int} (h : okc c = true) : gs (eb c) = c := by
  have hc := (okc_iff c).1 h
  by_cases h1 : c ≤ 127
  · unfold eb; rw [if_pos h1]
    show c % 256 = c
    omega
  by_cases h2 : c ≤ 2047
  · rw [eb2 (by omega) h2]
    show (192 + c / 64) % 32 * 64 + (128 + c % 64) % 64 = c
    omega
  by_cases h3 : c ≤ 65535
  · rw [eb3 (by omega) h3]
    show ((224 + c / 4096) % 16 * 64 + (128 + c / 64 % 64) % 64) * 64 + (128 + c % 64) % 64 = c
    omega
  · rw [eb4 (by omega)]
    show (((240 + c / 262144) % 8 * 64 + (128 + c / 4096 % 64) % 64) * 64 + (128 + c / 64 % 64) % 64) * 64 + (128 + c % 64) % 64 = c
    omega
theorem whole_f {x : List Int} (hx : byl x) (k : Nat) (hk : 20 ≤ k) : foolscapref01_whole.f k (strOfNums x) = some (wh x) := by
  obtain ⟨k, rfl⟩ : ∃ m, k = m + 1 := ⟨k - 1, by omega⟩
  unfold foolscapref01_whole.f
  rw [str_size]
  have hbad : ¬ (1 ≤ x.length ∧ x.length ≤ 4) → wh x = (0, false) := by
    intro h
    apply wh_false
    intro hw
    obtain ⟨k1, k2⟩ := wh_true hx hw
    have := eb_len (wh x).1
    rw [← k2] at this
    exact h this
  by_cases h1 : (x.length : Int) < 1
  · rw [if_pos h1, foolscapref01_whole.j0, if_pos rfl, hbad (by omega)]
  rw [if_neg h1, foolscapref01_whole.j0]
  by_cases h4 : (x.length : Int) > 4
  · rw [if_pos (by simpa using h4), hbad (by omega)]
  rw [if_neg (by simpa using h4), guess_f hx (by omega) (by omega) k (by omega)]
  simp only [Option.bind_some]
  rw [rSize_k k (by omega)]
  simp only [Option.bind_some]
  by_cases hs : sz (gs x) = (x.length : Int)
  · have hok : okc (gs x) = true := by
      by_cases h : okc (gs x) = true
      · exact h
      · rw [sz_no h] at hs; omega
    rw [if_pos hs, one_f k (by omega) _ hok]
    simp only [Option.bind_some]
    by_cases he : eb (gs x) = x
    · rw [if_pos ((str_eq (eb_byl hok) hx).2 he)]
      have := wh_eb hok
      rw [he] at this
      rw [this]
    · rw [if_neg (fun h => he ((str_eq (eb_byl hok) hx).1 h)), wh_false]
      intro hw
      obtain ⟨k1, k2⟩ := wh_true hx hw
      have := gs_eb k1
      rw [← k2] at this
      rw [this] at he
      exact he k2.symm
  · rw [if_neg hs, wh_false]
    intro hw
    obtain ⟨k1, k2⟩ := wh_true hx hw
    have := gs_eb k1
    rw [← k2] at this
    rw [this, sz_ok k1, ← k2] at hs
    exact hs rfl
theorem rd_probe (i : Nat) (h : i < probes.length) : rd ([128, 143, 144, 159, 160, 191] : List Int) (i : Int) = probes[i] := rd_nat probes i h
/-- The loop over the six bytes. -/
theorem begins_l (x : List Int) (hx : byl x) (h1 : 1 ≤ x.length) (h3 : x.length ≤ 3) (K : Nat) (hK : 30 ≤ K)
    (hrec : ∀ (b : Int), b ∈ probes → x.length + 1 < 4 → ∀ k, K ≤ k → foolscapref01_Begins.f k (strOfNums (x ++ [b])) = some (bg (x ++ [b]))) :
    ∀ (d k i : Nat), i + d = 6 → K + 2 * d + 1 ≤ k → foolscapref01_Begins.l0 k (strOfNums x) [128, 143, 144, 159, 160, 191] 6 (i : Int) = some ((probes.drop i).any fun b => (wh (x ++ [b])).2 || bg (x ++ [b])) := by
  intro d
  induction d with
  | zero =>
    intro k i hi hk
    obtain ⟨k, rfl⟩ : ∃ m, k = m + 1 := ⟨k - 1, by omega⟩
    obtain rfl : i = 6 := by omega
    rw [foolscapref01_Begins.l0, if_neg (by decide)]
    rfl
  | succ d ih =>
    intro k i hi hk
    obtain ⟨k, rfl⟩ : ∃ m, k = m + 1 := ⟨k - 1, by omega⟩
    have hlt : i < 6 := by omega
    have hp : i < probes.length := hlt
    have hmem : probes[i] ∈ probes := List.getElem_mem hp
    have hb : 0 ≤ probes[i] ∧ probes[i] ≤ 255 := by
      have : ∀ b ∈ probes, 0 ≤ b ∧ b ≤ 255 := by decide
      exact this _ hmem
    have hxb : byl (x ++ [probes[i]]) := (byl_append _ _).2 ⟨hx, fun y hy => by simp at hy; omega⟩
    rw [foolscapref01_Begins.l0, if_pos (by omega), if_pos (by omega), if_pos (by simp; omega), rd_probe i hp]
    simp only [Option.bind_some]
    rw [str_size, str_size, if_pos (by simp; omega), str_app, whole_f hxb k (by omega)]
    simp only [Option.bind_some]
    have hw : wrap64 ((i : Int) + 1) = ((i + 1 : Nat) : Int) := by rw [wrap64_in (by omega) (by omega)]; simp
    have hdrop : probes.drop i = probes[i] :: probes.drop (i + 1) := List.drop_eq_getElem_cons hp
    obtain ⟨k, rfl⟩ : ∃ m, k = m + 1 := ⟨k - 1, by omega⟩
    have hgo := ih k (i + 1) (by omega) (by omega)
    rw [hdrop, List.any_cons]
    by_cases g : (wh (x ++ [probes[i]])).2 = true
    · rw [if_pos g, foolscapref01_Begins.j2, if_neg (by decide), if_pos g, g]
      rfl
    · have g' : (wh (x ++ [probes[i]])).2 = false := by simpa using g
      rw [if_neg g, foolscapref01_Begins.j2, g']
      by_cases hs : x.length + 1 < 4
      · rw [if_pos (by rw [str_size]; simp; omega), hrec _ hmem hs k (by omega)]
        simp only [Option.bind_some]
        rw [if_neg (by decide)]
        by_cases hg : bg (x ++ [probes[i]]) = true
        · rw [if_pos hg, hg]; rfl
        · have hg' : bg (x ++ [probes[i]]) = false := by simpa using hg
          rw [if_neg hg, hg', hw, hgo]
          rfl
      · have hg' : bg (x ++ [probes[i]]) = false := by
          rw [Bool.eq_false_iff]
          intro h
          have := bg_short h
          simp at this
          omega
        rw [if_neg (by rw [str_size]; simp; omega), if_neg (by decide), if_neg (by decide), hg', hw, hgo]
        rfl
theorem begins_s : ∀ (d : Nat) (x : List Int), byl x → 1 ≤ x.length → x.length + d = 4 → ∀ k, 30 + 20 * d ≤ k → foolscapref01_Begins.f k (strOfNums x) = some (bg x) := by
  intro d
  induction d with
  | zero =>
    intro x hx h1 h4 k hk
    obtain ⟨k, rfl⟩ : ∃ m, k = m + 1 := ⟨k - 1, by omega⟩
    have hg' : bg x = false := by
      rw [Bool.eq_false_iff]
      intro h
      have := bg_short h
      omega
    have hn : x ≠ [] := by intro h; rw [h] at h1; simp at h1
    rw [foolscapref01_Begins.f, if_neg (fun h => hn ((str_nil x).1 h)), str_size]
    obtain ⟨k, rfl⟩ : ∃ m, k = m + 1 := ⟨k - 1, by omega⟩
    rw [foolscapref01_Begins.j0, if_pos (by simp; omega), hg']
  | succ d ih =>
    intro x hx h1 h4 k hk
    obtain ⟨k, rfl⟩ : ∃ m, k = m + 1 := ⟨k - 1, by omega⟩
    have hn : x ≠ [] := by intro h; rw [h] at h1; simp at h1
    rw [foolscapref01_Begins.f, if_neg (fun h => hn ((str_nil x).1 h)), str_size]
    obtain ⟨k, rfl⟩ : ∃ m, k = m + 1 := ⟨k - 1, by omega⟩
    rw [foolscapref01_Begins.j0, if_neg (by simp; omega)]
    simp only [Option.bind_some]
    rw [bg_any hx h1]
    refine begins_l x hx h1 (by omega) (30 + 20 * d) (by omega) ?_ 6 k 0 (by decide) (by omega)
    intro b hb hs k hk
    have hb' : 0 ≤ b ∧ b ≤ 255 := by
      have : ∀ b ∈ probes, 0 ≤ b ∧ b ≤ 255 := by decide
      exact this _ hb
    exact ih (x ++ [b]) ((byl_append _ _).2 ⟨hx, fun y hy => by simp at hy; omega⟩) (by simp) (by simp; omega) k hk
theorem begins_f {x : List Int} (hx : byl x) (hl : x.length ≤ 100000) (k : Nat) (hk : 100 ≤ k) : foolscapref01_Begins.f k (strOfNums x) = some (bg x) := by
  by_cases h0 : x = []
  · subst h0
    obtain ⟨k, rfl⟩ : ∃ m, k = m + 1 := ⟨k - 1, by omega⟩
    rw [foolscapref01_Begins.f, if_pos ((str_nil []).2 rfl)]
    obtain ⟨k, rfl⟩ : ∃ m, k = m + 1 := ⟨k - 1, by omega⟩
    rw [foolscapref01_Begins.j0, if_pos rfl]
    rfl
  have h1 : 1 ≤ x.length := List.length_pos_iff.mpr h0
  by_cases h4 : x.length ≤ 4
  · exact begins_s (4 - x.length) x hx h1 (by omega) k (by omega)
  · obtain ⟨k, rfl⟩ : ∃ m, k = m + 1 := ⟨k - 1, by omega⟩
    have hg' : bg x = false := by
      rw [Bool.eq_false_iff]
      intro h
      have := bg_short h
      omega
    rw [foolscapref01_Begins.f, if_neg (fun h => h0 ((str_nil x).1 h)), str_size]
    obtain ⟨k, rfl⟩ : ∃ m, k = m + 1 := ⟨k - 1, by omega⟩
    rw [foolscapref01_Begins.j0, if_pos (by simp; omega), hg']

/-! ### First, Decode, Tail -/
theorem wh_take {x : List Int} (hx : byl x) (n : Nat) (h0 : 0 < n) (hn : n ≤ x.length) :
    if (fst x).2.2 = 0 ∧ (fst x).2.1 = (n : Int) then wh (x.take n) = ((fst x).1, true) else wh (x.take n) = (0, false) := by
  have hb := byl_take hx n
  by_cases h : (fst x).2.2 = 0
  · obtain ⟨h1, h2, r, h3⟩ := fst_ok hx h
    by_cases e : (fst x).2.1 = (n : Int)
    · rw [if_pos ⟨h, e⟩]
      have : x.take n = eb (fst x).1 := by
        rw [h2, sz_ok h1] at e
        have e' : n = (eb (fst x).1).length := by omega
        conv => lhs; arg 2; rw [h3]
        rw [e', List.take_left]
      rw [this, wh_eb h1]
    · rw [if_neg fun k => e k.2]
      apply wh_false
      intro hw
      obtain ⟨k1, k2⟩ := wh_true hb hw
      have hx2 : x = eb (wh (x.take n)).1 ++ x.drop n := by rw [← k2, List.take_append_drop]
      have := fst_eb k1 (x.drop n)
      rw [← hx2] at this
      rw [this] at e
      have hl := congrArg List.length k2
      rw [List.length_take] at hl
      simp only at e
      rw [sz_ok k1] at e
      omega
  · rw [if_neg fun k => h k.1]
    apply wh_false
    intro hw
    obtain ⟨k1, k2⟩ := wh_true hb hw
    have hx2 : x = eb (wh (x.take n)).1 ++ x.drop n := by rw [← k2, List.take_append_drop]
    have := fst_eb k1 (x.drop n)
    rw [← hx2] at this
    rw [this] at h
    exact h rfl
theorem rFirst_l {x : List Int} (hx : byl x) (h1 : 1 ≤ x.length) (hl : x.length ≤ 100000) : ∀ (d k n : Nat), n + d = 5 → 1 ≤ n → 200 + 2 * d ≤ k → ((fst x).2.2 = 0 → (n : Int) ≤ (fst x).2.1) →
    foolscapref01_First.l0 k (strOfNums x) (n : Int) = some (fst x) := by
  have stop : ∀ k, 100 ≤ k → ¬ (fst x).2.2 = 0 → ((foolscapref01_Begins.f k (strOfNums x)).bind fun t228 => (if t228 = true then (some (0, 0, 6)) else (some (0, 0, 2)))) = some (fst x) := by
    intro k hk h
    rw [begins_f hx hl k hk]
    simp only [Option.bind_some]
    by_cases hg : bg x = true
    · rw [if_pos hg, (bg_iff x).1 hg]
    · rw [if_neg hg]
      rcases fst_tells x with g | g | g | ⟨g, _⟩
      · exact absurd g h
      · rw [g]
      · exact absurd ((bg_iff x).2 g) hg
      · rw [g] at h1; simp at h1
  intro d
  induction d with
  | zero =>
    intro k n hn h0 hk hi
    obtain ⟨k, rfl⟩ : ∃ m, k = m + 1 := ⟨k - 1, by omega⟩
    rw [foolscapref01_First.l0, if_neg (by omega)]
    obtain ⟨k, rfl⟩ : ∃ m, k = m + 1 := ⟨k - 1, by omega⟩
    rw [foolscapref01_First.j1, if_neg (by decide)]
    apply stop k (by omega)
    intro h
    obtain ⟨k1, k2, _⟩ := fst_ok hx h
    have := hi h
    have := (eb_len (fst x).1).2
    rw [k2, sz_ok k1] at *
    omega
  | succ d ih =>
    intro k n hn h0 hk hi
    obtain ⟨k, rfl⟩ : ∃ m, k = m + 1 := ⟨k - 1, by omega⟩
    rw [foolscapref01_First.l0, if_pos (by omega), str_size]
    obtain ⟨k, rfl⟩ : ∃ m, k = m + 1 := ⟨k - 1, by omega⟩
    rw [foolscapref01_First.j1]
    by_cases hle : n ≤ x.length
    · rw [if_pos (by simp; omega), if_pos (by omega), str_size, if_pos (by omega), Int.toNat_natCast, str_take, whole_f (byl_take hx n) k (by omega)]
      simp only [Option.bind_some]
      have hw := wh_take hx n h0 hle
      by_cases g : (fst x).2.2 = 0 ∧ (fst x).2.1 = (n : Int)
      · rw [if_pos g] at hw
        rw [hw, if_pos rfl]
        exact congrArg some (Prod.ext rfl (Prod.ext g.2.symm g.1.symm))
      · rw [if_neg g] at hw
        rw [hw, if_neg (by decide), wrap64_in (by omega) (by omega), show ((n : Int) + 1) = ((n + 1 : Nat) : Int) by simp]
        refine ih k (n + 1) (by omega) (by omega) (by omega) fun h => ?_
        have := hi h
        have : ¬ (fst x).2.1 = (n : Int) := fun e => g ⟨h, e⟩
        omega
    · rw [if_neg (by simp; omega)]
      apply stop k (by omega)
      intro h
      obtain ⟨k1, k2, r, k3⟩ := fst_ok hx h
      have := hi h
      have := congrArg List.length k3
      rw [List.length_append] at this
      rw [k2, sz_ok k1] at *
      omega
theorem rFirst_f {x : List Int} (hx : byl x) (hl : x.length ≤ 100000) (k : Nat) (hk : 300 ≤ k) : foolscapref01_First.f k (strOfNums x) = some (fst x) := by
  unfold foolscapref01_First.f
  by_cases h0 : x = []
  · subst h0
    rw [if_pos ((str_nil []).2 rfl)]
    rfl
  · rw [if_neg (fun h => h0 ((str_nil x).1 h))]
    have h1 : 1 ≤ x.length := List.length_pos_iff.mpr h0
    refine rFirst_l hx h1 hl 4 k 1 (by decide) (by decide) (by omega) fun h => ?_
    obtain ⟨k1, k2, _⟩ := fst_ok hx h
    have := (eb_len (fst x).1).1
    rw [k2, sz_ok k1]
    omega
theorem rDecode_l : ∀ (n : Nat) (x acc : List Int), byl x → x.length < n → x.length + acc.length ≤ 100000 →
    foolscapref01_Decode.l0 (n + 300) (strOfNums x) acc = some (match decF n x with | some c => (acc ++ c, 0) | none => ([], 2)) := by
  intro n
  induction n with
  | zero => intro x acc _ h; omega
  | succ n ih =>
    intro x acc hx hn hl
    rw [show n + 1 + 300 = (n + 300) + 1 by omega]
    rw [foolscapref01_Decode.l0]
    simp only [decF]
    by_cases h0 : x = []
    · subst h0
      rw [if_pos ((str_nil []).2 rfl)]
      simp
    · have hlen : 0 < x.length := List.length_pos_iff.mpr h0
      rw [if_neg (fun h => h0 ((str_nil x).1 h)), rFirst_f hx (by omega) _ (by omega), if_neg h0]
      simp only [Option.bind_some]
      by_cases h1 : (fst x).2.2 = 0
      · obtain ⟨k1, k2, r, k3⟩ := fst_ok hx h1
        have hs := sz_ok k1
        have hb := eb_len (fst x).1
        have hle : (eb (fst x).1).length + r.length = x.length := by
          have := congrArg List.length k3
          simp at this; omega
        rw [if_pos h1, if_pos h1, if_pos (by omega), if_pos (by omega), str_drop, str_size, if_pos (by omega), ih _ _ (byl_drop hx _) (by simp; omega) (by simp; omega)]
        cases decF n (List.drop (fst x).2.1.toNat x) with
        | none => rfl
        | some c => simp
      · rw [if_neg h1, if_neg h1]
theorem rDecode_f (x : List Int) (hx : byl x) (hl : x.length ≤ 100000) (k : Nat) (hk : x.length + 301 ≤ k) : foolscapref01_Decode.f k (strOfNums x) = some (dec x) := by
  unfold foolscapref01_Decode.f dec
  have h := rDecode_l (x.length + 1) x [] hx (by omega) (by simpa using hl)
  have h' := at_rounds (g := fun k => foolscapref01_Decode.l0 k (strOfNums x) []) (fun k => foolscapref01_Decode.mono_l k (strOfNums x) []) (show x.length + 1 + 300 ≤ k by omega) h
  rw [h']
  cases decF (x.length + 1) x with
  | none => rfl
  | some c => simp
theorem rTail_l (x : List Int) (hx : byl x) (hl : x.length ≤ 100000) : ∀ (n k : Nat), n ≤ x.length → n + 101 ≤ k → foolscapref01_Tail.l0 k (strOfNums x) (n : Int) = some (tlF x n) := by
  intro n
  induction n with
  | zero =>
    intro k _ hk
    obtain ⟨k, rfl⟩ : ∃ m, k = m + 1 := ⟨k - 1, by omega⟩
    rw [foolscapref01_Tail.l0]
    simp only [tlF]
    rw [if_neg (by simp)]
  | succ n ih =>
    intro k hn hk
    obtain ⟨k, rfl⟩ : ∃ m, k = m + 1 := ⟨k - 1, by omega⟩
    rw [foolscapref01_Tail.l0, str_drop, str_size]
    simp only [tlF]
    rw [wrap64_in (by omega) (by omega), if_pos (by omega), if_pos (by omega), if_pos (by omega), show ((x.length : Int) - ((n + 1 : Nat) : Int)).toNat = x.length - (n + 1) by omega,
      begins_f (byl_drop hx _) (by simp; omega) k (by omega)]
    simp only [Option.bind_some]
    by_cases h : (fst (List.drop (x.length - (n + 1)) x)).2.2 = 6
    · rw [if_pos h, if_pos (by unfold bg; rw [decide_eq_true_iff]; exact h)]
    · rw [if_neg h, if_neg (by unfold bg; rw [decide_eq_true_iff]; exact h), wrap64_in (by omega) (by omega), show (((n + 1 : Nat) : Int) - 1) = (n : Int) by omega]
      exact ih k (by omega) (by omega)
theorem rTail_f (x : List Int) (hx : byl x) (hl : x.length ≤ 100000) (k : Nat) (hk : 110 ≤ k) : foolscapref01_Tail.f k (strOfNums x) = some (tl x) := by
  unfold foolscapref01_Tail.f tl
  rw [str_size]
  have e : mn 3 (x.length : Int) = ((min 3 x.length : Nat) : Int) := by unfold mn; split <;> omega
  rw [e]
  exact rTail_l x hx hl _ k (by omega) (by omega)
end Go.Proofs.Ytdbpeaadnhiekaa.PU
