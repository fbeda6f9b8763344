/- The printed functions of utf tell what the plain functions on characters and bytes tell; lists not longer than some thousands. -/
import Derived.Test.YtdbpeaadnhiekaaU3
import Derived.Test.YtdbpeaadnhiekaaU3b
import Derived.Test.YtdbpeaadnhiekaaUPlain
namespace Go.Proofs.Ytdbpeaadnhiekaa.PU
open Go.RowKit Go.Proofs.YtdbpeaadnhiekaaW.PrintWords Go.Proofs.YtdbpeaadnhiekaaW.PrintLast Go.Proofs.YtdbpeaadnhiekaaW.PrintMore Go.Proofs.Ytdbpeaadnhiekaa.U
set_option linter.unusedVariables false
set_option linter.unusedSimpArgs false

theorem wrap64_in {n : Int} (h0 : -9223372036854775808 ≤ n) (h1 : n ≤ 9223372036854775807) : wrap64 n = n := by unfold wrap64; omega
theorem wrap32_in {n : Int} (h0 : -2147483648 ≤ n) (h1 : n ≤ 2147483647) : wrap32 n = n := by unfold wrap32; omega
theorem wf_i32 {x : Int} (h : (Lit.int .i32 x).wf = true) : -2147483648 ≤ x ∧ x ≤ 2147483647 := by
  simp [Lit.wf, IntKind.min, IntKind.max, IntKind.signed, IntKind.bits] at h; omega
theorem wf_u8 {x : Int} (h : (Lit.int .u8 x).wf = true) : 0 ≤ x ∧ x ≤ 255 := by
  simp [Lit.wf, IntKind.min, IntKind.max, IntKind.signed, IntKind.bits] at h; omega
theorem wf_i64 {x : Int} (h : (Lit.int .i64 x).wf = true) : -9223372036854775808 ≤ x ∧ x ≤ 9223372036854775807 := by
  simp [Lit.wf, IntKind.min, IntKind.max, IntKind.signed, IntKind.bits] at h; omega
theorem byl_of {l : List Int} (h : ∀ x ∈ l, (Lit.int .u8 x).wf = true) : byl l := fun x hx => wf_u8 (h x hx)

theorem Size_f (k : Nat) (c : Int) : utf_Size.f (k + 1) c = some (sz c) := by
  have j1 : ∀ c b, utf_Size.j0 (k + 1) c b = if b = true then (some 0) else (if c ≤ 127 then (some 1) else (if c ≤ 2047 then (some 2) else (if c ≤ 65535 then (some 3) else (some 4)))) := fun c b => rfl
  unfold utf_Size.f
  by_cases h1 : c < 0
  · rw [if_pos h1, j1, if_pos rfl, sz_no (by rw [okc_iff]; omega)]
  rw [if_neg h1]
  by_cases h2 : c > 1114111
  · rw [if_pos h2, j1, if_pos rfl, sz_no (by rw [okc_iff]; omega)]
  rw [if_neg h2]
  by_cases h3 : c ≥ 55296
  · rw [if_pos h3, j1]
    by_cases h4 : c < 57344
    · rw [if_pos (by simpa using h4), sz_no (by rw [okc_iff]; omega)]
    · rw [if_neg (by simpa using h4), if_neg (by omega), if_neg (by omega)]
      by_cases h5 : c ≤ 65535
      · rw [if_pos h5, sz3 (by omega) h5 (by omega)]
      · rw [if_neg h5, sz4 (by omega) (by omega)]
  · rw [if_neg h3, j1, if_neg (by decide)]
    by_cases h4 : c ≤ 127
    · rw [if_pos h4, sz1 (by omega) h4]
    rw [if_neg h4]
    by_cases h5 : c ≤ 2047
    · rw [if_pos h5, sz2 (by omega) h5]
    · rw [if_neg h5, if_pos (by omega), sz3 (by omega) (by omega) (by omega)]

theorem wraps_u32 (n : Int) (h₀ : 0 ≤ n) (h₁ : n < 2 ^ 32) : IntKind.u32.wrap n = n := by rw [IntKind.wrap_u32]; omega
theorem u32_and63 (x : Int) (h₀ : 0 ≤ x) (h₁ : x < 4294967296) : Go.bits .and .u32 x 63 = x % 64 := bits_mask .u32 32 (by decide) wraps_u32 6 (by decide) x h₀ h₁
theorem u32_or128 (y : Int) (h₀ : 0 ≤ y) (h₁ : y < 64) : Go.bits .or .u32 128 y = 128 + y :=
  bits_join .u32 32 (by decide) wraps_u32 6 128 y (by decide) (by decide) (by decide) h₀ h₁ (by omega)
theorem u32_or192 (y : Int) (h₀ : 0 ≤ y) (h₁ : y < 32) : Go.bits .or .u32 192 y = 192 + y :=
  bits_join .u32 32 (by decide) wraps_u32 5 192 y (by decide) (by decide) (by decide) h₀ h₁ (by omega)
theorem u32_or224 (y : Int) (h₀ : 0 ≤ y) (h₁ : y < 16) : Go.bits .or .u32 224 y = 224 + y :=
  bits_join .u32 32 (by decide) wraps_u32 4 224 y (by decide) (by decide) (by decide) h₀ h₁ (by omega)
theorem u32_or240 (y : Int) (h₀ : 0 ≤ y) (h₁ : y < 8) : Go.bits .or .u32 240 y = 240 + y :=
  bits_join .u32 32 (by decide) wraps_u32 3 240 y (by decide) (by decide) (by decide) h₀ h₁ (by omega)
theorem low6 (x : Int) (h₀ : 0 ≤ x) (h₁ : x < 4294967296) : (Go.bits .or .u32 128 (Go.bits .and .u32 x 63)) % 256 = 128 + x % 64 := by
  rw [u32_and63 x h₀ h₁, u32_or128 _ (by omega) (by omega)]; omega

theorem room1 {l : List Int} (x : Int) (h : l.length < 1000000) : (l ++ [x]).length < 1000001 := by rw [List.length_append, List.length_singleton]; omega
theorem room {l : List Int} {n : Nat} (h : l.length < n) (hn : n ≤ 2000000) : l.length < 140737488355328 := by omega
theorem room2 {l : List Int} (x y : Int) (h : l.length < 1000000) : (l ++ [x] ++ [y]).length < 1000002 := by rw [List.length_append, List.length_singleton]; have := room1 x h; omega
theorem room3 {l : List Int} (x y z : Int) (h : l.length < 1000000) : (l ++ [x] ++ [y] ++ [z]).length < 1000003 := by rw [List.length_append, List.length_singleton]; have := room2 x y h; omega
theorem put_f (k : Nat) (l : List Int) (c : Int) (h : okc c = true) (hl : l.length < 1000000) : utf_put.f (k + 1) l c = some (l ++ eb c) := by
  have hc := (okc_iff c).1 h
  have hm : c % 4294967296 = c := by omega
  have h0 := room hl (by decide)
  have h1 := fun x => room (room1 x hl) (by decide)
  have h2 := fun x y => room (room2 x y hl) (by decide)
  have h3 := fun x y z => room (room3 x y z hl) (by decide)
  unfold utf_put.f
  rw [Size_f]
  simp only [Option.bind_some, hm]
  by_cases g1 : c ≤ 127
  · rw [sz1 hc.1 g1, if_neg (by decide), if_neg (by decide), if_neg (by decide), if_pos h0]
    unfold eb
    rw [if_pos g1, show c % 256 = c by omega]
  by_cases g2 : c ≤ 2047
  · rw [sz2 (by omega) g2, if_neg (by decide), if_neg (by decide), if_pos rfl, if_pos h0, if_pos (h1 _), eb2 (by omega) g2, low6 c (by omega) (by omega), u32_or192 _ (by omega) (by omega)]
    rw [show (192 + c / 64) % 256 = 192 + c / 64 by omega, List.append_assoc]
    rfl
  by_cases g3 : c ≤ 65535
  · rw [sz3 (by omega) g3 (by omega), if_neg (by decide), if_pos rfl]
    rw [utf_put.j0]
    simp only [Option.bind_some]
    rw [if_pos trivial, if_pos h0, if_neg (by decide), if_pos (h1 _), if_pos (h2 _ _), eb3 (by omega) g3, low6 c (by omega) (by omega), low6 (c / 64) (by omega) (by omega), u32_or224 _ (by omega) (by omega)]
    rw [show (224 + c / 4096) % 256 = 224 + c / 4096 by omega, List.append_assoc, List.append_assoc]
    rfl
  · rw [sz4 (by omega) (by omega), if_pos rfl, if_pos h0]
    rw [utf_put.j0]
    simp only [Option.bind_some]
    rw [if_neg (by decide), if_pos (h1 _), if_neg (by decide), if_pos (h2 _ _), if_pos (h3 _ _ _), eb4 (by omega), low6 c (by omega) (by omega), low6 (c / 64) (by omega) (by omega), low6 (c / 4096) (by omega) (by omega), u32_or240 _ (by omega) (by omega)]
    rw [show (240 + c / 262144) % 256 = 240 + c / 262144 by omega, List.append_assoc, List.append_assoc, List.append_assoc]
    rfl

theorem Size_k (k : Nat) (hk : 1 ≤ k) (c : Int) : utf_Size.f k c = some (sz c) := by
  obtain ⟨k, rfl⟩ : ∃ m, k = m + 1 := ⟨k - 1, by omega⟩
  exact Size_f k c
theorem put_k (k : Nat) (hk : 1 ≤ k) (l : List Int) (c : Int) (h : okc c = true) (hl : l.length < 1000000) : utf_put.f k l c = some (l ++ eb c) := by
  obtain ⟨k, rfl⟩ : ∃ m, k = m + 1 := ⟨k - 1, by omega⟩
  exact put_f k l c h hl
theorem rd_nat (l : List Int) (i : Nat) (h : i < l.length) : rd l (i : Int) = l[i] := by
  unfold rd; simp [h]
theorem Encode_l (l : List Int) (hl : l.length ≤ 10000) : ∀ (d k i : Nat) (acc : List Int), i + d = l.length → d + 2 ≤ k → acc.length ≤ 4 * i →
    utf_Encode.l0 k acc l (l.length : Int) (i : Int) = some (if okl (l.drop i) = true then (acc ++ ebs (l.drop i), 0) else ([], 1)) := by
  intro d
  induction d with
  | zero =>
    intro k i acc hi hk ha
    obtain ⟨k, rfl⟩ : ∃ m, k = m + 1 := ⟨k - 1, by omega⟩
    rw [utf_Encode.l0]
    have hd : l.drop i = [] := List.drop_of_length_le (by omega)
    rw [if_neg (by omega), hd]
    simp [okl, ebs]
  | succ d ih =>
    intro k i acc hi hk ha
    obtain ⟨k, rfl⟩ : ∃ m, k = m + 1 := ⟨k - 1, by omega⟩
    have hlt : i < l.length := by omega
    have hd : l.drop i = l[i] :: l.drop (i + 1) := List.drop_eq_getElem_cons hlt
    rw [utf_Encode.l0]
    rw [if_pos (by omega), if_pos (by omega), if_pos (by omega), rd_nat l i hlt, Size_k k (by omega)]
    simp only [Option.bind_some]
    by_cases h : okc l[i] = true
    · rw [if_neg (fun e => (sz_zero _).1 e h), put_k k (by omega) _ _ h (by omega)]
      simp only [Option.bind_some]
      rw [wrap64_in (by omega) (by omega)]
      have e : ((i : Int) + 1) = ((i + 1 : Nat) : Int) := by simp
      rw [e, ih k (i + 1) _ (by omega) (by omega) (by have := (eb_len l[i]).2; simp; omega), hd]
      by_cases h' : okl (l.drop (i + 1)) = true
      · rw [if_pos h', if_pos (by rw [okl_cons]; exact ⟨h, h'⟩)]
        simp [ebs]
      · rw [if_neg h', if_neg (by rw [okl_cons]; exact fun x => h' x.2)]
    · rw [if_pos ((sz_zero _).2 h), hd, if_neg (by rw [okl_cons]; exact fun x => h x.1)]
theorem Encode_f (l : List Int) (hl : l.length ≤ 10000) (k : Nat) (hk : l.length + 2 ≤ k) : utf_Encode.f k l = some (encR l) := by
  unfold utf_Encode.f
  have := Encode_l l hl l.length k 0 [] (by omega) hk (by simp)
  simp only [Int.ofNat_zero, List.drop_zero, List.nil_append] at this
  exact this

theorem head_f (a : Int) : utf_head.f a = some (if a ≤ 127 then (1, 128, 191) else (if a < 194 then (0, 128, 191) else (if a < 224 then (2, 128, 191) else (if a = 224 then (3, 160, 191) else (if a = 237 then (3, 128, 159) else (if a < 240 then (3, 128, 191) else (if a = 240 then (4, 144, 191) else (if a = 244 then (4, 128, 143) else (if a < 244 then (4, 128, 191) else (0, 128, 191)))))))))) := by
  unfold utf_head.f
  repeat' split
  all_goals rfl
def lim : Nat → Int
  | 0 => 2147483648
  | j + 1 => lim j / 64
theorem lim_le : ∀ j, lim j ≤ 2147483648 ∧ 0 ≤ lim j
  | 0 => by simp [lim]
  | j + 1 => by have := lim_le j; simp only [lim]; omega
theorem First_l (x : List Int) (hx : byl x) (hl : x.length ≤ 100000) (n : Int) (hn : n ≤ 4) : ∀ (j k i : Nat) (lo hi v : Int), (i : Int) + j = n → j + 1 ≤ k → i ≤ x.length → 0 ≤ v → v < lim j →
    utf_First.l0 k x n lo hi v (i : Int) = some (more n j lo hi v (x.drop i)) := by
  intro j
  induction j with
  | zero =>
    intro k i lo hi v h hk hi' _ _
    obtain ⟨k, rfl⟩ : ∃ m, k = m + 1 := ⟨k - 1, by omega⟩
    rw [utf_First.l0]
    simp only [more]
    rw [if_neg (by omega)]
  | succ j ih =>
    intro k i lo hi v h hk hi' hv0 hv
    obtain ⟨k, rfl⟩ : ∃ m, k = m + 1 := ⟨k - 1, by omega⟩
    rw [utf_First.l0]
    rw [if_pos (by omega)]
    by_cases he : i = x.length
    · rw [if_pos (by omega), List.drop_of_length_le (by omega)]
      rfl
    · have hlt : i < x.length := by omega
      rw [if_neg (by omega), if_pos (by omega), if_pos (by omega), rd_nat x i hlt, List.drop_eq_getElem_cons hlt]
      simp only [more]
      by_cases h1 : x[i] < lo
      · rw [if_pos h1, if_pos h1]
      rw [if_neg h1, if_neg h1]
      by_cases h2 : hi < x[i]
      · rw [if_pos h2, if_pos h2]
      rw [if_neg h2, if_neg h2]
      have hb := hx x[i] (List.getElem_mem hlt)
      have hj := lim_le j
      simp only [lim] at hv
      rw [u8_and63 _ hb.1 (by omega), wrap32_in (n := v * 64) (by omega) (by omega), wrap32_in (n := x[i] % 64) (by omega) (by omega), i32_or6 _ _ (by omega) (by omega) (by omega) (by omega) (by omega), wrap64_in (by omega) (by omega)]
      have e : ((i : Int) + 1) = ((i + 1 : Nat) : Int) := by simp
      rw [e]
      exact ih k (i + 1) _ _ _ (by omega) (by omega) (by omega) (by omega) (by omega)
theorem i32_and (i : Nat) (hi : i ≤ 31) (x : Int) (h₀ : 0 ≤ x) (h₁ : x < 2 ^ 31) : Go.bits .and .i32 x (2 ^ i - 1) = x % 2 ^ i := bits_mask .i32 31 (by decide) wraps_i32 i hi x h₀ h₁
theorem mask2 : wrap32 ((shl .i32 1 (wrap64 (7 - 2))) - 1) = 31 := by decide +kernel
theorem mask3 : wrap32 ((shl .i32 1 (wrap64 (7 - 3))) - 1) = 15 := by decide +kernel
theorem mask4 : wrap32 ((shl .i32 1 (wrap64 (7 - 4))) - 1) = 7 := by decide +kernel
theorem First_j (x : List Int) (hx : byl x) (hl : x.length ≤ 100000) (n : Int) (hn : n ≤ 4) (j k : Nat) (lo hi v : Int) (h : (1 : Int) + j = n) (hk : j + 2 ≤ k) (h1 : 1 ≤ x.length) (hv0 : 0 ≤ v) (hv : v < lim j) :
    utf_First.j0 k x n lo hi v = some (more n j lo hi v (x.drop 1)) := by
  obtain ⟨k, rfl⟩ : ∃ m, k = m + 1 := ⟨k - 1, by omega⟩
  simp only [utf_First.j0]
  exact First_l x hx hl n hn j k 1 lo hi v (by simpa using h) (by omega) h1 hv0 hv
theorem First_f (x : List Int) (hx : byl x) (hl : x.length ≤ 100000) (k : Nat) (hk : 5 ≤ k) : utf_First.f k x = some (fst x) := by
  unfold utf_First.f
  cases x with
  | nil => rfl
  | cons a r =>
    have ha := hx a (by simp)
    rw [if_neg (by simp; omega), if_pos (by simp)]
    have e : rd (a :: r) 0 = a := rfl
    have hlen : 1 ≤ (a :: r).length := by simp
    have l1 : lim 1 = 33554432 := by decide
    have l2 : lim 2 = 524288 := by decide
    have l3 : lim 3 = 8192 := by decide
    rw [e, head_f, wrap32_in (n := a) (by omega) (by omega)]
    simp only [Option.bind_some, fst]
    by_cases h1 : a ≤ 127
    · simp only [if_pos h1]
      rw [if_neg (by decide), if_neg (by decide), First_j _ hx hl 1 (by decide) 0 k _ _ a (by decide) (by omega) hlen (by omega) (by show a < 2147483648; omega)]
      rfl
    simp only [if_neg h1]
    by_cases h2 : a < 194
    · simp only [if_pos h2]
      rw [if_pos trivial]
    simp only [if_neg h2]
    by_cases h3 : a < 224
    · simp only [if_pos h3]
      rw [if_neg (by decide), if_pos (by decide), if_pos (by decide +kernel), mask2, show Go.bits .and .i32 a 31 = a % 32 from i32_and 5 (by decide) a (by omega) (by omega),
        First_j _ hx hl 2 (by decide) 1 k _ _ _ (by decide) (by omega) hlen (by omega) (by omega), show a % 32 = a - 192 by omega]
      rfl
    simp only [if_neg h3]
    by_cases h4 : a = 224
    · simp only [if_pos h4]
      rw [if_neg (by decide), if_pos (by decide), if_pos (by decide +kernel), mask3, show Go.bits .and .i32 a 15 = a % 16 from i32_and 4 (by decide) a (by omega) (by omega),
        First_j _ hx hl 3 (by decide) 2 k _ _ _ (by decide) (by omega) hlen (by omega) (by omega), show a % 16 = 0 by omega]
      rfl
    simp only [if_neg h4]
    by_cases h5 : a = 237
    · simp only [if_pos h5]
      rw [if_neg (by decide), if_pos (by decide), if_pos (by decide +kernel), mask3, show Go.bits .and .i32 a 15 = a % 16 from i32_and 4 (by decide) a (by omega) (by omega),
        First_j _ hx hl 3 (by decide) 2 k _ _ _ (by decide) (by omega) hlen (by omega) (by omega), show a % 16 = 13 by omega]
      rfl
    simp only [if_neg h5]
    by_cases h6 : a < 240
    · simp only [if_pos h6]
      rw [if_neg (by decide), if_pos (by decide), if_pos (by decide +kernel), mask3, show Go.bits .and .i32 a 15 = a % 16 from i32_and 4 (by decide) a (by omega) (by omega),
        First_j _ hx hl 3 (by decide) 2 k _ _ _ (by decide) (by omega) hlen (by omega) (by omega), show a % 16 = a - 224 by omega]
      rfl
    simp only [if_neg h6]
    by_cases h7 : a = 240
    · simp only [if_pos h7]
      rw [if_neg (by decide), if_pos (by decide), if_pos (by decide +kernel), mask4, show Go.bits .and .i32 a 7 = a % 8 from i32_and 3 (by decide) a (by omega) (by omega),
        First_j _ hx hl 4 (by decide) 3 k _ _ _ (by decide) (by omega) hlen (by omega) (by omega), show a % 8 = 0 by omega]
      rfl
    simp only [if_neg h7]
    by_cases h8 : a = 244
    · simp only [if_pos h8]
      rw [if_neg (by decide), if_pos (by decide), if_pos (by decide +kernel), mask4, show Go.bits .and .i32 a 7 = a % 8 from i32_and 3 (by decide) a (by omega) (by omega),
        First_j _ hx hl 4 (by decide) 3 k _ _ _ (by decide) (by omega) hlen (by omega) (by omega), show a % 8 = 4 by omega]
      rfl
    simp only [if_neg h8]
    by_cases h9 : a < 244
    · simp only [if_pos h9]
      rw [if_neg (by decide), if_pos (by decide), if_pos (by decide +kernel), mask4, show Go.bits .and .i32 a 7 = a % 8 from i32_and 3 (by decide) a (by omega) (by omega),
        First_j _ hx hl 4 (by decide) 3 k _ _ _ (by decide) (by omega) hlen (by omega) (by omega), show a % 8 = a - 240 by omega]
      rfl
    · simp only [if_neg h9]
      rw [if_pos trivial]

theorem Decode_l : ∀ (n : Nat) (x acc : List Int), byl x → x.length < n → x.length + acc.length ≤ 100000 →
    utf_Decode.l0 (n + 5) x acc = some (match decF n x with | some c => (acc ++ c, 0) | none => ([], 2)) := by
  intro n
  induction n with
  | zero => intro x acc _ h; omega
  | succ n ih =>
    intro x acc hx hn hl
    rw [show n + 1 + 5 = (n + 5) + 1 by omega]
    rw [utf_Decode.l0]
    simp only [decF]
    by_cases h0 : x = []
    · subst h0
      simp
    · have hlen : 0 < x.length := List.length_pos_iff.mpr h0
      rw [if_pos (by omega), First_f x hx (by omega) _ (by omega), if_neg h0]
      simp only [Option.bind_some]
      by_cases h1 : (fst x).2.2 = 0
      · obtain ⟨k1, k2, r, k3⟩ := fst_ok hx h1
        have hs := sz_ok k1
        have hb := eb_len (fst x).1
        have hle : (eb (fst x).1).length + r.length = x.length := by
          have := congrArg List.length k3
          simp at this; omega
        rw [if_pos h1, if_pos h1, if_pos (by omega), if_pos (by omega), if_pos (by omega), ih _ _ (byl_drop hx _) (by simp; omega) (by simp; omega)]
        cases decF n (List.drop (fst x).2.1.toNat x) with
        | none => rfl
        | some c => simp
      · rw [if_neg h1, if_neg h1]
theorem Decode_f (x : List Int) (hx : byl x) (hl : x.length ≤ 100000) (k : Nat) (hk : x.length + 6 ≤ k) : utf_Decode.f k x = some (dec x) := by
  unfold utf_Decode.f dec
  have h := Decode_l (x.length + 1) x [] hx (by omega) (by simpa using hl)
  have h' := at_rounds (g := fun k => utf_Decode.l0 k x []) (fun k => utf_Decode.mono_l k x []) (show x.length + 1 + 5 ≤ k by omega) h
  rw [h']
  cases decF (x.length + 1) x with
  | none => rfl
  | some c => simp
theorem Tail_l (x : List Int) (hx : byl x) (hl : x.length ≤ 100000) : ∀ (n k : Nat), n ≤ x.length → n + 6 ≤ k → utf_Tail.l0 k x (n : Int) = some (tlF x n) := by
  intro n
  induction n with
  | zero =>
    intro k _ hk
    obtain ⟨k, rfl⟩ : ∃ m, k = m + 1 := ⟨k - 1, by omega⟩
    rw [utf_Tail.l0]
    simp only [tlF]
    rw [if_neg (by simp)]
  | succ n ih =>
    intro k hn hk
    obtain ⟨k, rfl⟩ : ∃ m, k = m + 1 := ⟨k - 1, by omega⟩
    rw [utf_Tail.l0]
    simp only [tlF]
    rw [wrap64_in (by omega) (by omega), if_pos (by omega), if_pos (by omega), if_pos (by omega), show ((x.length : Int) - ((n + 1 : Nat) : Int)).toNat = x.length - (n + 1) by omega,
      First_f _ (byl_drop hx _) (by simp; omega) k (by omega)]
    simp only [Option.bind_some]
    by_cases h : (fst (List.drop (x.length - (n + 1)) x)).2.2 = 6
    · rw [if_pos h, if_pos h]
    · rw [if_neg h, if_neg h, wrap64_in (by omega) (by omega), show (((n + 1 : Nat) : Int) - 1) = (n : Int) by omega]
      exact ih k (by omega) (by omega)
theorem Tail_f (x : List Int) (hx : byl x) (hl : x.length ≤ 100000) (k : Nat) (hk : 9 ≤ k) : utf_Tail.f k x = some (tl x) := by
  unfold utf_Tail.f tl
  have e : mn 3 (x.length : Int) = ((min 3 x.length : Nat) : Int) := by unfold mn; split <;> omega
  rw [e]
  exact Tail_l x hx hl _ k (by omega) (by omega)
theorem shown_20 : foolscaplaw01_shown.f 20 = some true := by decide +kernel
theorem shown_f (k : Nat) (hk : 20 ≤ k) : foolscaplaw01_shown.f k = some true := at_rounds foolscaplaw01_shown.mono hk shown_20
theorem Same_l (a b : List Int) (h : a.length = b.length) (hl : a.length ≤ 100000) : ∀ (d k i : Nat), i + d = a.length → d + 1 ≤ k → foolscapref01_Same.l0 k a b (i : Int) = some (decide (a.drop i = b.drop i)) := by
  intro d
  induction d with
  | zero =>
    intro k i hi hk
    obtain ⟨k, rfl⟩ : ∃ m, k = m + 1 := ⟨k - 1, by omega⟩
    rw [foolscapref01_Same.l0]
    rw [if_neg (by omega), List.drop_of_length_le (by omega), List.drop_of_length_le (by omega)]
    rfl
  | succ d ih =>
    intro k i hi hk
    obtain ⟨k, rfl⟩ : ∃ m, k = m + 1 := ⟨k - 1, by omega⟩
    rw [foolscapref01_Same.l0]
    have ha : i < a.length := by omega
    have hb : i < b.length := by omega
    rw [if_pos (by omega), if_pos (by omega), if_pos (by omega), rd_nat a i ha, rd_nat b i hb, List.drop_eq_getElem_cons ha, List.drop_eq_getElem_cons hb]
    by_cases e : a[i] = b[i]
    · rw [if_pos e, wrap64_in (by omega) (by omega), show ((i : Int) + 1) = ((i + 1 : Nat) : Int) by simp, ih k (i + 1) (by omega) (by omega), e]
      simp only [List.cons.injEq, true_and]
    · rw [if_neg e]
      simp only [List.cons.injEq, e, false_and, decide_false]
theorem Same_f (a b : List Int) (hl : a.length ≤ 100000) (k : Nat) (hk : a.length + 1 ≤ k) : foolscapref01_Same.f k a b = some (decide (a = b)) := by
  unfold foolscapref01_Same.f
  by_cases h : a.length = b.length
  · rw [if_pos (by omega)]
    have := Same_l a b h hl a.length k 0 (by omega) hk
    simpa using this
  · rw [if_neg (by omega)]
    have : a ≠ b := fun e => h (by rw [e])
    simp [this]
theorem mn_nat (n m : Nat) : mn (n : Int) (m : Int) = ((min n m : Nat) : Int) := by unfold mn; split <;> omega
theorem nums_eq {a b : List Int} (ha : byl a) (hb : byl b) : ((strOfNums a).toList == (strOfNums b).toList) = decide (a = b) := by
  have inj : ∀ (a b : List Int), byl a → byl b → a.map (fun n => UInt8.ofNat n.toNat) = b.map (fun n => UInt8.ofNat n.toNat) → a = b := by
    intro a
    induction a with
    | nil => intro b _ _ h; cases b with
      | nil => rfl
      | cons y b => simp at h
    | cons x a ih =>
      intro b ha hb h
      cases b with
      | nil => simp at h
      | cons y b =>
        simp only [List.map_cons, List.cons.injEq] at h
        have hx := ha x (by simp)
        have hy := hb y (by simp)
        have h1 := congrArg UInt8.toNat h.1
        simp at h1
        rw [ih b (fun z hz => ha z (List.mem_cons_of_mem _ hz)) (fun z hz => hb z (List.mem_cons_of_mem _ hz)) h.2, show x = y by omega]
  have e : ∀ l : List Int, (strOfNums l).toList = l.map (fun n => UInt8.ofNat n.toNat) := by
    intro l
    unfold strOfNums
    exact ByteArray.toList_mk _
  rw [e, e]
  by_cases h : a = b
  · subst h; simp
  · have : ¬ (a.map (fun n => UInt8.ofNat n.toNat) = b.map (fun n => UInt8.ofNat n.toNat)) := fun k => h (inj a b ha hb k)
    rw [decide_eq_false h]
    simpa using this
theorem cut_lo (n : Nat) {m : Int} (hm : 0 ≤ m) : 0 ≤ mn (n : Int) m := by unfold mn; split <;> omega
theorem cut_hi (n : Nat) (m : Int) : mn (n : Int) m ≤ (n : Int) := by unfold mn; split <;> omega
theorem cut_le (l : List Int) {m : Int} (hm : 0 ≤ m) : ((l.take (mn (l.length : Int) m).toNat).length : Int) ≤ m := by
  rw [List.length_take]; unfold mn; split <;> omega
theorem encR_ok {l : List Int} (h : okl l = true) : encR l = (ebs l, 0) := by unfold encR; rw [if_pos h]
theorem encR_no {l : List Int} (h : ¬ okl l = true) : encR l = ([], 1) := by unfold encR; rw [if_neg h]
end Go.Proofs.Ytdbpeaadnhiekaa.PU
