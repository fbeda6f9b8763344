/- The characters of UTF-8 and their bytes, as plain functions on whole numbers and lists; no condition. -/
import Derived.Laws.BitsLemmas
import Derived.RowKit
namespace Go.Proofs.Ytdbpeaadnhiekaa.U
set_option linter.unusedVariables false

/-- A number that is a character. -/
def okc (c : Int) : Bool := decide (0 ≤ c) && decide (c ≤ 1114111) && (decide (c < 55296) || decide (57344 ≤ c))
/-- How many bytes it has. -/
def sz (c : Int) : Int := if okc c = true then (if c ≤ 127 then 1 else if c ≤ 2047 then 2 else if c ≤ 65535 then 3 else 4) else 0
/-- Its bytes. -/
def eb (c : Int) : List Int :=
  if c ≤ 127 then [c] else if c ≤ 2047 then [192 + c / 64, 128 + c % 64]
  else if c ≤ 65535 then [224 + c / 4096, 128 + c / 64 % 64, 128 + c % 64]
  else [240 + c / 262144, 128 + c / 4096 % 64, 128 + c / 64 % 64, 128 + c % 64]
/-- The bytes of a row. -/
def ebs : List Int → List Int
  | [] => []
  | c :: l => eb c ++ ebs l
/-- All are characters. -/
def okl (l : List Int) : Bool := l.all okc
/-- Reading on: so many bytes more, bounds of the next one, what is read till now. -/
def more (n : Int) : Nat → Int → Int → Int → List Int → Int × Int × Int
  | 0, _, _, v, _ => (v, n, 0)
  | _ + 1, _, _, _, [] => (0, 0, 6)
  | j + 1, lo, hi, v, b :: r => if b < lo then (0, 0, 2) else if hi < b then (0, 0, 2) else more n j 128 191 (v * 64 + b % 64) r
/-- The character that bytes begin with. -/
def fst : List Int → Int × Int × Int
  | [] => (0, 0, 5)
  | a :: r =>
    if a ≤ 127 then (a, 1, 0) else if a < 194 then (0, 0, 2) else if a < 224 then more 2 1 128 191 (a - 192) r
    else if a = 224 then more 3 2 160 191 0 r else if a = 237 then more 3 2 128 159 13 r
    else if a < 240 then more 3 2 128 191 (a - 224) r
    else if a = 240 then more 4 3 144 191 0 r else if a = 244 then more 4 3 128 143 4 r
    else if a < 244 then more 4 3 128 191 (a - 240) r else (0, 0, 2)
/-- Bytes. -/
def byl (l : List Int) : Prop := ∀ x ∈ l, 0 ≤ x ∧ x ≤ 255

theorem okc_iff (c : Int) : okc c = true ↔ (0 ≤ c ∧ c ≤ 1114111 ∧ (c < 55296 ∨ 57344 ≤ c)) := by simp [okc, and_assoc]
theorem sz_ok {c : Int} (h : okc c = true) : sz c = (eb c).length := by
  unfold sz eb
  rw [if_pos h]
  repeat' split
  all_goals simp
theorem sz_no {c : Int} (h : ¬ okc c = true) : sz c = 0 := by unfold sz; rw [if_neg h]
theorem sz_zero (c : Int) : sz c = 0 ↔ ¬ okc c = true := by
  constructor
  · intro h hk
    rw [sz_ok hk] at h
    unfold eb at h
    repeat' split at h
    all_goals simp at h
  · exact sz_no
theorem eb_len (c : Int) : 1 ≤ (eb c).length ∧ (eb c).length ≤ 4 := by
  unfold eb
  repeat' split
  all_goals simp
theorem eb_byl {c : Int} (h : okc c = true) : byl (eb c) := by
  rw [okc_iff] at h
  unfold byl eb
  intro x hx
  repeat' split at hx
  all_goals simp at hx
  all_goals omega
/-- What is written is read. -/
theorem fst_eb {c : Int} (h : okc c = true) (r : List Int) : fst (eb c ++ r) = (c, sz c, 0) := by
  have hs := h
  rw [okc_iff] at h
  unfold sz
  rw [if_pos hs]
  unfold eb
  by_cases h1 : c ≤ 127
  · simp [h1, fst]
  · by_cases h2 : c ≤ 2047
    · rw [if_neg h1, if_pos h2, if_neg h1, if_pos h2]
      simp only [List.cons_append, List.nil_append, fst]
      rw [if_neg (by omega), if_neg (by omega), if_pos (by omega)]
      simp only [more]
      rw [if_neg (by omega), if_neg (by omega)]
      congr 1; omega
    · by_cases h3 : c ≤ 65535
      · rw [if_neg h1, if_neg h2, if_pos h3, if_neg h1, if_neg h2, if_pos h3]
        simp only [List.cons_append, List.nil_append, fst]
        rw [if_neg (by omega), if_neg (by omega), if_neg (by omega)]
        by_cases e : 224 + c / 4096 = 224
        · rw [if_pos e]
          simp only [more]
          rw [if_neg (by omega), if_neg (by omega), if_neg (by omega), if_neg (by omega)]
          congr 1; omega
        · rw [if_neg e]
          by_cases e : 224 + c / 4096 = 237
          · rw [if_pos e]
            simp only [more]
            rw [if_neg (by omega), if_neg (by omega), if_neg (by omega), if_neg (by omega)]
            congr 1; omega
          · rw [if_neg e, if_pos (by omega)]
            simp only [more]
            rw [if_neg (by omega), if_neg (by omega), if_neg (by omega), if_neg (by omega)]
            congr 1; omega
      · rw [if_neg h1, if_neg h2, if_neg h3, if_neg h1, if_neg h2, if_neg h3]
        simp only [List.cons_append, List.nil_append, fst]
        rw [if_neg (by omega), if_neg (by omega), if_neg (by omega), if_neg (by omega), if_neg (by omega), if_neg (by omega)]
        by_cases e : 240 + c / 262144 = 240
        · rw [if_pos e]
          simp only [more]
          rw [if_neg (by omega), if_neg (by omega), if_neg (by omega), if_neg (by omega), if_neg (by omega), if_neg (by omega)]
          congr 1; omega
        · rw [if_neg e]
          by_cases e : 240 + c / 262144 = 244
          · rw [if_pos e]
            simp only [more]
            rw [if_neg (by omega), if_neg (by omega), if_neg (by omega), if_neg (by omega), if_neg (by omega), if_neg (by omega)]
            congr 1; omega
          · rw [if_neg e, if_pos (by omega)]
            simp only [more]
            rw [if_neg (by omega), if_neg (by omega), if_neg (by omega), if_neg (by omega), if_neg (by omega), if_neg (by omega)]
            congr 1; omega
/-- Reading on, what it may tell. -/
theorem more_ok (n : Int) : ∀ (j : Nat) (lo hi v : Int) (r : List Int), (more n j lo hi v r).2.2 = 0 →
    j ≤ r.length ∧ (more n j lo hi v r).2.1 = n ∧ (more n j lo hi v r).1 = (r.take j).foldl (fun v b => v * 64 + b % 64) v ∧
    (1 ≤ j → lo ≤ r.getD 0 0 ∧ r.getD 0 0 ≤ hi) ∧ (2 ≤ j → 128 ≤ r.getD 1 0 ∧ r.getD 1 0 ≤ 191) ∧ (3 ≤ j → 128 ≤ r.getD 2 0 ∧ r.getD 2 0 ≤ 191) := by
  intro j
  induction j with
  | zero => intro lo hi v r _; simp [more]
  | succ j ih =>
    intro lo hi v r h
    cases r with
    | nil => simp [more] at h
    | cons b r =>
      simp only [more] at h ⊢
      by_cases h1 : b < lo
      · rw [if_pos h1] at h; simp at h
      · rw [if_neg h1] at h ⊢
        by_cases h2 : hi < b
        · rw [if_pos h2] at h; simp at h
        · rw [if_neg h2] at h ⊢
          obtain ⟨a1, a2, a3, a4, a5, a6⟩ := ih _ _ _ _ h
          refine ⟨by simp; omega, a2, ?_, fun _ => ⟨by simp; omega, by simp; omega⟩, fun hj => ?_, fun hj => ?_⟩
          · rw [a3]; simp
          · have := a4 (by omega); simpa using this
          · have := a5 (by omega); simpa using this
theorem two_of {r : List Int} (h : 1 ≤ r.length) : ∃ a t, r = a :: t := by
  cases r with
  | nil => simp at h
  | cons a t => exact ⟨a, t, rfl⟩
theorem fold1 (v b : Int) (t : List Int) : ((b :: t).take 1).foldl (fun v b => v * 64 + b % 64) v = v * 64 + b % 64 := by simp
theorem fold2 (v b c : Int) (t : List Int) : ((b :: c :: t).take 2).foldl (fun v b => v * 64 + b % 64) v = (v * 64 + b % 64) * 64 + c % 64 := by simp
theorem fold3 (v b c d : Int) (t : List Int) : ((b :: c :: d :: t).take 3).foldl (fun v b => v * 64 + b % 64) v = ((v * 64 + b % 64) * 64 + c % 64) * 64 + d % 64 := by simp
/-- What is read is a character, and these are its bytes. -/
theorem more1 {a b n lo hi v : Int} {t : List Int} (h : (more n 1 lo hi v (b :: t)).2.2 = 0) : (more n 1 lo hi v (b :: t)) = (v * 64 + b % 64, n, 0) ∧ lo ≤ b ∧ b ≤ hi := by
  obtain ⟨_, a2, a3, a4, _, _⟩ := more_ok _ _ _ _ _ _ h
  rw [fold1] at a3
  have a4 := a4 (by omega)
  simp at a4
  exact ⟨Prod.ext a3 (Prod.ext a2 h), a4.1, a4.2⟩
theorem eb2 {c : Int} (h1 : 127 < c) (h2 : c ≤ 2047) : eb c = [192 + c / 64, 128 + c % 64] := by
  unfold eb; rw [if_neg (by omega), if_pos h2]
theorem eb3 {c : Int} (h1 : 2047 < c) (h2 : c ≤ 65535) : eb c = [224 + c / 4096, 128 + c / 64 % 64, 128 + c % 64] := by
  unfold eb; rw [if_neg (by omega), if_neg (by omega), if_pos h2]
theorem eb4 {c : Int} (h1 : 65535 < c) : eb c = [240 + c / 262144, 128 + c / 4096 % 64, 128 + c / 64 % 64, 128 + c % 64] := by
  unfold eb; rw [if_neg (by omega), if_neg (by omega), if_neg (by omega)]
theorem sz1 {c : Int} (h0 : 0 ≤ c) (h1 : c ≤ 127) : sz c = 1 := by unfold sz; rw [if_pos (by rw [okc_iff]; omega), if_pos h1]
theorem sz2 {c : Int} (h1 : 127 < c) (h2 : c ≤ 2047) : sz c = 2 := by unfold sz; rw [if_pos (by rw [okc_iff]; omega), if_neg (by omega), if_pos h2]
theorem sz3 {c : Int} (h1 : 2047 < c) (h2 : c ≤ 65535) (h3 : c < 55296 ∨ 57344 ≤ c) : sz c = 3 := by unfold sz; rw [if_pos (by rw [okc_iff]; omega), if_neg (by omega), if_neg (by omega), if_pos h2]
theorem sz4 {c : Int} (h1 : 65535 < c) (h2 : c ≤ 1114111) : sz c = 4 := by unfold sz; rw [if_pos (by rw [okc_iff]; omega), if_neg (by omega), if_neg (by omega), if_neg (by omega)]
theorem three_of (a b v : Int) (t : List Int) (lo hi : Int) (h : (more 3 2 lo hi v t).2.2 = 0) :
    ∃ b c r, t = b :: c :: r ∧ more 3 2 lo hi v t = ((v * 64 + b % 64) * 64 + c % 64, 3, 0) ∧ lo ≤ b ∧ b ≤ hi ∧ 128 ≤ c ∧ c ≤ 191 := by
  obtain ⟨a1, a2, a3, a4, a5, _⟩ := more_ok _ _ _ _ _ _ h
  match t, a1 with
  | b :: c :: r, _ =>
    rw [fold2] at a3
    have a4 := a4 (by omega)
    have a5 := a5 (by omega)
    simp at a4 a5
    exact ⟨b, c, r, rfl, Prod.ext a3 (Prod.ext a2 h), a4.1, a4.2, a5.1, a5.2⟩
theorem four_of (v : Int) (t : List Int) (lo hi : Int) (h : (more 4 3 lo hi v t).2.2 = 0) :
    ∃ b c d r, t = b :: c :: d :: r ∧ more 4 3 lo hi v t = (((v * 64 + b % 64) * 64 + c % 64) * 64 + d % 64, 4, 0) ∧ lo ≤ b ∧ b ≤ hi ∧ 128 ≤ c ∧ c ≤ 191 ∧ 128 ≤ d ∧ d ≤ 191 := by
  obtain ⟨a1, a2, a3, a4, a5, a6⟩ := more_ok _ _ _ _ _ _ h
  match t, a1 with
  | b :: c :: d :: r, _ =>
    rw [fold3] at a3
    have a4 := a4 (by omega)
    have a5 := a5 (by omega)
    have a6 := a6 (by omega)
    simp at a4 a5 a6
    exact ⟨b, c, d, r, rfl, Prod.ext a3 (Prod.ext a2 h), a4.1, a4.2, a5.1, a5.2, a6.1, a6.2⟩
theorem three_eb {a b c v lo hi : Int} (hb0 : 128 ≤ lo) (hb1 : hi ≤ 191) (h1 : lo ≤ b) (h2 : b ≤ hi) (h3 : 128 ≤ c) (h4 : c ≤ 191) (ha : a = 224 + v) (hv : 0 ≤ v) (hv' : v ≤ 15)
    (h5 : v = 0 → 160 ≤ b) (h6 : v = 13 → b ≤ 159) : okc ((v * 64 + b % 64) * 64 + c % 64) = true ∧ sz ((v * 64 + b % 64) * 64 + c % 64) = 3 ∧ eb ((v * 64 + b % 64) * 64 + c % 64) = [a, b, c] := by
  have g1 : 2047 < (v * 64 + b % 64) * 64 + c % 64 := by omega
  have g2 : (v * 64 + b % 64) * 64 + c % 64 ≤ 65535 := by omega
  have g3 : (v * 64 + b % 64) * 64 + c % 64 < 55296 ∨ 57344 ≤ (v * 64 + b % 64) * 64 + c % 64 := by omega
  refine ⟨by rw [okc_iff]; omega, sz3 g1 g2 g3, ?_⟩
  rw [eb3 g1 g2]
  simp only [List.cons.injEq, and_true]
  omega
theorem four_eb {a b c d v lo hi : Int} (hb0 : 128 ≤ lo) (hb1 : hi ≤ 191) (h1 : lo ≤ b) (h2 : b ≤ hi) (h3 : 128 ≤ c) (h4 : c ≤ 191) (h3' : 128 ≤ d) (h4' : d ≤ 191) (ha : a = 240 + v) (hv : 0 ≤ v) (hv' : v ≤ 4)
    (h5 : v = 0 → 144 ≤ b) (h6 : v = 4 → b ≤ 143) : okc (((v * 64 + b % 64) * 64 + c % 64) * 64 + d % 64) = true ∧ sz (((v * 64 + b % 64) * 64 + c % 64) * 64 + d % 64) = 4 ∧ eb (((v * 64 + b % 64) * 64 + c % 64) * 64 + d % 64) = [a, b, c, d] := by
  have g1 : 65535 < ((v * 64 + b % 64) * 64 + c % 64) * 64 + d % 64 := by omega
  have g2 : ((v * 64 + b % 64) * 64 + c % 64) * 64 + d % 64 ≤ 1114111 := by omega
  refine ⟨by rw [okc_iff]; omega, sz4 g1 g2, ?_⟩
  rw [eb4 g1]
  simp only [List.cons.injEq, and_true]
  omega
theorem fst_ok {l : List Int} (hl : byl l) (h : (fst l).2.2 = 0) : okc (fst l).1 = true ∧ (fst l).2.1 = sz (fst l).1 ∧ ∃ r, l = eb (fst l).1 ++ r := by
  cases l with
  | nil => simp [fst] at h
  | cons a t =>
    have ha := hl a (by simp)
    simp only [fst] at h ⊢
    by_cases h1 : a ≤ 127
    · rw [if_pos h1]
      refine ⟨by rw [okc_iff]; simp only; omega, (sz1 ha.1 h1).symm, t, ?_⟩
      unfold eb; rw [if_pos h1]; rfl
    rw [if_neg h1] at h ⊢
    by_cases h2 : a < 194
    · rw [if_pos h2] at h; simp at h
    rw [if_neg h2] at h ⊢
    by_cases h3 : a < 224
    · rw [if_pos h3] at h ⊢
      cases t with
      | nil => simp [more] at h
      | cons b t =>
        obtain ⟨e, g1, g2⟩ := more1 (a := a) h
        rw [e]
        simp only
        have k1 : 127 < (a - 192) * 64 + b % 64 := by omega
        have k2 : (a - 192) * 64 + b % 64 ≤ 2047 := by omega
        refine ⟨by rw [okc_iff]; omega, (sz2 k1 k2).symm, t, ?_⟩
        rw [eb2 k1 k2]
        simp only [List.cons_append, List.nil_append, List.cons.injEq, and_true]
        omega
    rw [if_neg h3] at h ⊢
    by_cases h4 : a = 224
    · rw [if_pos h4] at h ⊢
      obtain ⟨b, c, r, rfl, e, g1, g2, g3, g4⟩ := three_of a a _ _ _ _ h
      rw [e]
      obtain ⟨k1, k2, k3⟩ := three_eb (a := a) (b := b) (c := c) (v := 0) (lo := 160) (hi := 191) (by omega) (by omega) g1 g2 g3 g4 (by omega) (by omega) (by omega) (by omega) (by omega)
      exact ⟨k1, k2.symm, r, by rw [k3]; rfl⟩
    rw [if_neg h4] at h ⊢
    by_cases h5 : a = 237
    · rw [if_pos h5] at h ⊢
      obtain ⟨b, c, r, rfl, e, g1, g2, g3, g4⟩ := three_of a a _ _ _ _ h
      rw [e]
      obtain ⟨k1, k2, k3⟩ := three_eb (a := a) (b := b) (c := c) (v := 13) (lo := 128) (hi := 159) (by omega) (by omega) g1 g2 g3 g4 (by omega) (by omega) (by omega) (by omega) (by omega)
      exact ⟨k1, k2.symm, r, by rw [k3]; rfl⟩
    rw [if_neg h5] at h ⊢
    by_cases h6 : a < 240
    · rw [if_pos h6] at h ⊢
      obtain ⟨b, c, r, rfl, e, g1, g2, g3, g4⟩ := three_of a a _ _ _ _ h
      rw [e]
      obtain ⟨k1, k2, k3⟩ := three_eb (a := a) (b := b) (c := c) (v := a - 224) (lo := 128) (hi := 191) (by omega) (by omega) g1 g2 g3 g4 (by omega) (by omega) (by omega) (by omega) (by omega)
      exact ⟨k1, k2.symm, r, by rw [k3]; rfl⟩
    rw [if_neg h6] at h ⊢
    by_cases h7 : a = 240
    · rw [if_pos h7] at h ⊢
      obtain ⟨b, c, d, r, rfl, e, g1, g2, g3, g4, g5, g6⟩ := four_of _ _ _ _ h
      rw [e]
      obtain ⟨k1, k2, k3⟩ := four_eb (a := a) (b := b) (c := c) (d := d) (v := 0) (lo := 144) (hi := 191) (by omega) (by omega) g1 g2 g3 g4 g5 g6 (by omega) (by omega) (by omega) (by omega) (by omega)
      exact ⟨k1, k2.symm, r, by rw [k3]; rfl⟩
    rw [if_neg h7] at h ⊢
    by_cases h8 : a = 244
    · rw [if_pos h8] at h ⊢
      obtain ⟨b, c, d, r, rfl, e, g1, g2, g3, g4, g5, g6⟩ := four_of _ _ _ _ h
      rw [e]
      obtain ⟨k1, k2, k3⟩ := four_eb (a := a) (b := b) (c := c) (d := d) (v := 4) (lo := 128) (hi := 143) (by omega) (by omega) g1 g2 g3 g4 g5 g6 (by omega) (by omega) (by omega) (by omega) (by omega)
      exact ⟨k1, k2.symm, r, by rw [k3]; rfl⟩
    rw [if_neg h8] at h ⊢
    by_cases h9 : a < 244
    · rw [if_pos h9] at h ⊢
      obtain ⟨b, c, d, r, rfl, e, g1, g2, g3, g4, g5, g6⟩ := four_of _ _ _ _ h
      rw [e]
      obtain ⟨k1, k2, k3⟩ := four_eb (a := a) (b := b) (c := c) (d := d) (v := a - 240) (lo := 128) (hi := 191) (by omega) (by omega) g1 g2 g3 g4 g5 g6 (by omega) (by omega) (by omega) (by omega) (by omega)
      exact ⟨k1, k2.symm, r, by rw [k3]; rfl⟩
    · rw [if_neg h9] at h; simp at h

/-! ### Rows of characters, and cuts -/
theorem okl_cons (c : Int) (l : List Int) : okl (c :: l) = true ↔ okc c = true ∧ okl l = true := by simp [okl]
theorem okl_append (a b : List Int) : okl (a ++ b) = true ↔ okl a = true ∧ okl b = true := by simp [okl]
theorem ebs_append (a b : List Int) : ebs (a ++ b) = ebs a ++ ebs b := by
  induction a with
  | nil => rfl
  | cons c l ih => simp [ebs, ih]
theorem ebs_len_le (l : List Int) : (ebs l).length ≤ 4 * l.length := by
  induction l with
  | nil => simp [ebs]
  | cons c l ih => have := (eb_len c).2; simp [ebs]; omega
theorem len_le_ebs (l : List Int) : l.length ≤ (ebs l).length := by
  induction l with
  | nil => simp [ebs]
  | cons c l ih => have := (eb_len c).1; simp [ebs]; omega
theorem byl_append (a b : List Int) : byl (a ++ b) ↔ byl a ∧ byl b := by
  unfold byl
  constructor
  · intro h
    exact ⟨fun x hx => h x (List.mem_append_left _ hx), fun x hx => h x (List.mem_append_right _ hx)⟩
  · rintro ⟨h1, h2⟩ x hx
    rcases List.mem_append.1 hx with h | h
    · exact h1 x h
    · exact h2 x h
theorem ebs_byl {l : List Int} (h : okl l = true) : byl (ebs l) := by
  induction l with
  | nil => intro x hx; simp [ebs] at hx
  | cons c l ih =>
    rw [okl_cons] at h
    exact (byl_append _ _).2 ⟨eb_byl h.1, ih h.2⟩
theorem byl_drop {l : List Int} (h : byl l) (n : Nat) : byl (l.drop n) := fun x hx => h x (List.mem_of_mem_drop hx)
theorem byl_take {l : List Int} (h : byl l) (n : Nat) : byl (l.take n) := fun x hx => h x (List.mem_of_mem_take hx)
/-- The bytes of a character, cut short. -/
theorem fst_cut {c : Int} (h : okc c = true) (k : Nat) (h0 : 0 < k) (hk : k < (eb c).length) : fst ((eb c).take k) = (0, 0, 6) := by
  rw [okc_iff] at h
  by_cases h1 : c ≤ 127
  · unfold eb at hk; rw [if_pos h1] at hk; simp at hk; omega
  by_cases h2 : c ≤ 2047
  · rw [eb2 (by omega) h2] at hk ⊢
    have : k = 1 := by simp at hk; omega
    subst this
    simp only [List.take_succ_cons, List.take_zero, fst]
    rw [if_neg (by omega), if_neg (by omega), if_pos (by omega)]
    rfl
  by_cases h3 : c ≤ 65535
  · rw [eb3 (by omega) h3] at hk ⊢
    simp at hk
    have hk' : k = 1 ∨ k = 2 := by omega
    rcases hk' with rfl | rfl
    · simp only [List.take_succ_cons, List.take_zero, fst]
      rw [if_neg (by omega), if_neg (by omega), if_neg (by omega)]
      by_cases e : 224 + c / 4096 = 224
      · rw [if_pos e]; rfl
      rw [if_neg e]
      by_cases e : 224 + c / 4096 = 237
      · rw [if_pos e]; rfl
      rw [if_neg e, if_pos (by omega)]; rfl
    · simp only [List.take_succ_cons, List.take_zero, fst]
      rw [if_neg (by omega), if_neg (by omega), if_neg (by omega)]
      by_cases e : 224 + c / 4096 = 224
      · rw [if_pos e]; simp only [more]; rw [if_neg (by omega), if_neg (by omega)]
      rw [if_neg e]
      by_cases e : 224 + c / 4096 = 237
      · rw [if_pos e]; simp only [more]; rw [if_neg (by omega), if_neg (by omega)]
      rw [if_neg e, if_pos (by omega)]; simp only [more]; rw [if_neg (by omega), if_neg (by omega)]
  · rw [eb4 (by omega)] at hk ⊢
    simp at hk
    have hk' : k = 1 ∨ k = 2 ∨ k = 3 := by omega
    rcases hk' with rfl | rfl | rfl
    · simp only [List.take_succ_cons, List.take_zero, fst]
      rw [if_neg (by omega), if_neg (by omega), if_neg (by omega), if_neg (by omega), if_neg (by omega), if_neg (by omega)]
      by_cases e : 240 + c / 262144 = 240
      · rw [if_pos e]; rfl
      rw [if_neg e]
      by_cases e : 240 + c / 262144 = 244
      · rw [if_pos e]; rfl
      rw [if_neg e, if_pos (by omega)]; rfl
    · simp only [List.take_succ_cons, List.take_zero, fst]
      rw [if_neg (by omega), if_neg (by omega), if_neg (by omega), if_neg (by omega), if_neg (by omega), if_neg (by omega)]
      by_cases e : 240 + c / 262144 = 240
      · rw [if_pos e]; simp only [more]; rw [if_neg (by omega), if_neg (by omega)]
      rw [if_neg e]
      by_cases e : 240 + c / 262144 = 244
      · rw [if_pos e]; simp only [more]; rw [if_neg (by omega), if_neg (by omega)]
      rw [if_neg e, if_pos (by omega)]; simp only [more]; rw [if_neg (by omega), if_neg (by omega)]
    · simp only [List.take_succ_cons, List.take_zero, fst]
      rw [if_neg (by omega), if_neg (by omega), if_neg (by omega), if_neg (by omega), if_neg (by omega), if_neg (by omega)]
      by_cases e : 240 + c / 262144 = 240
      · rw [if_pos e]; simp only [more]; rw [if_neg (by omega), if_neg (by omega), if_neg (by omega), if_neg (by omega)]
      rw [if_neg e]
      by_cases e : 240 + c / 262144 = 244
      · rw [if_pos e]; simp only [more]; rw [if_neg (by omega), if_neg (by omega), if_neg (by omega), if_neg (by omega)]
      rw [if_neg e, if_pos (by omega)]; simp only [more]; rw [if_neg (by omega), if_neg (by omega), if_neg (by omega), if_neg (by omega)]
/-- What First tells is one of four. -/
theorem more_tells (n : Int) : ∀ (j : Nat) (lo hi v : Int) (r : List Int), (more n j lo hi v r).2.2 = 0 ∨ more n j lo hi v r = (0, 0, 2) ∨ more n j lo hi v r = (0, 0, 6) := by
  intro j
  induction j with
  | zero => intro lo hi v r; left; rfl
  | succ j ih =>
    intro lo hi v r
    cases r with
    | nil => right; right; rfl
    | cons b r =>
      simp only [more]
      split
      · right; left; rfl
      split
      · right; left; rfl
      exact ih _ _ _ _
theorem fst_tells (l : List Int) : (fst l).2.2 = 0 ∨ fst l = (0, 0, 2) ∨ fst l = (0, 0, 6) ∨ (l = [] ∧ fst l = (0, 0, 5)) := by
  cases l with
  | nil => right; right; right; exact ⟨rfl, rfl⟩
  | cons a r =>
    have h : (fst (a :: r)).2.2 = 0 ∨ fst (a :: r) = (0, 0, 2) ∨ fst (a :: r) = (0, 0, 6) := by
      simp only [fst]
      repeat' split
      all_goals first
        | exact more_tells _ _ _ _ _ _
        | (left; rfl)
        | (right; left; rfl)
    rcases h with h | h | h
    · exact .inl h
    · exact .inr (.inl h)
    · exact .inr (.inr (.inl h))
/-- Decoding. -/
def decF : Nat → List Int → Option (List Int)
  | 0, _ => none
  | n + 1, l => if l = [] then some [] else if (fst l).2.2 = 0 then (decF n (l.drop (fst l).2.1.toNat)).map ((fst l).1 :: ·) else none
def dec (l : List Int) : List Int × Int := match decF (l.length + 1) l with
  | some c => (c, 0)
  | none => ([], 2)
theorem eb_ne (c : Int) (r : List Int) : eb c ++ r ≠ [] := by
  have := (eb_len c).1
  intro h
  have h := congrArg List.length h
  simp at h
  rw [h.1] at this
  simp at this
theorem decF_ebs : ∀ (n : Nat) (l : List Int), okl l = true → l.length < n → decF n (ebs l) = some l := by
  intro n
  induction n with
  | zero => intro l _ h; omega
  | succ n ih =>
    intro l hl hn
    cases l with
    | nil => simp [ebs, decF]
    | cons c l =>
      rw [okl_cons] at hl
      rw [show ebs (c :: l) = eb c ++ ebs l from rfl]
      simp only [decF]
      rw [if_neg (eb_ne c _), fst_eb hl.1]
      simp only
      rw [if_pos trivial, sz_ok hl.1]
      simp only [Int.toNat_natCast, List.drop_left]
      rw [ih l hl.2 (by simp at hn; omega)]
      rfl
theorem decF_some : ∀ (n : Nat) (l c : List Int), byl l → decF n l = some c → okl c = true ∧ l = ebs c := by
  intro n
  induction n with
  | zero => intro l c _ h; simp [decF] at h
  | succ n ih =>
    intro l c hl h
    simp only [decF] at h
    by_cases h0 : l = []
    · rw [if_pos h0] at h
      obtain rfl := Option.some.inj h
      exact ⟨rfl, h0⟩
    · rw [if_neg h0] at h
      by_cases h1 : (fst l).2.2 = 0
      · rw [if_pos h1] at h
        obtain ⟨t, ht, rfl⟩ := Option.map_eq_some_iff.1 h
        obtain ⟨k1, k2, r, k3⟩ := fst_ok hl h1
        have hd : l.drop (fst l).2.1.toNat = r := by
          rw [k2, sz_ok k1, Int.toNat_natCast]
          conv => lhs; arg 2; rw [k3]
          rw [List.drop_left]
        rw [hd] at ht
        obtain ⟨g1, g2⟩ := ih r t (by rw [← hd]; exact byl_drop hl _) ht
        refine ⟨by rw [okl_cons]; exact ⟨k1, g1⟩, ?_⟩
        simp only [ebs]
        rw [← g2]
        exact k3
      · rw [if_neg h1] at h; simp at h
theorem dec_ebs {l : List Int} (h : okl l = true) : dec (ebs l) = (l, 0) := by
  unfold dec
  rw [decF_ebs _ l h (by have := len_le_ebs l; omega)]
theorem dec_tells {l : List Int} (hl : byl l) : (∃ c, okl c = true ∧ l = ebs c ∧ dec l = (c, 0)) ∨ dec l = ([], 2) := by
  unfold dec
  cases h : decF (l.length + 1) l with
  | none => right; rfl
  | some c =>
    left
    obtain ⟨h1, h2⟩ := decF_some _ _ _ hl h
    exact ⟨c, h1, h2, rfl⟩
/-- Encoding. -/
def encR (l : List Int) : List Int × Int := if okl l = true then (ebs l, 0) else ([], 1)
/-- The tail. -/
def tlF (l : List Int) : Nat → Int
  | 0 => 0
  | n + 1 => if (fst (l.drop (l.length - (n + 1)))).2.2 = 6 then ((n + 1 : Nat) : Int) else tlF l n
def tl (l : List Int) : Int := tlF l (min 3 l.length)

end Go.Proofs.Ytdbpeaadnhiekaa.U
