/- Vectors of authors and numbers, as plain functions on lists; no condition. -/
import Derived.RowKit
namespace Go.Proofs.Ytbbiocmlicoipaa.I
set_option linter.unusedVariables false

/-- An entry of a vector: an author, a number. -/
structure En where
  a : Int
  s : Int
deriving DecidableEq
theorem En.eq {x y : En} (h : x.a = y.a) (k : x.s = y.s) : x = y := by cases x; cases y; simp_all
/-- The author's number; 0: none. -/
def sq : List En → Int → Int
  | [], _ => 0
  | e :: v, x => if e.a = x then e.s else sq v x
/-- A vector in which an author's number is as great. -/
def wt : List En → Int → Int → List En
  | [], x, s => if 0 < s then [⟨x, s⟩] else []
  | e :: v, x, s => if e.a < x then e :: wt v x s else if e.a = x then ⟨x, max e.s s⟩ :: v else if 0 < s then ⟨x, s⟩ :: e :: v else e :: v
/-- Authors rise. -/
def up : List En → Prop
  | [] => True
  | e :: v => (∀ f ∈ v, e.a < f.a) ∧ up v
/-- Each entry is one of these. -/
def fit (v : List En) : Prop := ∀ e ∈ v, 0 ≤ e.a ∧ e.a < 4194304 ∧ 1 ≤ e.s ∧ e.s ≤ 4294967295
def vec (v : List En) : Prop := up v ∧ fit v
def jn (a b : List En) : List En := b.foldl (fun v e => wt v e.a e.s) a
def gp (a b : List En) : Int := b.foldr (fun e n => max 0 (e.s - sq a e.a) + n) 0

theorem fit_cons {e : En} {v : List En} : fit (e :: v) ↔ (0 ≤ e.a ∧ e.a < 4194304 ∧ 1 ≤ e.s ∧ e.s ≤ 4294967295) ∧ fit v := by simp [fit]
theorem vec_nil : vec [] := ⟨trivial, fun e h => by simp at h⟩
theorem vec_tail {e : En} {v : List En} (h : vec (e :: v)) : vec v := ⟨h.1.2, (fit_cons.1 h.2).2⟩
theorem sq_none {v : List En} {x : Int} (h : ∀ e ∈ v, e.a ≠ x) : sq v x = 0 := by
  induction v with
  | nil => rfl
  | cons e v ih =>
    simp only [sq]
    rw [if_neg (h e (by simp))]
    exact ih fun f hf => h f (List.mem_cons_of_mem _ hf)
theorem sq_mem {v : List En} (h : up v) {e : En} (he : e ∈ v) : sq v e.a = e.s := by
  induction v with
  | nil => simp at he
  | cons f v ih =>
    simp only [sq]
    rcases List.mem_cons.1 he with rfl | he
    · rw [if_pos rfl]
    · have := h.1 e he
      rw [if_neg (by omega)]
      exact ih h.2 he
theorem sq_pos {v : List En} (h : vec v) (x : Int) : 0 ≤ sq v x ∧ sq v x ≤ 4294967295 ∧ (sq v x = 0 ↔ ∀ e ∈ v, e.a ≠ x) := by
  induction v with
  | nil => simp [sq]
  | cons e v ih =>
    have hf := (fit_cons.1 h.2).1
    have ih := ih (vec_tail h)
    simp only [sq]
    by_cases k : e.a = x
    · rw [if_pos k]
      refine ⟨by omega, by omega, ?_⟩
      constructor
      · intro g; omega
      · intro g; exact absurd k (g e (by simp))
    · rw [if_neg k]
      refine ⟨ih.1, ih.2.1, ?_⟩
      rw [ih.2.2]
      simp [k]
/-- What With puts in is there. -/
theorem wt_mem {v : List En} {x s : Int} {f : En} (h : f ∈ wt v x s) : f ∈ v ∨ f.a = x := by
  induction v with
  | nil =>
    simp only [wt] at h
    split at h
    · simp at h; right; rw [h]
    · simp at h
  | cons e v ih =>
    simp only [wt] at h
    split at h
    · rcases List.mem_cons.1 h with rfl | h
      · exact .inl (by simp)
      · rcases ih h with h | h
        · exact .inl (List.mem_cons_of_mem _ h)
        · exact .inr h
    · split at h
      · rcases List.mem_cons.1 h with rfl | h
        · exact .inr rfl
        · exact .inl (List.mem_cons_of_mem _ h)
      · split at h
        · rcases List.mem_cons.1 h with rfl | h
          · exact .inr rfl
          · exact .inl h
        · exact .inl h
theorem wt_up {v : List En} (h : up v) (x s : Int) : up (wt v x s) := by
  induction v with
  | nil =>
    simp only [wt]
    split
    · exact ⟨fun f hf => by simp at hf, trivial⟩
    · trivial
  | cons e v ih =>
    simp only [wt]
    split
    · rename_i hlt
      refine ⟨fun f hf => ?_, ih h.2⟩
      rcases wt_mem hf with hf | hf
      · exact h.1 f hf
      · omega
    · split
      · rename_i heq
        exact ⟨fun f hf => by have := h.1 f hf; simp only; omega, h.2⟩
      · split
        · refine ⟨fun f hf => ?_, h⟩
          rcases List.mem_cons.1 hf with rfl | hf
          · simp only; omega
          · have := h.1 f hf; simp only; omega
        · exact h
theorem wt_fit {v : List En} (h : fit v) {x s : Int} (hx : 0 ≤ x ∧ x < 4194304) (hs : s ≤ 4294967295) : fit (wt v x s) := by
  induction v with
  | nil =>
    simp only [wt]
    split
    · intro f hf; simp at hf; subst hf; simp only; omega
    · exact h
  | cons e v ih =>
    have he := (fit_cons.1 h).1
    have hv := (fit_cons.1 h).2
    simp only [wt]
    split
    · exact fit_cons.2 ⟨he, ih hv⟩
    · split
      · exact fit_cons.2 ⟨by simp only; omega, hv⟩
      · split
        · exact fit_cons.2 ⟨by simp only; omega, h⟩
        · exact h
theorem wt_vec {v : List En} (h : vec v) {x s : Int} (hx : 0 ≤ x ∧ x < 4194304) (hs : s ≤ 4294967295) : vec (wt v x s) := ⟨wt_up h.1 x s, wt_fit h.2 hx hs⟩
theorem wt_sq {v : List En} (h : vec v) {x s : Int} (hs : 0 ≤ s) (y : Int) : sq (wt v x s) y = if y = x then max (sq v x) s else sq v y := by
  induction v with
  | nil =>
    simp only [wt]
    by_cases h0 : 0 < s
    · rw [if_pos h0]; simp only [sq]
      by_cases e : y = x
      · subst e; simp; omega
      · rw [if_neg (fun k => e k.symm), if_neg e]
    · rw [if_neg h0]; simp only [sq]
      split <;> omega
  | cons e v ih =>
    have ih := ih (vec_tail h)
    have he := (fit_cons.1 h.2).1
    simp only [wt]
    by_cases h1 : e.a < x
    · rw [if_pos h1]
      simp only [sq]
      rw [ih]
      by_cases e1 : e.a = y
      · rw [if_pos e1, if_pos e1, if_neg (by omega)]
      · rw [if_neg e1, if_neg e1, if_neg (show ¬ e.a = x by omega)]
    · rw [if_neg h1]
      by_cases h2 : e.a = x
      · rw [if_pos h2]
        simp only [sq]
        by_cases e1 : y = x
        · subst e1
          rw [if_pos rfl, if_pos rfl, if_pos h2]
        · rw [if_neg (fun k => e1 k.symm), if_neg e1, if_neg (by omega)]
      · rw [if_neg h2]
        have hn : sq (e :: v) x = 0 := sq_none fun f hf => by
          rcases List.mem_cons.1 hf with rfl | hf
          · exact h2
          · have := h.1.1 f hf; omega
        rw [hn]
        by_cases h0 : 0 < s
        · rw [if_pos h0]
          simp only [sq]
          by_cases e1 : y = x
          · subst e1
            rw [if_pos rfl, if_pos rfl]; omega
          · rw [if_neg (fun k => e1 k.symm), if_neg e1]
        · rw [if_neg h0]
          by_cases e1 : y = x
          · subst e1; rw [if_pos rfl, hn]; omega
          · rw [if_neg e1]
/-- Vectors that tell the same are the same. -/
theorem vec_ext {v w : List En} (hv : vec v) (hw : vec w) (h : ∀ x, sq v x = sq w x) : v = w := by
  induction v generalizing w with
  | nil =>
    cases w with
    | nil => rfl
    | cons f w =>
      have := h f.a
      have k := (sq_pos hw f.a).2.2.1
      simp only [sq] at this k
      rw [if_pos trivial] at this
      have := (fit_cons.1 hw.2).1
      omega
  | cons e v ih =>
    have he := (fit_cons.1 hv.2).1
    cases w with
    | nil =>
      have := h e.a
      simp only [sq] at this
      rw [if_pos trivial] at this
      omega
    | cons f w =>
      have hf := (fit_cons.1 hw.2).1
      have h1 := h e.a
      have h2 := h f.a
      have tail0 : ∀ {u : List En} {g : En}, vec (g :: u) → ∀ x, x ≤ g.a → sq u x = 0 := by
        intro u g hu x hx
        exact sq_none fun k hk => by have := hu.1.1 k hk; omega
      have hee : e.a = f.a := by
        simp only [sq] at h1 h2
        rw [if_pos trivial] at h1 h2
        by_cases c1 : f.a = e.a
        · exact c1.symm
        · rw [if_neg c1] at h1
          rw [if_neg (fun k => c1 k.symm)] at h2
          by_cases c2 : e.a < f.a
          · have := tail0 hw e.a (by omega); omega
          · have := tail0 hv f.a (by omega); omega
      have hes : e.s = f.s := by
        simp only [sq] at h1
        rw [if_pos trivial, if_pos hee.symm] at h1
        exact h1
      have : v = w := by
        refine ih (vec_tail hv) (vec_tail hw) fun x => ?_
        by_cases c : x ≤ e.a
        · rw [tail0 hv x c, tail0 hw x (by omega)]
        · have := h x
          simp only [sq] at this
          rw [if_neg (by omega), if_neg (by omega)] at this
          exact this
      rw [this, En.eq hee hes]
theorem jn_cons (a : List En) (e : En) (b : List En) : jn a (e :: b) = jn (wt a e.a e.s) b := rfl
theorem jn_vec {a b : List En} (ha : vec a) (hb : fit b) : vec (jn a b) := by
  induction b generalizing a with
  | nil => exact ha
  | cons e b ih =>
    have he := (fit_cons.1 hb).1
    exact ih (wt_vec ha ⟨he.1, he.2.1⟩ he.2.2.2) (fit_cons.1 hb).2
theorem jn_sq {a b : List En} (ha : vec a) (hb : vec b) (x : Int) : sq (jn a b) x = max (sq a x) (sq b x) := by
  induction b generalizing a with
  | nil =>
    have := (sq_pos ha x).1
    show sq a x = max (sq a x) 0
    omega
  | cons e b ih =>
    have he := (fit_cons.1 hb.2).1
    rw [jn_cons, ih (wt_vec ha ⟨he.1, he.2.1⟩ he.2.2.2) (vec_tail hb), wt_sq ha (by omega)]
    simp only [sq]
    by_cases c : x = e.a
    · subst c
      have : sq b e.a = 0 := sq_none fun f hf => by have := hb.1.1 f hf; omega
      have := (sq_pos ha e.a).1
      rw [if_pos rfl, if_pos rfl]; omega
    · rw [if_neg c, if_neg (fun k => c k.symm)]
theorem gp_nonneg (a b : List En) : 0 ≤ gp a b := by
  induction b with
  | nil => exact Int.le_refl 0
  | cons e b ih => show 0 ≤ max 0 _ + gp a b; omega
theorem gp_zero {a b : List En} (ha : vec a) (hb : vec b) : gp a b = 0 ↔ ∀ x, sq b x ≤ sq a x := by
  induction b with
  | nil =>
    constructor
    · intro _ x; exact (sq_pos ha x).1
    · intro _; rfl
  | cons e b ih =>
    have ih := ih (vec_tail hb)
    have hg := gp_nonneg a b
    have e0 : gp a (e :: b) = max 0 (e.s - sq a e.a) + gp a b := rfl
    rw [e0]
    constructor
    · intro h x
      simp only [sq]
      by_cases c : e.a = x
      · rw [if_pos c, ← c]; omega
      · rw [if_neg c]; exact ih.1 (by omega) x
    · intro h
      have h1 := h e.a
      simp only [sq] at h1
      rw [if_pos trivial] at h1
      have h2 : gp a b = 0 := ih.2 fun x => by
        by_cases c : e.a = x
        · have : sq b x = 0 := sq_none fun f hf => by have := hb.1.1 f hf; omega
          rw [this]; exact (sq_pos ha x).1
        · have := h x
          simp only [sq] at this
          rw [if_neg c] at this
          exact this
      omega
/-- A sum over a vector's entries, as With changes it. -/
def sm (f : Int → Int → Int) (v : List En) : Int := v.foldr (fun e n => f e.a e.s + n) 0
theorem sm_wt (f : Int → Int → Int) (f0 : ∀ x, 0 ≤ x → f x 0 = 0) {v : List En} (hv : vec v) {x s : Int} (hx : 0 ≤ x) (hs : 0 < s) : sm f (wt v x s) = sm f v - f x (sq v x) + f x (max (sq v x) s) := by
  induction v with
  | nil =>
    simp only [wt]
    rw [if_pos hs]
    show f x s + 0 = 0 - f x 0 + f x (max 0 s)
    rw [f0 x hx, show max 0 s = s by omega]; omega
  | cons e v ih =>
    have ih := ih (vec_tail hv)
    simp only [wt]
    by_cases h1 : e.a < x
    · rw [if_pos h1]
      show f e.a e.s + sm f (wt v x s) = f e.a e.s + sm f v - f x (sq (e :: v) x) + f x (max (sq (e :: v) x) s)
      simp only [sq]
      rw [if_neg (show ¬ e.a = x by omega), ih]; omega
    · rw [if_neg h1]
      by_cases h2 : e.a = x
      · rw [if_pos h2]
        show f x (max e.s s) + sm f v = f e.a e.s + sm f v - f x (sq (e :: v) x) + f x (max (sq (e :: v) x) s)
        simp only [sq]
        rw [if_pos h2, h2]; omega
      · rw [if_neg h2, if_pos hs]
        have hn : sq (e :: v) x = 0 := sq_none fun g hg => by
          rcases List.mem_cons.1 hg with rfl | hg
          · exact h2
          · have := hv.1.1 g hg; omega
        show f x s + (f e.a e.s + sm f v) = f e.a e.s + sm f v - f x (sq (e :: v) x) + f x (max (sq (e :: v) x) s)
        rw [hn, f0 x hx, show max 0 s = s by omega]; omega
theorem gp_jn {a b : List En} (ha : vec a) (hb : vec b) : gp a (jn a b) = gp a b := by
  have f0 : ∀ x, 0 ≤ x → (fun x s => max 0 (s - sq a x)) x 0 = (0 : Int) := fun x _ => by
    have := (sq_pos ha x).1
    show max 0 (0 - sq a x) = 0
    omega
  have key : ∀ (b c : List En), vec c → vec b → (∀ e ∈ b, sq c e.a = sq a e.a) → sm (fun x s => max 0 (s - sq a x)) (jn c b) = sm (fun x s => max 0 (s - sq a x)) c + gp a b := by
    intro b
    induction b with
    | nil => intro c _ _ _; show _ = _ + (0 : Int); rw [Int.add_zero]; rfl
    | cons e b ih =>
      intro c hc hb he
      have hf := (fit_cons.1 hb.2).1
      rw [jn_cons, ih _ (wt_vec hc ⟨hf.1, hf.2.1⟩ hf.2.2.2) (vec_tail hb), sm_wt _ f0 hc hf.1 (by omega), he e (by simp)]
      · show _ = _ + (max 0 (e.s - sq a e.a) + gp a b)
        omega
      · intro g hg
        rw [wt_sq hc (by omega), if_neg (by have := hb.1.1 g hg; omega)]
        exact he g (List.mem_cons_of_mem _ hg)
  have h0 : ∀ v : List En, (∀ e ∈ v, sq a e.a = e.s) → sm (fun x s => max 0 (s - sq a x)) v = 0 := by
    intro v
    induction v with
    | nil => intro _; rfl
    | cons e v ih =>
      intro h
      show max 0 (e.s - sq a e.a) + sm (fun x s => max 0 (s - sq a x)) v = 0
      rw [ih fun g hg => h g (List.mem_cons_of_mem _ hg), h e (by simp)]; omega
  have := key b a ha hb fun e _ => rfl
  rw [h0 a fun e he => sq_mem ha.1 he] at this
  have e : gp a (jn a b) = sm (fun x s => max 0 (s - sq a x)) (jn a b) := rfl
  rw [e, this]; omega
theorem cov_iff {a b : List En} (ha : vec a) (hb : vec b) : gp a b = 0 ↔ ∀ x, sq b x ≤ sq a x := gp_zero ha hb
theorem wt_len (v : List En) (x s : Int) : (wt v x s).length ≤ v.length + 1 := by
  induction v with
  | nil => simp only [wt]; split <;> simp
  | cons e v ih =>
    simp only [wt]
    repeat' split
    all_goals simp
    exact ih
end Go.Proofs.Ytbbiocmlicoipaa.I
