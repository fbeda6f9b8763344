/- ident.Seq and ident.With come to what the plain functions on vectors tell; vectors of at most some thousands, whose authors rise. -/
import Derived.Test.YtbbiocmlicoipaaE1
import Derived.Test.YtbbiocmlicoipaaK2
namespace Go.Proofs.Ytbbiocmlicoipaa.PC
open Go.RowKit Go.Proofs.YtbbiocmlicoipaaW.PrintWords Go.Proofs.YtbbiocmlicoipaaW.PrintLast Go.Proofs.YtbbiocmlicoipaaW.PrintMore Go.Proofs.Ytbbiocmlicoipaa.K Go.Proofs.Ytbbiocmlicoipaa.I
attribute [local go_sem] max2_int min2_int max_two min_two max_three min_three max_four min_four
set_option linter.unusedVariables false
set_option linter.unusedSimpArgs false
def toE (e : S54) : En := ⟨e.f0, e.f1⟩
def ens (xs : List S54) : List En := xs.map toE
def fl54 (e : S54) : List Value := [.int .i64 e.f0, .int .i64 e.f1]
theorem fl54_len (x : S54) : (fl54 x).length = k54.sz := rfl
/-- With, by places. -/
def wtS (xs : List S54) (a s : Int) : List S54 :=
  if has xs a = true then xs.set (cnt xs a) ⟨a, max (rd_T54 xs (cnt xs a)).f1 s⟩ else if 0 < s then xs.take (cnt xs a) ++ [⟨a, s⟩] ++ xs.drop (cnt xs a) else xs
theorem upS_up {xs : List S54} (h : upS xs) : up (ens xs) := by
  induction xs with
  | nil => trivial
  | cons x xs ih =>
    obtain ⟨h1, h2⟩ := List.pairwise_cons.1 h
    refine ⟨fun f hf => ?_, ih h2⟩
    obtain ⟨y, hy, rfl⟩ := List.mem_map.1 hf
    exact h1 y hy
theorem up_upS {xs : List S54} (h : up (ens xs)) : upS xs := by
  induction xs with
  | nil => exact List.Pairwise.nil
  | cons x xs ih => exact List.pairwise_cons.2 ⟨fun y hy => h.1 (toE y) (List.mem_map_of_mem hy), ih h.2⟩
theorem cnt_zero {x : S54} {xs : List S54} {a : Int} (h : upS (x :: xs)) (hx : a ≤ x.f0) : cnt (x :: xs) a = 0 := by
  unfold cnt
  rw [List.countP_eq_zero]
  intro e he
  rcases List.mem_cons.1 he with rfl | he
  · simpa using hx
  · have := (List.pairwise_cons.1 h).1 e he
    simp; omega
theorem cnt_cons {x : S54} {xs : List S54} {a : Int} (hx : x.f0 < a) : cnt (x :: xs) a = cnt xs a + 1 := by
  unfold cnt
  rw [List.countP_cons_of_pos (by simpa using hx)]
theorem cnt_le (xs : List S54) (a : Int) : cnt xs a ≤ xs.length := List.countP_le_length
theorem rd54_cons (x : S54) (xs : List S54) (n : Nat) : rd_T54 (x :: xs) ((n + 1 : Nat) : Int) = rd_T54 xs (n : Int) := by
  unfold rd_T54; simp
/-- With by places is With. -/
theorem wtS_eq {xs : List S54} (h : upS xs) (a s : Int) : ens (wtS xs a s) = wt (ens xs) a s := by
  induction xs with
  | nil =>
    unfold wtS has cnt ens
    by_cases h0 : 0 < s
    · simp [wt, h0, toE]
    · simp [wt, h0]
  | cons x xs ih =>
    have ih := ih (List.pairwise_cons.1 h).2
    have ew : ens (x :: xs) = toE x :: ens xs := rfl
    by_cases h1 : x.f0 < a
    · have hh : has (x :: xs) a = has xs a := by
        unfold has
        rw [List.any_cons]
        have : decide (x.f0 = a) = false := by simp; omega
        rw [this, Bool.false_or]
      have e1 : wtS (x :: xs) a s = x :: wtS xs a s := by
        unfold wtS
        rw [hh, cnt_cons h1, rd54_cons]
        by_cases c : has xs a = true
        · rw [if_pos c, if_pos c]; rfl
        · rw [if_neg c, if_neg c]
          by_cases c2 : 0 < s
          · rw [if_pos c2, if_pos c2]; rfl
          · rw [if_neg c2, if_neg c2]
      rw [e1, ew]
      show toE x :: ens (wtS xs a s) = wt (toE x :: ens xs) a s
      rw [ih]
      simp only [wt]
      rw [if_pos (show (toE x).a < a from h1)]
    · have hc := cnt_zero h (show a ≤ x.f0 by omega)
      rw [ew]
      simp only [wt]
      rw [if_neg (show ¬ (toE x).a < a from h1)]
      unfold wtS
      rw [hc]
      by_cases h2 : x.f0 = a
      · have hh : has (x :: xs) a = true := by unfold has; rw [List.any_cons]; simp [h2]
        rw [if_pos hh, if_pos (show (toE x).a = a from h2)]
        rfl
      · have hh : ¬ has (x :: xs) a = true := by
          unfold has
          rw [List.any_eq_true]
          rintro ⟨e, he, hea⟩
          have hea : e.f0 = a := by simpa using hea
          rcases List.mem_cons.1 he with rfl | he
          · exact h2 hea
          · have := (List.pairwise_cons.1 h).1 e he
            omega
        rw [if_neg hh, if_neg (show ¬ (toE x).a = a from h2)]
        by_cases c2 : 0 < s
        · rw [if_pos c2, if_pos c2]; rfl
        · rw [if_neg c2, if_neg c2]; rfl
theorem sq_has {xs : List S54} (h : upS xs) (a : Int) : sq (ens xs) a = if has xs a = true then (rd_T54 xs (cnt xs a)).f1 else 0 := by
  induction xs with
  | nil => rfl
  | cons x xs ih =>
    have ih := ih (List.pairwise_cons.1 h).2
    show (if x.f0 = a then x.f1 else sq (ens xs) a) = _
    by_cases h1 : x.f0 < a
    · have hh : has (x :: xs) a = has xs a := by
        unfold has
        rw [List.any_cons]
        have : decide (x.f0 = a) = false := by simp; omega
        rw [this, Bool.false_or]
      rw [if_neg (by omega), hh, cnt_cons h1, rd54_cons]
      exact ih
    · have hc := cnt_zero h (show a ≤ x.f0 by omega)
      by_cases h2 : x.f0 = a
      · have hh : has (x :: xs) a = true := by unfold has; rw [List.any_cons]; simp [h2]
        rw [if_pos h2, if_pos hh, hc]
        rfl
      · have hh : ∀ ys : List S54, (∀ e ∈ ys, e.f0 ≠ a) → has ys a = false := by
          intro ys hy
          unfold has
          rw [List.any_eq_false]
          intro e he
          simpa using hy e he
        have hn : ∀ e ∈ x :: xs, e.f0 ≠ a := by
          intro e he
          rcases List.mem_cons.1 he with rfl | he
          · exact h2
          · have := (List.pairwise_cons.1 h).1 e he
            omega
        rw [if_neg h2, ih, hh _ hn, hh xs fun e he => hn e (List.mem_cons_of_mem _ he)]
        rfl
theorem has_lt {xs : List S54} {a : Int} (h : upS xs) (hh : has xs a = true) : cnt xs a < xs.length := by
  induction xs with
  | nil => simp [has] at hh
  | cons x xs ih =>
    by_cases h1 : x.f0 < a
    · have hh' : has xs a = true := by
        unfold has at hh ⊢
        rw [List.any_cons] at hh
        have : decide (x.f0 = a) = false := by simp; omega
        rw [this, Bool.false_or] at hh
        exact hh
      have := ih (List.pairwise_cons.1 h).2 hh'
      rw [cnt_cons h1]; simp; omega
    · rw [cnt_zero h (by omega)]; simp
theorem seq_calls (xs : List S54) (a : Int) (A : Option Addr) (c : Nat) (w : World) (hr : Kd.C k54 w A xs.length xs) (hc : xs.length ≤ c) (hup : upS xs) (hl : xs.length ≤ 1000000) :
    Calls Try.prog 31 #[.slice A xs.length c, .int .i64 a] w fun e w' => e = .returned (.int .i64 (sq (ens xs) a)) ∧ Below w.heap.size w w' := by
  have HR := Aside0.mk hr
  have HUP := Aside0.mk hup
  have hs := sq_has hup a
  by_cases hh : has xs a = true
  · rw [if_pos hh] at hs
    have hlt := has_lt hup hh
    obtain ⟨ad, eA, hx0, hx1⟩ := at_T54 hr (cnt xs a : Int) (by omega) (by omega)
    subst eA
    simp only [Int.toNat_natCast] at hx0 hx1
    generalize hev : rd_T54 xs (cnt xs a : Int) = ev at hx0 hx1 hs
    rw [hs]
    have hp := fun W hW => place_calls xs a (some ad) c W (Kd.C_below hr hW) hc hup hl
    rw [hh] at hp
    clear hr hup hs hev hh
    generalize cnt xs a = i at *
    have HP := Lib.hid hp
    clear hp
    go_enter Try.func31, Try.ntmps31
    go_wp2_with (go_at_call 50; refine (HP.out _ (Below.refl _ _)).mono ?_; rintro e w' ⟨rfl, hb⟩; have hx0' := (hb.cell (World.block_lt_of_cell? w _ hx0)).trans hx0; have hx1' := (hb.cell (World.block_lt_of_cell? w _ hx1)).trans hx1)
    go_ret
    exact ⟨rfl, hb⟩
  · rw [if_neg hh] at hs
    have hh' : has xs a = false := by simpa using hh
    rw [hs]
    have hp := place_calls xs a A c w hr hc hup hl
    rw [hh'] at hp
    clear hr hup hs hh hh'
    generalize cnt xs a = i at *
    have HP := Lib.hid hp
    clear hp
    go_enter Try.func31, Try.ntmps31
    go_wp2_with (go_at_call 50; refine HP.out.mono ?_; rintro e w' ⟨rfl, hb⟩)
    go_ret
    exact ⟨rfl, hb⟩
theorem cloneE_calls (w : World) (A : Option Addr) (c : Nat) (xs : List S54) (hr : Kd.C k54 w A xs.length xs) (hl : xs.length ≤ 1000000) :
    Calls Try.prog 49 #[.slice A xs.length c] w fun e w' => ∃ v, e = .returned v ∧ Kd.R k54 54 w' w.heap.size (fun _ => True) v xs ∧ Below w.heap.size w w' := by
  cases A with
  | some a => exact cloneE_some w a c xs hr (by omega)
  | none =>
    have h0 : xs = [] := by
      cases xs with
      | nil => rfl
      | cons x xs => obtain ⟨ad, he, _⟩ := hr.2.2 (by simp); cases he
    subst h0
    refine (cloneE_nil w c).mono ?_
    rintro e w' ⟨rfl, rfl⟩
    exact ⟨_, rfl, Kd.R_nil _ _ _ _ _, Below.refl _ _⟩
theorem flat_one (xs : List S54) : ∀ v ∈ xs.flatMap fl54, v.oneCell' = true := by
  intro v hv
  obtain ⟨x, _, hx⟩ := List.mem_flatMap.1 hv
  simp [fl54] at hx
  rcases hx with rfl | rfl <;> rfl
theorem owns54 {w : World} {base : Nat} {ok : Nat → Prop} {v : Value} {xs : List S54} (h : Kd.R k54 54 w base ok v xs) : w.ownsRow base 54 2 v xs.length (xs.flatMap fl54) :=
  owns_of_R (d := k54) fl54_len (fun h => k54_openM h) h
theorem R54 {w : World} {base : Nat} {v : Value} {xs : List S54} (h : w.ownsRow base 54 2 v xs.length (xs.flatMap fl54)) : Kd.R k54 54 w base (fun _ => True) v xs :=
  R_of_owns (d := k54) (fl := fl54) fl54_len (fun _ _ _ _ => k54_mkM _ _ _ _) (fun _ _ => trivial) h
theorem set_flat (xs : List S54) (i : Nat) (h : i < xs.length) (m : Int) : (xs.set i ⟨(rd_T54 xs (i : Int)).f0, m⟩).flatMap fl54 = (xs.flatMap fl54).set (i * 2 + 1) (.int .i64 m) := by
  induction xs generalizing i with
  | nil => simp at h
  | cons x xs ih =>
    cases i with
    | zero => rfl
    | succ i =>
      rw [rd54_cons, List.set_cons_succ, List.flatMap_cons, ih i (by simpa using h), List.flatMap_cons, List.set_append_right _ _ (by rw [show (fl54 x).length = 2 from rfl]; omega)]
      rw [show (fl54 x).length = 2 from rfl, show (i + 1) * 2 + 1 - 2 = i * 2 + 1 by omega]
theorem has_f0 {xs : List S54} {a : Int} (h : upS xs) (hh : has xs a = true) : (rd_T54 xs (cnt xs a : Int)).f0 = a := by
  induction xs with
  | nil => simp [has] at hh
  | cons x xs ih =>
    by_cases h1 : x.f0 < a
    · have hh' : has xs a = true := by
        unfold has at hh ⊢
        rw [List.any_cons] at hh
        have : decide (x.f0 = a) = false := by simp; omega
        rw [this, Bool.false_or] at hh
        exact hh
      rw [cnt_cons h1, rd54_cons]
      exact ih (List.pairwise_cons.1 h).2 hh'
    · rw [cnt_zero h (by omega)]
      by_cases h2 : x.f0 = a
      · exact h2
      · exfalso
        unfold has at hh
        rw [List.any_eq_true] at hh
        obtain ⟨e, he, hea⟩ := hh
        have hea : e.f0 = a := by simpa using hea
        rcases List.mem_cons.1 he with rfl | he
        · exact h2 hea
        · have := (List.pairwise_cons.1 h).1 e he
          omega
theorem cell_fld {w : World} {base : Nat} {ok : Nat → Prop} {g cap : Nat} {xs : List S54} (h : Kd.R k54 54 w base ok (.slice (some ⟨g, 0, none⟩) xs.length cap) xs) (i : Nat) (hi : i < xs.length) {ev : S54} (he : rd_T54 xs (i : Int) = ev)
    {cur : Array Value} (hg : w.heap[g]? = some (.cells cur 54 (0, 0))) : cur[i * 2 + 1]? = some (.int .i64 ev.f1) := by
  obtain ⟨ad, eA, hx0, hx1⟩ := at_T54 (Kd.R_reads' h).2.2 (i : Int) (by omega) (by omega)
  injection eA with eA
  subst eA
  simp only [Int.toNat_natCast, Addr.add_lit, Nat.zero_add] at hx1
  rw [cell_of hg, he] at hx1
  exact hx1
set_option maxHeartbeats 4000000 in
set_option maxRecDepth 100000 in
/-- With where the author has an entry. -/
theorem with_has (xs : List S54) (a s : Int) (A : Option Addr) (c : Nat) (w : World) (hr : Kd.C k54 w A xs.length xs) (hup : upS xs) (hl : xs.length ≤ 1000000) (hh : has xs a = true) :
    Calls Try.prog 30 #[.slice A xs.length c, .int .i64 a, .int .i64 s] w fun e w' => ∃ v, e = .returned v ∧ Kd.R k54 54 w' w.heap.size (fun _ => True) v (wtS xs a s) ∧ Below w.heap.size w w' := by
  have hwt : wtS xs a s = xs.set (cnt xs a) ⟨(rd_T54 xs (cnt xs a : Int)).f0, max (rd_T54 xs (cnt xs a)).f1 s⟩ := by
    unfold wtS; rw [if_pos hh, has_f0 hup hh]
  have hlt := has_lt hup hh
  have hcl := cloneE_calls w A c xs hr hl
  have hflat := set_flat xs (cnt xs a) hlt (max (rd_T54 xs (cnt xs a)).f1 s)
  have hpl := fun W (B : Option Addr) (d : Nat) (h1 : Kd.C k54 W B xs.length xs) (h2 : xs.length ≤ d) => place_calls xs a B d W h1 h2 hup hl
  rw [hh] at hpl
  rw [hwt]
  have hix : rd_T54 xs (cnt xs a : Int) = rd_T54 xs ((cnt xs a : Nat) : Int) := rfl
  generalize hev : rd_T54 xs (cnt xs a : Int) = ev at *
  generalize cnt xs a = i at *
  have HPL := Lib.hid hpl
  have HCL := Lib.hid hcl
  have HF := Lib.hid hflat
  have HEV := Lib.hid hev
  clear hpl hcl hflat hix hh hup hwt hr hev
  have hmx : (if ev.f1 < s then s else ev.f1) = max ev.f1 s := by split <;> omega
  have hmx2 : (if s < ev.f1 then ev.f1 else s) = max ev.f1 s := by split <;> omega
  obtain ⟨mxv, hmv⟩ : ∃ m, max ev.f1 s = m := ⟨_, rfl⟩
  rw [hmv] at hmx hmx2 HF ⊢
  clear hmv
  go_enter Try.func30, Try.ntmps30
  go_wp2_with (first
    | (go_at_call 49; refine HCL.out.mono ?_; rintro e w1 ⟨v, rfl, ho, hb⟩; have how := owns54 ho; obtain ⟨g, cap, cur, rfl, hg0, hg, hnc, hm, hs, ht⟩ : ∃ g cap cur, v = .slice (some ⟨g, 0, none⟩) xs.length cap ∧ w.heap.size ≤ g ∧ w1.heap[g]? = some (.cells cur 54 (0, 0)) ∧ xs.length ≤ cap ∧ cap ≤ maxLen ∧ cur.size = cap * 2 ∧ cur.toList.take (xs.length * 2) = xs.flatMap fl54 := (by rcases how.2 with ⟨_, h0⟩ | h; (exfalso; omega); exact h); have HOW := Lib.hid how; have HO := Lib.hid ho; have HG := Lib.hid (And.intro hg0 (And.intro hg (And.intro hm (And.intro hs ht)))); have HB1 := Lib.hid hb; clear how ho hg0 hg hm hs ht hb)
    | (go_at_call 50; refine (HPL.out _ (some ⟨g, 0, none⟩) cap (Kd.R_reads' HO.out).2.2 hnc).mono ?_; rintro e w2 ⟨rfl, hb2⟩; have hg2 := (hb2.block g (lt_of HG.out.2.1)).trans HG.out.2.1; have hx1 := cell_fld HO.out i hlt HEV.out HG.out.2.1; have hcell : w2.cell? ⟨g, i * 2 + 1, none⟩ = some (.int .i64 ev.f1) := (by rw [cell_of hg2]; exact hx1); have hfz : w2.frozen? ⟨g, i * 2 + 1, none⟩ = false := free_of hg2 _; have HG2 := Lib.hid hg2; have HB2 := Lib.hid hb2; clear hg2 hx1 hb2))
  go_ret
  refine ⟨_, rfl, R54 ?_, below_set (below_step HB1.out HB2.out) HG.out.1⟩
  rw [List.length_set, HF.out]
  have hso := HG.out.2.2.2.1
  refine ⟨by rw [List.length_set]; exact HOW.out.1, .inr ⟨g, cap, _, rfl, HG.out.1, blk_set HG2.out _ _, hnc, HG.out.2.2.1, by simpa using hso, ?_⟩⟩
  rw [Array.toList_setIfInBounds, List.take_set, HG.out.2.2.2.2]
end Go.Proofs.Ytbbiocmlicoipaa.PC
