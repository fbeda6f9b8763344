/- slices.Clone, place, Seq, With, Join, Gap and Covers of vectors come to what the plain functions tell; vectors of at most some thousands. -/
import Derived.Test.YtbbiocmlicoipaaInsE
import Derived.Test.YtbbiocmlicoipaaIPlain
import Derived.WalkSpells
namespace Go.Proofs.Ytbbiocmlicoipaa.PC
open Go.RowKit Go.Proofs.YtbbiocmlicoipaaW.PrintWords Go.Proofs.YtbbiocmlicoipaaW.PrintLast Go.Proofs.YtbbiocmlicoipaaW.PrintMore Go.Proofs.Ytbbiocmlicoipaa.K
attribute [local go_sem] max2_int min2_int max_two min_two max_three min_three max_four min_four
set_option linter.unusedVariables false
set_option linter.unusedSimpArgs false
theorem k54_KM {w : World} {base : Nat} {ok : Nat → Prop} {x : S54} {cs : List Value} (h : k54.K w x cs) : k54.M w base ok x cs := by
  rw [k54_open h]; exact k54_mkM _ _ _ x
set_option maxHeartbeats 4000000 in
theorem cloneE_nil (w : World) (c : Nat) : Calls Try.prog 49 #[.slice none 0 c] w fun e w' => e = .returned (.slice none 0 0) ∧ w' = w := by
  have hn : ∀ w : World, (binOp .eql 51 (.slice none 0 c) (.slice none 0 0)).run Try.prog w = .ok (.bool true) w := fun w => Lib.run_eql_slice_nil w 51 54 none 0 c 0 0 Try.underlying51
  go_enter Try.func49, Try.ntmps49
  go_wp2
  go_ret
  exact ⟨rfl, rfl⟩
set_option maxHeartbeats 4000000 in
theorem cloneE_some (w : World) (a : Addr) (c : Nat) (xs : List S54) (hr : Kd.C k54 w (some a) xs.length xs) (hc : xs.length * 16 ≤ 140737488355328) :
    Calls Try.prog 49 #[.slice (some a) xs.length c] w fun e w' => ∃ v, e = .returned v ∧ Kd.R k54 54 w' w.heap.size (fun _ => True) v xs ∧ Below w.heap.size w w' := by
  have hn : ∀ (w : World) n c, (binOp .eql 51 (.slice (some a) n c) (.slice none 0 0)).run Try.prog w = .ok (.bool false) w := fun w n c => Lib.run_eql_slice_nil w 51 54 (some a) n c 0 0 Try.underlying51
  have HR := Aside0.mk hr
  have HC := Aside0.mk hc
  clear hr hc
  go_enter Try.func49, Try.ntmps49
  go_wp2_with (first
    | ((with_reducible refine gate_dst (N := 5) rfl ?_); refine Kd.R_lit k54 _ 54 ?hg (N := 5) ?hd (xs := ([] : List S54)) (inner := []) (ok := fun _ => True) (okp := fun _ => True) ?hr ?hp (fun _ hk => hk) trivial (Below.refl _ _) (Nat.le_refl _) (by simp) ?_; (case hd => rfl); (case hg => rfl); (case hr => first | (go_simp; done) | (go_simp; rfl)); (case hp => exact (Reps.none _ _)); intro v6 w6 ho6 hb hg_ hnew_; have HB6 := Aside0.mk hb; have HL6 := Aside0.mk ho6; clear hb hg_ hnew_ ho6)
    | ((with_reducible refine gate_builtin (b := .append) (xs := #[.tmp 5, .tmp 6]) rfl ?_); at_builtin; refine Kd.R_append_rows k54 (w0 := w) w.heap.size rfl (.tmp 5) (.tmp 6) 51 54 (.agg #[(.int .i64 0), (.int .i64 0)]) 16 rfl Try.underlying51 info54 rfl (by decide) (by omega) v6 [] xs _ _ _ (fun _ => True) (fun _ => True ∧ False) rfl rfl ?aO ?aR (fun _ _ h => k54_KM h) (fun _ h => h.2.elim) ?aF ?aB ?aS ?aL ?_; (case aR => exact Kd.C_below HR.out HB6.out); (case aB => exact HB6.out); (case aF => exact (fun _ _ => trivial)); (case aO => exact HL6.out); (case aS => exact below_size HB6.out); (case aL => have := HC.out; simp only [List.length_nil]; omega); intro v7 w7 ho7 hb hg hat; have HB7 := Aside0.mk hb; rw [List.nil_append] at ho7; have HL7 := Aside0.mk ho7; clear hb hg hat ho7))
  go_ret
  exact ⟨v7, rfl, HL7.out, HB7.out⟩
/-- cmp.Compare of two numbers. -/
def cmpI (a b : Int) : Int := if a < b then -1 else if b < a then 1 else 0
theorem cmp_calls (a b : Int) (w : World) : Calls Try.prog 55 #[.int .i64 a, .int .i64 b] w fun e w' => e = .returned (.int .i64 (cmpI a b)) ∧ w' = w := by
  unfold cmpI
  by_cases h : a < b
  · rw [if_pos h]
    go_enter Try.func55, Try.ntmps55
    go_wp2
    go_ret
    exact ⟨rfl, rfl⟩
  · rw [if_neg h]
    by_cases h2 : b < a
    · rw [if_pos h2]
      go_enter Try.func55, Try.ntmps55
      go_wp2
      go_ret
      exact ⟨rfl, rfl⟩
    · rw [if_neg h2]
      go_enter Try.func55, Try.ntmps55
      go_wp2
      go_ret
      exact ⟨rfl, rfl⟩
theorem clos_calls (x s a : Int) (w : World) : Calls Try.prog 64 #[.agg #[.int .i64 x, .int .i64 s], .int .i64 a] w fun e w' => e = .returned (.int .i64 (cmpI x a)) ∧ Below w.heap.size w w' := by
  go_enter Try.func64, Try.ntmps64
  go_wp2_with (go_at_call 55; refine (cmp_calls _ _ _).mono ?_; rintro e w' ⟨rfl, rfl⟩)
  go_ret
  exact ⟨rfl, (Below.refl _ _).alloc (Nat.le_refl _) _⟩
/-- Authors rise, in a row of the program's entries. -/
def upS (xs : List S54) : Prop := xs.Pairwise fun a b => a.f0 < b.f0
def cnt (xs : List S54) (a : Int) : Nat := xs.countP fun e => decide (e.f0 < a)
def has (xs : List S54) (a : Int) : Bool := xs.any fun e => decide (e.f0 = a)
theorem cnt_eq {xs : List S54} {a : Int} {i : Nat} (hi : i ≤ xs.length) (h : ∀ k e, xs[k]? = some e → (k < i → e.f0 < a) ∧ (i ≤ k → a ≤ e.f0)) : cnt xs a = i := by
  unfold cnt
  conv => lhs; rw [← List.take_append_drop i xs]
  rw [List.countP_append, List.countP_eq_length.2, List.countP_eq_zero.2, List.length_take]
  · omega
  · intro e he
    obtain ⟨k, hk, rfl⟩ := List.getElem_of_mem he
    rw [List.length_drop] at hk
    have := (h (i + k) _ (List.getElem?_eq_getElem (by omega))).2 (by omega)
    rw [List.getElem_drop]
    simpa using this
  · intro e he
    obtain ⟨k, hk, rfl⟩ := List.getElem_of_mem he
    rw [List.length_take] at hk
    have := (h k _ (List.getElem?_eq_getElem (by omega))).1 (by omega)
    rw [List.getElem_take]
    simpa using this
theorem has_eq {xs : List S54} {a : Int} {i : Nat} (hup : upS xs) (h : ∀ k e, xs[k]? = some e → (k < i → e.f0 < a) ∧ (i ≤ k → a ≤ e.f0)) : has xs a = true ↔ ∃ e, xs[i]? = some e ∧ e.f0 = a := by
  unfold has
  rw [List.any_eq_true]
  constructor
  · rintro ⟨e, he, hea⟩
    have hea : e.f0 = a := by simpa using hea
    obtain ⟨k, hk, rfl⟩ := List.getElem_of_mem he
    have hk' := h k _ (List.getElem?_eq_getElem hk)
    rcases Nat.lt_trichotomy k i with c | c | c
    · have := hk'.1 c; omega
    · subst c; exact ⟨_, List.getElem?_eq_getElem hk, hea⟩
    · have hi : i < xs.length := by omega
      have h1 := (h i _ (List.getElem?_eq_getElem hi)).2 (Nat.le_refl _)
      have h2 := List.pairwise_iff_getElem.1 hup i k hi hk c
      omega
  · rintro ⟨e, he, hea⟩
    exact ⟨e, List.mem_of_getElem? he, by simpa using hea⟩
theorem rd54_nat (xs : List S54) (i : Nat) (h : i < xs.length) : xs[i]? = some (rd_T54 xs (i : Int)) := by
  unfold rd_T54
  simp [h]
theorem cmpI_lt {a b : Int} (h : a < b) : cmpI a b = -1 := by unfold cmpI; rw [if_pos h]
theorem cmpI_eq (a : Int) : cmpI a a = 0 := by unfold cmpI; rw [if_neg (by omega), if_neg (by omega)]
theorem cmpI_gt {a b : Int} (h : b < a) : cmpI a b = 1 := by unfold cmpI; rw [if_neg (by omega), if_pos h]
set_option maxHeartbeats 4000000 in
set_option maxRecDepth 100000 in
theorem bs_calls (xs : List S54) (a : Int) (A : Option Addr) (c : Nat) (w : World) (hr : Kd.C k54 w A xs.length xs) (hc : xs.length ≤ c) (hup : upS xs) (hl : xs.length ≤ 1000000) :
    Calls Try.prog 63 #[.slice A xs.length c, .int .i64 a, .func (Fn.func 64) #[] #[]] w fun e w' => e = .returned (.tuple #[.int .i64 (cnt xs a), .bool (has xs a)]) ∧ Below w.heap.size w w' := by
  have HR := Aside0.mk hr
  have HUP := Aside0.mk hup
  clear hr hup
  go_enter Try.func63, Try.ntmps63
  go_wp2
  go_loopw [9, 10] (fun v9 v10 w' => ∃ i j : Nat, v9 = .int .i64 i ∧ v10 = .int .i64 j ∧ i ≤ j ∧ j ≤ xs.length ∧ Aside0 (∀ k e, xs[k]? = some e → (k < i → e.f0 < a) ∧ (j ≤ k → a ≤ e.f0)) ∧ Aside0 (Below w.heap.size w w')) (fun v9 v10 _ => (intOf v10).toNat - (intOf v9).toNat)
  case atStart => exact ⟨0, xs.length, rfl, rfl, by omega, by omega, ⟨fun k e hk => ⟨fun h => by omega, fun h => by have := (List.getElem?_eq_some_iff.1 hk).1; omega⟩⟩, ⟨Below.refl _ _⟩⟩
  case round =>
    obtain ⟨i, j, rfl, rfl, hij, hj, HI, HB⟩ := hrel
    by_cases hlt : i < j
    · obtain ⟨ad, eA, hx0, hx1⟩ := at_T54 HR.out (((i + j) / 2 : Nat) : Int) (by omega) (by omega)
      subst eA
      have hrd := rd54_nat xs ((i + j) / 2) (by omega)
      simp only [Int.toNat_natCast] at hx0 hx1
      replace hx0 := (HB.out.cell (World.block_lt_of_cell? w _ hx0)).trans hx0
      replace hx1 := (HB.out.cell (World.block_lt_of_cell? w _ hx1)).trans hx1
      generalize rd_T54 xs (((i + j) / 2 : Nat) : Int) = ev at hx0 hx1 hrd
      have HRD := Aside0.mk hrd
      clear hrd
      by_cases he : ev.f0 < a
      · have HE := Aside0.mk he
        have hcmp := cmpI_lt he
        clear he
        go_wp2_with (go_at_call 64; refine (clos_calls _ _ _ _).mono ?_; rintro e w' ⟨rfl, hb⟩)
        go_roundw
        case rel =>
          refine ⟨(i + j) / 2 + 1, j, by go_num, rfl, by omega, hj, ⟨fun k e hk => ⟨fun h => ?_, (HI.out k e hk).2⟩⟩, ⟨below_step HB.out hb⟩⟩
          by_cases hk2 : k = (i + j) / 2
          · subst hk2
            rw [HRD.out] at hk
            injection hk with hk
            rw [← hk]; exact HE.out
          · have h1 := List.pairwise_iff_getElem.1 HUP.out k ((i + j) / 2) (List.getElem?_eq_some_iff.1 hk).1 (List.getElem?_eq_some_iff.1 HRD.out).1 (by omega)
            rw [(List.getElem?_eq_some_iff.1 hk).2, (List.getElem?_eq_some_iff.1 HRD.out).2] at h1
            have := HE.out
            omega
        case measure => simp [intOf]; omega
      · have HE := Aside0.mk he
        have hcmp : 0 ≤ cmpI ev.f0 a := by unfold cmpI; rw [if_neg he]; split <;> omega
        clear he
        go_wp2_with (go_at_call 64; refine (clos_calls _ _ _ _).mono ?_; rintro e w' ⟨rfl, hb⟩)
        go_roundw
        case rel =>
          refine ⟨i, (i + j) / 2, rfl, by go_num, by omega, by omega, ⟨fun k e hk => ⟨(HI.out k e hk).1, fun h => ?_⟩⟩, ⟨below_step HB.out hb⟩⟩
          by_cases hk2 : k = (i + j) / 2
          · subst hk2
            rw [HRD.out] at hk
            injection hk with hk
            rw [← hk]; have := HE.out; omega
          · have h1 := List.pairwise_iff_getElem.1 HUP.out ((i + j) / 2) k (List.getElem?_eq_some_iff.1 HRD.out).1 (List.getElem?_eq_some_iff.1 hk).1 (by omega)
            rw [(List.getElem?_eq_some_iff.1 hk).2, (List.getElem?_eq_some_iff.1 HRD.out).2] at h1
            have := HE.out
            omega
        case measure => simp [intOf]; omega
    · obtain rfl : i = j := by omega
      have hcn := cnt_eq hj HI.out
      have hha := has_eq HUP.out HI.out
      have HCN := Aside0.mk hcn
      clear hcn hlt hij
      by_cases hlt : i < xs.length
      · obtain ⟨ad, eA, hx0, hx1⟩ := at_T54 HR.out (i : Int) (by omega) (by omega)
        subst eA
        have hrd := rd54_nat xs i hlt
        simp only [Int.toNat_natCast] at hx0 hx1
        replace hx0 := (HB.out.cell (World.block_lt_of_cell? w _ hx0)).trans hx0
        replace hx1 := (HB.out.cell (World.block_lt_of_cell? w _ hx1)).trans hx1
        generalize rd_T54 xs (i : Int) = ev at hx0 hx1 hrd
        by_cases he : ev.f0 = a
        · have hh : has xs a = true := hha.2 ⟨ev, hrd, he⟩
          have HH := Aside0.mk hh
          have hcmp : cmpI ev.f0 a = 0 := by rw [he]; exact cmpI_eq a
          clear hh hha hrd he
          go_wp2_with (go_at_call 64; refine (clos_calls _ _ _ _).mono ?_; rintro e w' ⟨rfl, hb⟩)
          go_ret2
          exact ⟨by rw [HCN.out, HH.out]; rfl, below_step HB.out hb⟩
        · have hh : has xs a = false := by
            rw [Bool.eq_false_iff]
            intro h
            obtain ⟨e, h1, h2⟩ := hha.1 h
            rw [hrd] at h1
            injection h1 with h1
            rw [← h1] at h2
            exact he h2
          have HH := Aside0.mk hh
          have hcmp : (cmpI ev.f0 a == 0) = false := by
            unfold cmpI
            split
            · rfl
            · split
              · rfl
              · omega
          clear hh hha hrd he
          go_wp2_with (go_at_call 64; refine (clos_calls _ _ _ _).mono ?_; rintro e w' ⟨rfl, hb⟩)
          go_ret2
          exact ⟨by rw [HCN.out, HH.out]; rfl, below_step HB.out hb⟩
      · have hh : has xs a = false := by
          rw [Bool.eq_false_iff]
          intro h
          obtain ⟨e, h1, _⟩ := hha.1 h
          exact hlt (List.getElem?_eq_some_iff.1 h1).1
        have HH := Aside0.mk hh
        clear hh hha
        go_wp2
        go_ret2
        exact ⟨by rw [HCN.out, HH.out]; rfl, HB.out⟩
theorem place_calls (xs : List S54) (a : Int) (A : Option Addr) (c : Nat) (w : World) (hr : Kd.C k54 w A xs.length xs) (hc : xs.length ≤ c) (hup : upS xs) (hl : xs.length ≤ 1000000) :
    Calls Try.prog 50 #[.slice A xs.length c, .int .i64 a] w fun e w' => e = .returned (.tuple #[.int .i64 (cnt xs a), .bool (has xs a)]) ∧ Below w.heap.size w w' := by
  have HR := Aside0.mk hr
  have HUP := Aside0.mk hup
  clear hr hup
  go_enter Try.func50, Try.ntmps50
  go_wp2_with (go_at_call 63; refine (bs_calls _ _ _ _ _ HR.out hc HUP.out hl).mono ?_; rintro e w' ⟨rfl, hb⟩)
  go_ret2
  exact ⟨rfl, hb⟩
end Go.Proofs.Ytbbiocmlicoipaa.PC
