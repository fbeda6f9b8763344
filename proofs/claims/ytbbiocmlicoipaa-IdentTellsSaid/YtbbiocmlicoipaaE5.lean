/- ident.Gap and Covers come to what the plain functions tell; vectors of at most some thousands. -/
import Derived.Test.YtbbiocmlicoipaaE4
namespace Go.Proofs.Ytbbiocmlicoipaa.PC
open Go.RowKit Go.Proofs.YtbbiocmlicoipaaW.PrintWords Go.Proofs.YtbbiocmlicoipaaW.PrintLast Go.Proofs.YtbbiocmlicoipaaW.PrintMore Go.Proofs.Ytbbiocmlicoipaa.K Go.Proofs.Ytbbiocmlicoipaa.I
attribute [local go_sem] max2_int min2_int max_two min_two max_three min_three max_four min_four
set_option linter.unusedVariables false
set_option linter.unusedSimpArgs false
theorem gp_snoc (a b : List En) (e : En) : gp a (b ++ [e]) = gp a b + max 0 (e.s - sq a e.a) := by
  induction b with
  | nil => simp [gp]
  | cons f b ih =>
    show max 0 (f.s - sq a f.a) + gp a (b ++ [e]) = max 0 (f.s - sq a f.a) + gp a b + _
    rw [ih]; omega
theorem gp_le {a b : List En} (ha : vec a) (hb : fit b) : gp a b ≤ b.length * 4294967295 := by
  induction b with
  | nil => simp [gp]
  | cons f b ih =>
    have h := fit_cons.1 hb
    have := ih h.2
    have := sq_pos ha f.a
    show max 0 (f.s - sq a f.a) + gp a b ≤ _
    rw [List.length_cons]
    omega
theorem ens_take (ys : List S54) (i : Nat) : ens (ys.take i) = (ens ys).take i := List.map_take
theorem fit_take {v : List En} (h : fit v) (i : Nat) : fit (v.take i) := fun e he => h e (List.mem_of_mem_take he)
theorem gp_succ (a : List En) (ys : List S54) (i : Nat) (h : i < ys.length) : gp a (ens (ys.take (i + 1))) = gp a (ens (ys.take i)) + max 0 ((rd_T54 ys (i : Int)).f1 - sq a (rd_T54 ys (i : Int)).f0) := by
  have e : ys.take (i + 1) = ys.take i ++ [rd_T54 ys (i : Int)] := by rw [List.take_add_one, rd54_nat ys i h]; rfl
  rw [e]
  unfold ens
  rw [List.map_append]
  exact gp_snoc _ _ _
theorem fit_rd {ys : List S54} (h : fit (ens ys)) (i : Nat) (hi : i < ys.length) : 0 ≤ (rd_T54 ys (i : Int)).f0 ∧ (rd_T54 ys (i : Int)).f0 < 4194304 ∧ 1 ≤ (rd_T54 ys (i : Int)).f1 ∧ (rd_T54 ys (i : Int)).f1 ≤ 4294967295 :=
  h (toE (rd_T54 ys (i : Int))) (List.mem_map_of_mem (List.mem_of_getElem? (rd54_nat ys i hi)))
set_option maxHeartbeats 4000000 in
set_option maxRecDepth 100000 in
theorem gap_calls (xs ys : List S54) (A B : Option Addr) (c d : Nat) (w : World) (hr : Kd.C k54 w A xs.length xs) (hc : xs.length ≤ c) (hr2 : Kd.C k54 w B ys.length ys) (hv : vec (ens xs)) (hf : fit (ens ys)) (hl : xs.length ≤ 1000000) (hl2 : ys.length ≤ 1000000) :
    Calls Try.prog 38 #[.slice A xs.length c, .slice B ys.length d] w fun e w' => e = .returned (.int .i64 (gp (ens xs) (ens ys))) ∧ Below w.heap.size w w' := by
  have HR := Lib.hid hr
  have HR2 := Lib.hid hr2
  have HV := Lib.hid hv
  have HF := Lib.hid hf
  clear hr hr2 hv hf
  go_enter Try.func38, Try.ntmps38
  go_wp2
  go_loopw [5, 10] (fun v5 v10 w' => ∃ (i : Nat) (n : Int), v5 = .int .i64 n ∧ v10 = .int .i64 i ∧ i ≤ ys.length ∧ Aside0 (n = gp (ens xs) (ens (ys.take i))) ∧ Aside0 (Below w.heap.size w w')) (fun v5 v10 _ => ys.length - (intOf v10).toNat)
  case atStart => exact ⟨0, 0, rfl, rfl, by omega, ⟨rfl⟩, ⟨Below.refl _ _⟩⟩
  case round =>
    obtain ⟨i, n, rfl, rfl, hi, HI, HB⟩ := hrel
    by_cases hlt : i < ys.length
    · obtain ⟨ad, eA, hx0, hx1⟩ := at_T54 HR2.out (i : Int) (by omega) (by omega)
      subst eA
      simp only [Int.toNat_natCast] at hx0 hx1
      replace hx0 := (HB.out.cell (World.block_lt_of_cell? w _ hx0)).trans hx0
      replace hx1 := (HB.out.cell (World.block_lt_of_cell? w _ hx1)).trans hx1
      have hS := gp_succ (ens xs) ys i hlt
      have hfr := fit_rd HF.out i hlt
      have hn0 := gp_nonneg (ens xs) (ens (ys.take i))
      have hn1 := gp_le HV.out (b := ens (ys.take i)) (by rw [ens_take]; exact fit_take HF.out i)
      have hel : (ens (ys.take i)).length ≤ 1000000 := by rw [ens_len, List.length_take]; omega
      have hq := sq_pos HV.out (rd_T54 ys (i : Int)).f0
      rw [← HI.out] at hS hn0 hn1
      generalize (ens (ys.take i)).length = len at hn1 hel
      generalize rd_T54 ys (i : Int) = ev at *
      have hsq := fun W hW => seq_calls xs ev.f0 A c W (Kd.C_below HR.out hW) hc (up_upS HV.out.1) hl
      generalize sq (ens xs) ev.f0 = q at *
      obtain ⟨hq0, hq1, _⟩ := hq
      obtain ⟨m, hm⟩ : ∃ m, max 0 (ev.f1 - q) = m := ⟨_, rfl⟩
      have hm1 : (if 0 < ev.f1 - q then ev.f1 - q else 0) = m := by split <;> omega
      have hm2 : (if ev.f1 - q < 0 then 0 else ev.f1 - q) = m := by split <;> omega
      have hm3 : (if q < ev.f1 then ev.f1 - q else 0) = m := by split <;> omega
      have hmb : 0 ≤ m ∧ m ≤ 4294967295 := by omega
      rw [hm] at hS
      have HS := Aside0.mk hS
      have HSQ := Aside0.mk hsq
      have hw1 : IntKind.i64.wrap (ev.f1 - q) = ev.f1 - q := by rw [IntKind.wrap_i64]; omega
      have hw2 : IntKind.i64.wrap (n + m) = n + m := by rw [IntKind.wrap_i64]; omega
      clear hS hsq hfr hn0 hn1 hel hq0 hq1 hmb
      go_wp2
      have hbd : Below w.heap.size w (wr.alloc (Obj.cells #[Value.int IntKind.i64 ev.f0, Value.int IntKind.i64 ev.f1] 54)).drew := ((below_step HB.out ((Below.refl _ _).alloc (Nat.le_refl _) _))).drew
      go_region_held3 (fun W => W.cell? ⟨wr.heap.size, 0, none⟩ = some (.int .i64 ev.f0) ∧ W.cell? ⟨wr.heap.size, 1, none⟩ = some (.int .i64 ev.f1) ∧ Below w.heap.size w W) ((go_split_ands; refine ⟨?_, ?_, ?_⟩ <;> first | assumption | (simp [*, World.cell?_alloc_some, World.cell?_setCell_far]; done))) (first | (go_at_call 31; refine (HSQ.out _ ?_).mono ?_; (first | assumption | (simp [*]; done)); rintro e w' ⟨rfl, hb⟩; go_split_ands; have c0 : w'.cell? ⟨wr.heap.size, 0, none⟩ = some (.int .i64 ev.f0) := pw_cell_below hb (by assumption); have c1 : w'.cell? ⟨wr.heap.size, 1, none⟩ = some (.int .i64 ev.f1) := pw_cell_below hb (by assumption); have hb1 : Below w.heap.size w w' := below_step (by assumption) hb))
      go_wp2
      go_roundw
      case rel =>
        exact ⟨i + 1, n + m, rfl, by go_num, by omega, ⟨HS.out.symm⟩, ⟨hb1⟩⟩
      case measure => simp [intOf]; omega
    · obtain rfl : i = ys.length := by omega
      have hI := HI.out
      rw [List.take_length] at hI
      have HI' := Aside0.mk hI
      clear hI HI
      go_wp2
      go_ret
      exact ⟨by rw [← HI'.out]; rfl, HB.out⟩
set_option maxHeartbeats 4000000 in
set_option maxRecDepth 100000 in
theorem covers_calls (xs ys : List S54) (A B : Option Addr) (c d : Nat) (w : World) (hr : Kd.C k54 w A xs.length xs) (hc : xs.length ≤ c) (hr2 : Kd.C k54 w B ys.length ys) (hv : vec (ens xs)) (hf : fit (ens ys)) (hl : xs.length ≤ 1000000) (hl2 : ys.length ≤ 1000000) :
    Calls Try.prog 37 #[.slice A xs.length c, .slice B ys.length d] w fun e w' => e = .returned (.bool (decide (gp (ens xs) (ens ys) = 0))) ∧ Below w.heap.size w w' := by
  have hg := gap_calls xs ys A B c d w hr hc hr2 hv hf hl hl2
  generalize gp (ens xs) (ens ys) = n at *
  have HG := Lib.hid hg
  clear hg hr hr2 hv hf
  go_enter Try.func37, Try.ntmps37
  go_wp2_with (go_at_call 38; refine HG.out.mono ?_; rintro e w' ⟨rfl, hb⟩)
  go_ret
  exact ⟨rfl, hb⟩
end Go.Proofs.Ytbbiocmlicoipaa.PC
