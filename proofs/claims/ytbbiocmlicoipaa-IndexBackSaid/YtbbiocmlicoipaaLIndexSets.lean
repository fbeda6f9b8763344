/- IndexSets comes to true. -/
import Derived.Test.YtbbiocmlicoipaaIX7
import Derived.Test.YtbbiocmlicoipaaIXO
namespace Go.Proofs.Ytbbiocmlicoipaa.PC
open Go.RowKit Go.Proofs.YtbbiocmlicoipaaW.PrintWords Go.Proofs.YtbbiocmlicoipaaW.PrintLast Go.Proofs.YtbbiocmlicoipaaW.PrintMore Go.Proofs.Ytbbiocmlicoipaa.K Go.Proofs.Ytbbiocmlicoipaa.IX Go.Proofs.Ytbbiocmlicoipaa.OpenS
attribute [local go_sem] max2_int min2_int max_two min_two max_three min_three max_four min_four
set_option linter.unusedVariables false
set_option linter.unusedSimpArgs false
theorem bits16 (x : Int) : 0 ≤ Go.bits .and .i64 x 65535 ∧ Go.bits .and .i64 x 65535 ≤ 65535 := by
  have hb : (65535 : Nat) % 2 ^ IntKind.i64.bits = 65535 := by decide
  have h1 : (BitVec.ofInt IntKind.i64.bits x).toNat &&& 65535 ≤ 65535 := Nat.and_le_right
  have e : Go.bits .and .i64 x 65535 = (((BitVec.ofInt IntKind.i64.bits x).toNat &&& 65535 : Nat) : Int) := by
    rw [show (65535 : Int) = ((65535 : Nat) : Int) from rfl]
    simp only [Go.bits, BitVec.ofInt_natCast, BitVec.toNat_and, BitVec.toNat_ofNat, hb]
    rw [IntKind.wrap_i64]
    omega
  rw [e]
  omega
theorem setS_in (ms : List Bool) (i : Nat) (u : Bool) (h : i < ms.length) : setS ms (i : Int) u = (true, ms.set i u) := by
  unfold setS
  rw [if_pos ⟨by omega, by omega⟩, Int.toNat_natCast]
theorem rank_set (ms : List Bool) (i f : Nat) (u : Bool) (h : i < ms.length) (hf : i < f) : rankS (ms.set i u) (f : Int) = rankS ms (f : Int) + (oneI u - oneI ms[i]) := by
  rw [rankS_nat, rankS_nat]
  have hl : i < (ms.take f).length := by rw [List.length_take]; omega
  rw [List.take_set, cn_set _ _ _ hl, List.getElem_take]

theorem rank_le (ms : List Bool) (i f : Nat) (h : i ≤ f) : rankS ms (i : Int) ≤ rankS ms (f : Int) := by
  rw [rankS_nat, rankS_nat]
  have : ms.take i = (ms.take f).take i := by rw [List.take_take, Nat.min_eq_left h]
  rw [this]
  have := cn_mono (ms.take f) i
  omega
set_option maxHeartbeats 4000000 in
set_option maxRecDepth 100000 in
theorem sets13_row (A : Option Addr) (cap : Nat) (l : List Bool) (at_ far : Int) (w : World) (hr : Kd.C Kd.bool w A l.length l) (hc : l.length ≤ cap) (hy : l.length * 1 ≤ 140737488351232) (hg : ∀ y ∈ l, True) (hwa : (Lit.int .i64 at_).wf = true) (hwf : (Lit.int .i64 far).wf = true) :
    Calls Try.prog 7 #[.slice A l.length cap, .int .i64 at_, .int .i64 far] w fun e w' => e = .returned (.bool true) ∧ Below w.heap.size w w' := by
  have HRD := Lib.hid hr
  obtain ⟨N, hN⟩ : ∃ N, min l.length 300 = N := ⟨_, rfl⟩
  have hN1 : N ≤ l.length := by omega
  have hN2 : N ≤ 300 := by omega
  have hm1 : (if (l.length : Int) < 300 then (l.length : Int) else 300) = (N : Int) := by split <;> omega
  have hm2 : (if (300 : Int) < (l.length : Int) then 300 else (l.length : Int)) = (N : Int) := by split <;> omega
  have hlen : l.length ≤ 140737488351232 := by omega
  clear hr hg hy hN hwa hwf
  go_enter Try.func7, Try.ntmps7
  go_wp2_with (first
    | (go_at_call 14; refine (shown13_calls w).mono ?_; rintro e w1 ⟨rfl, hb⟩; have HB1 := Lib.hid hb; clear hb)
    | (go_at_call 15; with_reducible refine (new_ow HB1.out).mono ?_; rintro e w2 ⟨p, rfl, ho⟩; have HO := Lib.hid ho; clear ho))
  go_loopw [10] (fun v10 wr => ∃ i : Nat, v10 = .int .i64 (i : Int) ∧ i ≤ N ∧ Aside0 (Ow w wr p (l.take i))) (fun v10 _ => N - (intOf v10).toNat)
  case atStart => exact ⟨0, rfl, by omega, ⟨HO.out⟩⟩
  case round =>
    obtain ⟨i, rfl, hi, HI⟩ := hrel
    by_cases hlt : i < N
    · obtain ⟨ad, rfl, hca⟩ := cell_bool HRD.out HI.out.bel i (by omega)
      have hta : l.take i ++ [l[i]'(by omega)] = l.take (i + 1) := List.take_append_getElem (by omega)
      generalize l[i]'(by omega) = u at hca hta
      have hl1 : (l.take i).length = i := by rw [List.length_take]; omega
      have hi1 : insS (l.take i) (i : Int) u = (true, l.take (i + 1)) := by
        have := insS_end (l.take i) u
        rw [hl1, hta] at this
        exact this
      have K1 := Lib.hid (ins_is (i : Int) u true (l.take (i + 1)) hi1 HI.out (by rw [hl1]; omega))
      clear hta hl1 hi1
      go_wp2_with (go_at_call 16; with_reducible refine K1.out.mono ?_; rintro e w4 ⟨rfl, ho⟩; have H4 := Lib.hid ho; clear ho)
      go_roundw
      case rel => exact ⟨i + 1, by go_num, by omega, ⟨H4.out⟩⟩
      case measure => simp [intOf]; omega
    · obtain rfl : N = i := by omega
      have ho := HI.out
      have hMl : (l.take N).length = N := by rw [List.length_take]; omega
      have hMg : ∀ k (h : k < N), (l.take N)[k]'(by omega) = l[k]'(by omega) := fun k h => List.getElem_take
      by_cases hz : N = 0
      · subst hz
        have K1 := Lib.hid (set_is (ms := l.take 0) 0 true false (l.take 0) (by simp [setS]) HI.out (by simp))
        clear ho hMl hMg HI
        go_wp2_with (go_at_call 22; with_reducible refine K1.out.mono ?_; rintro e w4 ⟨rfl, ho⟩; have H4 := Lib.hid ho; clear ho)
        go_ret
        exact ⟨rfl, H4.out.bel⟩
      · obtain ⟨x1, hx1⟩ : ∃ x, Go.bits .and .i64 at_ 65535 = x := ⟨_, rfl⟩
        obtain ⟨x2, hx2⟩ : ∃ x, Go.bits .and .i64 far 65535 = x := ⟨_, rfl⟩
        have hb1 := bits16 at_
        have hb2 := bits16 far
        rw [hx1] at hb1
        rw [hx2] at hb2
        have hNp : (0 : Int) < (N : Int) := by omega
        have hp1 := Int.emod_nonneg x1 (show (N : Int) ≠ 0 by omega)
        have hp2 := Int.emod_lt_of_pos x1 hNp
        have hq1 := Int.emod_nonneg x2 (show (N : Int) ≠ 0 by omega)
        have hq2 := Int.emod_lt_of_pos x2 hNp
        obtain ⟨a, ha⟩ : ∃ a : Nat, x1 % (N : Int) = (a : Int) := ⟨(x1 % (N : Int)).toNat, by omega⟩
        obtain ⟨c, hcc⟩ : ∃ c : Nat, x2 % (N : Int) = (c : Int) := ⟨(x2 % (N : Int)).toNat, by omega⟩
        have haN : a < N := by omega
        have hcN : c < N := by omega
        obtain ⟨f, hf⟩ : ∃ f : Nat, f = a + 1 + c := ⟨_, rfl⟩
        obtain ⟨M, hM⟩ : ∃ M, l.take N = M := ⟨_, rfl⟩
        obtain ⟨ad, rfl, hca⟩ := cell_bool HRD.out HI.out.bel a (by omega)
        have hMa : ∀ h, M[a]'h = l[a]'(by omega) := by subst hM; intro h; exact hMg a haN
        rw [hM] at ho hMl
        generalize hu : l[a]'(by omega) = u at hca hMa
        have hcell : ∀ w2, Below w.heap.size w w2 → w2.cell? (ad.add a) = some (.bool u) := by
          intro w2 hb
          obtain ⟨ad2, e, h2⟩ := cell_bool HRD.out hb a (by omega)
          injection e with e
          subst e
          rw [hu] at h2
          exact h2
        have HCELL := Lib.hid hcell
        obtain ⟨r, hr⟩ : ∃ r, rankS M (f : Int) = r := ⟨_, rfl⟩
        have haM : a < M.length := by omega
        have hr2 : rankS (M.set a (!u)) (f : Int) = r + (oneI (!u) - oneI u) := by rw [rank_set _ _ _ _ haM (by omega), hr, hMa]
        have hMM : (M.set a (!u)).set a u = M := by
          rw [List.set_set]
          conv => lhs; rw [← hMa haM]
          exact List.set_getElem_self haM
        have hra := rank_le M a f (by omega)
        rw [hr] at hra
        obtain ⟨ra, hrae⟩ : ∃ r, rankS M (a : Int) = r := ⟨_, rfl⟩
        rw [hrae] at hra
        have hfe : (f : Int) = (a : Int) + 1 + (c : Int) := by omega
        have hMs : M.length ≤ 1000000 := by omega
        have hrb : 0 ≤ r ∧ r ≤ 300 := by
          rw [← hr, rankS_nat]
          have h1 := cn_mono M f
          have h2 := cn_le M
          omega
        rw [hfe] at hr hr2
        have K1 := Lib.hid (rank_is _ r hr ho hMs)
        have K2 := Lib.hid (fun w2 (h : Ow w w2 p M) => set_is (a : Int) (!u) true _ (setS_in M a (!u) haM) h hMs)
        have K3 := Lib.hid (fun w2 (h : Ow w w2 p (M.set a (!u))) => rank_is _ _ hr2 h (by rw [List.length_set]; exact hMs))
        have K4 := Lib.hid (fun w2 (h : Ow w w2 p (M.set a (!u))) => set_is (a : Int) u true M (by rw [setS_in _ _ _ (by rw [List.length_set]; exact haM), hMM]) h (by rw [List.length_set]; exact hMs))
        have K5 := Lib.hid (fun w2 (h : Ow w w2 p M) => rank_is _ r hr h hMs)
        have K6 := Lib.hid (fun w2 (h : Ow w w2 p M) => rank_is (a : Int) ra hrae h hMs)
        have hz2 : ((N : Int) == 0) = false := by simp; omega
        have HO4 := Lib.hid ho
        clear hr hr2 hMM hrae hfe hcell hM hMa hu HI hMg hf ho
        have H0 : ∀ wq n, wq = wr.drewN n → Ow w wq p M := fun wq n h => by rw [h]; exact HO4.out.drewN n
        have HH0 := Lib.hid H0
        clear H0
        cases u with
        | true =>
          rw [show r + (oneI (!true) - oneI true) = r + -1 from rfl] at K3
          simp only [Bool.not_true] at K2 K3 K4
          go_wp2_with (first
            | (go_at_call 18; with_reducible refine K1.out.mono ?_; rintro e w4 ⟨rfl, n4, hw4⟩; have H4 := Lib.hid (HH0.out _ _ hw4); have hc4 := HCELL.out _ H4.out.bel; clear hw4)
            | (go_at_call 22; with_reducible refine (K2.out _ H4.out).mono ?_; rintro e w5 ⟨rfl, ho⟩; have H5 := Lib.hid ho; have hc5 := HCELL.out _ ho.bel; clear ho)
            | (go_at_call 18; with_reducible refine (K3.out _ H5.out).mono ?_; rintro e w6 ⟨rfl, n6, hw6⟩; have H6 := Lib.hid (show Ow w w6 p _ from by rw [hw6]; exact H5.out.drewN n6); have hc6 := HCELL.out _ H6.out.bel; clear hw6)
            | (go_at_call 22; with_reducible refine (K4.out _ H6.out).mono ?_; rintro e w7 ⟨rfl, ho⟩; have H7 := Lib.hid ho; have hc7 := HCELL.out _ ho.bel; clear ho)
            | (go_at_call 18; with_reducible refine (K5.out _ H7.out).mono ?_; rintro e w8 ⟨rfl, n8, hw8⟩; have H8 := Lib.hid (show Ow w w8 p M from by rw [hw8]; exact H7.out.drewN n8); clear hw8)
            | (go_at_call 18; with_reducible refine (K6.out _ H8.out).mono ?_; rintro e w9 ⟨rfl, n9, hw9⟩; have H9 := Lib.hid (show Ow w w9 p M from by rw [hw9]; exact H8.out.drewN n9); clear hw9))
          go_ret
          exact ⟨rfl, H9.out.bel⟩
        | false =>
          rw [show r + (oneI (!false) - oneI false) = r + 1 from rfl] at K3
          simp only [Bool.not_false] at K2 K3 K4
          go_wp2_with (first
            | (go_at_call 18; with_reducible refine K1.out.mono ?_; rintro e w4 ⟨rfl, n4, hw4⟩; have H4 := Lib.hid (HH0.out _ _ hw4); have hc4 := HCELL.out _ H4.out.bel; clear hw4)
            | (go_at_call 22; with_reducible refine (K2.out _ H4.out).mono ?_; rintro e w5 ⟨rfl, ho⟩; have H5 := Lib.hid ho; have hc5 := HCELL.out _ ho.bel; clear ho)
            | (go_at_call 18; with_reducible refine (K3.out _ H5.out).mono ?_; rintro e w6 ⟨rfl, n6, hw6⟩; have H6 := Lib.hid (show Ow w w6 p _ from by rw [hw6]; exact H5.out.drewN n6); have hc6 := HCELL.out _ H6.out.bel; clear hw6)
            | (go_at_call 22; with_reducible refine (K4.out _ H6.out).mono ?_; rintro e w7 ⟨rfl, ho⟩; have H7 := Lib.hid ho; have hc7 := HCELL.out _ ho.bel; clear ho)
            | (go_at_call 18; with_reducible refine (K5.out _ H7.out).mono ?_; rintro e w8 ⟨rfl, n8, hw8⟩; have H8 := Lib.hid (show Ow w w8 p M from by rw [hw8]; exact H7.out.drewN n8); clear hw8)
            | (go_at_call 18; with_reducible refine (K6.out _ H8.out).mono ?_; rintro e w9 ⟨rfl, n9, hw9⟩; have H9 := Lib.hid (show Ow w w9 p M from by rw [hw9]; exact H8.out.drewN n9); clear hw9))
          go_ret
          exact ⟨rfl, H9.out.bel⟩
end Go.Proofs.Ytbbiocmlicoipaa.PC
