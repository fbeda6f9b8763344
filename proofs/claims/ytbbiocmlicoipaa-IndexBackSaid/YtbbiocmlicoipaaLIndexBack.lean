/- IndexBack comes to true. -/
import Derived.Test.YtbbiocmlicoipaaLIndexSets
import Derived.Deep.RegionWith
namespace Go.Proofs.Ytbbiocmlicoipaa.PC
open Go.RowKit Go.Proofs.YtbbiocmlicoipaaW.PrintWords Go.Proofs.YtbbiocmlicoipaaW.PrintLast Go.Proofs.YtbbiocmlicoipaaW.PrintMore Go.Proofs.Ytbbiocmlicoipaa.K Go.Proofs.Ytbbiocmlicoipaa.IX Go.Proofs.Ytbbiocmlicoipaa.OpenS
attribute [local go_sem] max2_int min2_int max_two min_two max_three min_three max_four min_four
set_option linter.unusedVariables false
set_option linter.unusedSimpArgs false
set_option maxHeartbeats 4000000 in
set_option maxRecDepth 100000 in
theorem back13_row (A : Option Addr) (cap : Nat) (l : List Stp) (w : World) (hr : ReadsRow (fun s c => c = fS s) 3 w A l.length l) (hc : l.length ≤ cap) (hy : l.length * 16 ≤ 140737488351232) (hg : ∀ y ∈ l, (Lit.int .i64 y.at_).wf = true) :
    Calls Try.prog 3 #[.slice A l.length cap] w fun e w' => e = .returned (.bool true) ∧ Below w.heap.size w w' := by
  have HRD := Lib.hid hr
  obtain ⟨N, hN⟩ : ∃ N, min l.length 500 = N := ⟨_, rfl⟩
  have hN1 : N ≤ l.length := by omega
  have hN2 : N ≤ 500 := by omega
  have hN3 : l.length ≤ N ∨ N = 500 := by omega
  have hlen : l.length ≤ 140737488351232 := by omega
  have HN3 := Lib.hid hN3
  clear hr hg hy hN hN3
  go_enter Try.func3, Try.ntmps3
  go_wp2_with (first
    | (go_at_call 14; refine (shown13_calls w).mono ?_; rintro e w1 ⟨rfl, hb⟩; have HB1 := Lib.hid hb; clear hb)
    | (go_at_call 15; with_reducible refine (new_ow HB1.out).mono ?_; rintro e w2 ⟨p, rfl, ho⟩; have HO := Lib.hid ho; clear ho))
  go_loopw [5] (fun v5 wr => ∃ (i : Nat) (ms : List Bool), v5 = .int .i64 (i : Int) ∧ i ≤ N ∧ Aside0 (ms.length = i ∧ Ow w wr p ms)) (fun v5 _ => N - (intOf v5).toNat)
  case atStart => exact ⟨0, [], rfl, by omega, ⟨rfl, HO.out⟩⟩
  case round =>
    obtain ⟨i, ms, rfl, hi, HI⟩ := hrel
    by_cases hlt : i < N
    · have hil : i < l.length := by omega
      obtain ⟨ad, rfl, hc0, hc1, _⟩ := cell_step HRD.out HI.out.2.bel i hil
      generalize l[i].at_ = x at hc0
      generalize l[i].seen = u at hc1
      obtain ⟨x1, hx1⟩ : ∃ y, Go.bits .and .i64 x 65535 = y := ⟨_, rfl⟩
      have hb1 := bits16 x
      rw [hx1] at hb1
      have hp1 := Int.emod_nonneg x1 (show (i : Int) + 1 ≠ 0 by omega)
      have hp2 := Int.emod_lt_of_pos x1 (show (0 : Int) < (i : Int) + 1 by omega)
      obtain ⟨a, ha⟩ : ∃ a : Nat, x1 % ((i : Int) + 1) = (a : Int) := ⟨(x1 % ((i : Int) + 1)).toNat, by omega⟩
      have hai : a ≤ i := by omega
      have K1 := Lib.hid (ins_is (w := wr.drew) (a : Int) u true (ms.take a ++ [u] ++ ms.drop a) (insS_in ms a u (by rw [HI.out.1]; exact hai)) (show Ow w wr.drew p ms from HI.out.2.drewN 1) (by rw [HI.out.1]; omega))
      have htm : x1.tmod ((i : Int) + 1) = (a : Int) := by rw [Int.tmod_eq_emod_of_nonneg hb1.1]; exact ha
      have hnl : (ms.take a ++ [u] ++ ms.drop a).length = i + 1 := by
        have := HI.out.1
        simp only [List.length_append, List.length_take, List.length_drop, List.length_singleton]
        omega
      have HNL := Lib.hid hnl
      have hw1 : IntKind.i64.wrap ((i : Int) + 1) = (i : Int) + 1 := by rw [IntKind.wrap_i64]; omega
      have hne : ¬ ((i : Int) + 1 = 0) := by omega
      have hne2 : (((i : Int) + 1) == 0) = false := by simp; omega
      clear hp1 hp2 hnl
      go_wp2
      go_region_with ((go_at_call 16; with_reducible refine K1.out.mono ?_; rintro e w4 ⟨rfl, ho⟩; have H4 := Lib.hid ho; clear ho))
      all_goals
        go_wp2
        go_roundw
        case rel => exact ⟨i + 1, _, by go_num, by omega, ⟨HNL.out, H4.out⟩⟩
        case measure => simp [intOf]; omega
    · obtain rfl : N = i := by omega
      obtain ⟨hM, ho⟩ := HI.out
      have hMs : ms.length ≤ 1000000 := by omega
      obtain ⟨cM, hcM⟩ : ∃ c, cn ms = c := ⟨_, rfl⟩
      have hcb : cM ≤ 500 := by have := cn_le ms; omega
      have K1 := Lib.hid (len_is (N : Int) (by rw [hM]) ho)
      have HM := Lib.hid hM
      have HO4 := Lib.hid ho
      have HMS := Lib.hid hMs
      have HCM := Lib.hid hcM
      have hstop : (¬ (N : Int) < (l.length : Int)) ∨ ((N : Int) < (l.length : Int) ∧ ¬ (N : Int) < 500) := by have := HN3.out; omega
      have hw9 : IntKind.i64.wrap ((N : Int) + 9) = (N : Int) + 9 := by rw [IntKind.wrap_i64]; omega
      have Q1 := Lib.hid (fun w2 (h : Ow w w2 p ms) => sel_is (cM : Int) 0 false (by rw [← HCM.out]; exact selS_over ms) h HMS.out)
      have Q2 := Lib.hid (fun w2 (h : Ow w w2 p ms) n => rank_q (N : Int) (cM : Int) (by rw [rankS_all _ _ (by rw [HM.out]; exact Int.le_refl _), HCM.out]) h HMS.out n)
      have Q3 := Lib.hid (fun w2 (h : Ow w w2 p ms) n => rank_q ((N : Int) + 9) (cM : Int) (by rw [rankS_all _ _ (by rw [HM.out]; omega), HCM.out]) h HMS.out n)
      have Q4 := Lib.hid (fun w2 (h : Ow w w2 p ms) n => rank_q (-5) 0 (rankS_neg ms _ (by decide)) h HMS.out n)
      have Q5 := Lib.hid (fun w2 (h : Ow w w2 p ms) n => count_q (cM : Int) (by rw [HCM.out]) h n)
      have Q6 := Lib.hid (fun w2 (h : Ow w w2 p ms) => count_is (cM : Int) (by rw [HCM.out]) h)
      clear hM ho hMs hcM HI
      rcases hstop with h1 | ⟨h1, h2⟩
      all_goals
        go_wp2_with (go_at_call 17; with_reducible refine K1.out.mono ?_; rintro e w5 ⟨rfl, rfl⟩)
        go_loopw [7] (fun v7 wr => ∃ k : Nat, v7 = .int .i64 (k : Int) ∧ k ≤ N ∧ Aside0 (Ow w wr p ms)) (fun v7 _ => N - (intOf v7).toNat)
        case atStart => exact ⟨0, rfl, by omega, ⟨HO4.out⟩⟩
        case round =>
          obtain ⟨k, rfl, hk, HJ⟩ := hrel
          have hoj := HJ.out
          by_cases hlt2 : k < N
          · have hkm : k < ms.length := by rw [HM.out]; exact hlt2
            obtain ⟨r, hr⟩ : ∃ r, rankS ms (k : Int) = r := ⟨_, rfl⟩
            have hr0 : 0 ≤ r ∧ r ≤ 500 := by
              rw [← hr, rankS_nat]
              have h1 := cn_mono ms k
              have h2 := HCM.out
              omega
            have hrs := rankS_succ ms k hkm
            have hsn := seenS_get ms k hkm
            have hsl := selS_rank ms k hkm
            rw [hr] at hrs hsl
            obtain ⟨u, hu⟩ : ∃ u, ms[k] = u := ⟨_, rfl⟩
            rw [hu] at hrs hsn hsl
            have K2 := Lib.hid (rank_is (k : Int) r hr hoj HMS.out)
            have K3 := Lib.hid (fun w2 (h : Ow w w2 p ms) => seen_is (k : Int) u hsn h HMS.out)
            cases u with
            | true =>
              have K4 := Lib.hid (fun w2 (h : Ow w w2 p ms) => sel_is r (k : Int) true (hsl rfl) h HMS.out)
              have K5 := Lib.hid (fun w2 (h : Ow w w2 p ms) => rank_is ((k : Int) + 1) (r + 1) hrs h HMS.out)
              clear hr hrs hsn hsl hu hoj hkm
              go_wp2_with (first
                | (go_at_call 18; with_reducible refine K2.out.mono ?_; rintro e w6 ⟨rfl, n6, hw6⟩; have H6 := Lib.hid (show Ow w w6 p ms from by rw [hw6]; exact HJ.out.drewN n6); clear hw6)
                | (go_at_call 19; with_reducible refine (K3.out _ H6.out).mono ?_; rintro e w7 ⟨rfl, n7, hw7⟩; have H7 := Lib.hid (show Ow w w7 p ms from by rw [hw7]; exact H6.out.drewN n7); clear hw7)
                | (go_at_call 20; with_reducible refine (K4.out _ H7.out).mono ?_; rintro e w8 ⟨rfl, n8, hw8⟩; have H8 := Lib.hid (show Ow w w8 p ms from by rw [hw8]; exact H7.out.drewN n8); clear hw8)
                | (go_at_call 18; with_reducible refine (K5.out _ H8.out).mono ?_; rintro e w9 ⟨rfl, n9, hw9⟩; have H9 := Lib.hid (show Ow w w9 p ms from by rw [hw9]; exact H8.out.drewN n9); clear hw9))
              go_roundw
              case rel => exact ⟨k + 1, by go_num, by omega, ⟨H9.out⟩⟩
              case measure => simp [intOf]; omega
            | false =>
              rw [if_neg (by decide), Int.add_zero] at hrs
              have K5 := Lib.hid (fun w2 (h : Ow w w2 p ms) => rank_is ((k : Int) + 1) r hrs h HMS.out)
              clear hr hrs hsn hsl hu hoj hkm
              go_wp2_with (first
                | (go_at_call 18; with_reducible refine K2.out.mono ?_; rintro e w6 ⟨rfl, n6, hw6⟩; have H6 := Lib.hid (show Ow w w6 p ms from by rw [hw6]; exact HJ.out.drewN n6); clear hw6)
                | (go_at_call 19; with_reducible refine (K3.out _ H6.out).mono ?_; rintro e w7 ⟨rfl, n7, hw7⟩; have H7 := Lib.hid (show Ow w w7 p ms from by rw [hw7]; exact H6.out.drewN n7); clear hw7)
                | (go_at_call 18; with_reducible refine (K5.out _ H7.out).mono ?_; rintro e w9 ⟨rfl, n9, hw9⟩; have H9 := Lib.hid (show Ow w w9 p ms from by rw [hw9]; exact H7.out.drewN n9); clear hw9))
              go_roundw
              case rel => exact ⟨k + 1, by go_num, by omega, ⟨H9.out⟩⟩
              case measure => simp [intOf]; omega
          · obtain rfl : N = k := by omega
            have HO5 := Lib.hid hoj
            clear hoj HJ
            go_wp2_with (first
              | (go_at_call 21; with_reducible refine (Q6.out _ HO5.out).mono ?_; rintro e w6 ⟨rfl, rfl⟩)
              | (go_at_call 20; with_reducible refine (Q1.out _ HO5.out).mono ?_; rintro e w7 ⟨rfl, n7, hw7⟩; have H7 := Lib.hid (show Ow w w7 p ms from by rw [hw7]; exact HO5.out.drewN n7); clear hw7))
            go_quiet ((first | (go_at_call 18; first | with_reducible exact Q2.out _ H7.out _ | with_reducible exact Q3.out _ H7.out _ | with_reducible exact Q4.out _ H7.out _) | (go_at_call 21; with_reducible exact Q5.out _ H7.out _)))
            go_wp2
            go_ret
            exact ⟨rfl, pw_below_drewN H7.out.bel _⟩
end Go.Proofs.Ytbbiocmlicoipaa.PC
