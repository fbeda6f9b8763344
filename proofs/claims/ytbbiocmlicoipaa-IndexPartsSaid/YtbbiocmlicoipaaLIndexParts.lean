/- IndexParts comes to true. -/
import Derived.Test.YtbbiocmlicoipaaIX7
import Derived.Test.YtbbiocmlicoipaaIXO
namespace Go.Proofs.Ytbbiocmlicoipaa.PC
open Go.RowKit Go.Proofs.YtbbiocmlicoipaaW.PrintWords Go.Proofs.YtbbiocmlicoipaaW.PrintLast Go.Proofs.YtbbiocmlicoipaaW.PrintMore Go.Proofs.Ytbbiocmlicoipaa.K Go.Proofs.Ytbbiocmlicoipaa.IX Go.Proofs.Ytbbiocmlicoipaa.OpenS
attribute [local go_sem] max2_int min2_int max_two min_two max_three min_three max_four min_four
set_option linter.unusedVariables false
set_option linter.unusedSimpArgs false
theorem rank_app (a b : List Bool) (k : Nat) : rankS (a ++ b) ((a.length : Int) + (k : Int)) = (cn a : Int) + rankS b (k : Int) := by
  rw [show (a.length : Int) + (k : Int) = ((a.length + k : Nat) : Int) by simp, rankS_nat, rankS_nat, List.take_append, List.take_of_length_le (by omega), Nat.add_sub_cancel_left, cn_app]
  simp
theorem selS_app (a b : List Bool) (k : Nat) (h : k < cn b) : ∃ i : Nat, i < b.length ∧ selS (a ++ b) ((cn a : Int) + (k : Int)) = ((a.length : Int) + (i : Int), true) ∧ selS b (k : Int) = ((i : Int), true) := by
  obtain ⟨i, h1, h2, _⟩ := sel_some b k h
  refine ⟨i, h2, ?_, ?_⟩
  · unfold selS
    rw [if_pos (by omega), show ((cn a : Int) + (k : Int)).toNat = cn a + k by omega, sel_app, if_neg (by omega), Nat.add_sub_cancel_left, h1]
    simp
    omega
  · unfold selS
    rw [if_pos (by omega), Int.toNat_natCast, h1]
set_option maxHeartbeats 4000000 in
set_option maxRecDepth 100000 in
theorem parts13_row (A : Option Addr) (cap : Nat) (l : List Bool) (A1 : Option Addr) (cap1 : Nat) (l1 : List Bool) (w : World) (hr : Kd.C Kd.bool w A l.length l) (hc : l.length ≤ cap) (hy : l.length * 1 ≤ 140737488351232) (hg : ∀ y ∈ l, True)
    (hr1 : Kd.C Kd.bool w A1 l1.length l1) (hc1 : l1.length ≤ cap1) (hy1 : l1.length * 1 ≤ 140737488351232) (hg1 : ∀ y ∈ l1, True) :
    Calls Try.prog 5 #[.slice A l.length cap, .slice A1 l1.length cap1] w fun e w' => e = .returned (.bool true) ∧ Below w.heap.size w w' := by
  have HRD := Lib.hid hr
  have HRD1 := Lib.hid hr1
  obtain ⟨N, hN⟩ : ∃ N, min l.length 200 = N := ⟨_, rfl⟩
  obtain ⟨m, hm⟩ : ∃ N, min l1.length 200 = N := ⟨_, rfl⟩
  have hN1 : N ≤ l.length := by omega
  have hN2 : N ≤ 200 := by omega
  have hm1 : m ≤ l1.length := by omega
  have hm2 : m ≤ 200 := by omega
  have e1 : (if (l.length : Int) < 200 then (l.length : Int) else 200) = (N : Int) := by split <;> omega
  have e2 : (if (200 : Int) < (l.length : Int) then 200 else (l.length : Int)) = (N : Int) := by split <;> omega
  have e3 : (if (l1.length : Int) < 200 then (l1.length : Int) else 200) = (m : Int) := by split <;> omega
  have e4 : (if (200 : Int) < (l1.length : Int) then 200 else (l1.length : Int)) = (m : Int) := by split <;> omega
  have hlen : l.length ≤ 140737488351232 := by omega
  have hlen1 : l1.length ≤ 140737488351232 := by omega
  clear hr hg hy hN hr1 hg1 hy1 hm
  go_enter Try.func5, Try.ntmps5
  go_wp2_with (first
    | (go_at_call 14; refine (shown13_calls w).mono ?_; rintro e w1 ⟨rfl, hb⟩; have HB1 := Lib.hid hb; clear hb)
    | (go_at_call 15; with_reducible refine (new_ow HB1.out).mono ?_; rintro e w2 ⟨p, rfl, ho⟩; have HO := Lib.hid ho; clear ho)
    | (go_at_call 15; with_reducible refine (new_ow2 HO.out).mono ?_; rintro e w3 ⟨q, rfl, ho⟩; have HO2 := Lib.hid ho; clear ho))
  clear e1 e2 e3 e4
  go_loopw [10] (fun v10 wr => ∃ i : Nat, v10 = .int .i64 (i : Int) ∧ i ≤ m ∧ Aside0 (Ow2 w wr p (l1.take i) q (l1.take i))) (fun v10 _ => m - (intOf v10).toNat)
  case atStart => exact ⟨0, rfl, by omega, ⟨HO2.out⟩⟩
  case round =>
    obtain ⟨i, rfl, hi, HI⟩ := hrel
    by_cases hlt : i < m
    · obtain ⟨ad, rfl, hca⟩ := cell_bool HRD1.out HI.out.a.bel i (by omega)
      have hcb : ∀ w2, Below w.heap.size w w2 → w2.cell? (ad.add i) = some (.bool (l1[i]'(by omega))) := by
        intro w2 hb
        obtain ⟨ad2, e, h2⟩ := cell_bool HRD1.out hb i (by omega)
        injection e with e
        subst e
        exact h2
      have HCB := Lib.hid hcb
      have hta : l1.take i ++ [l1[i]'(by omega)] = l1.take (i + 1) := List.take_append_getElem (by omega)
      generalize l1[i]'(by omega) = u at hca hta HCB
      have hl1 : (l1.take i).length = i := by rw [List.length_take]; omega
      have hi1 : insS (l1.take i) (i : Int) u = (true, l1.take (i + 1)) := by
        have := insS_end (l1.take i) u
        rw [hl1, hta] at this
        exact this
      have K1 := Lib.hid (ins_2 (i : Int) u true (l1.take (i + 1)) hi1 HI.out (by rw [hl1]; omega))
      have K2 := Lib.hid (fun w2 (h : Ow2 w w2 p (l1.take (i + 1)) q (l1.take i)) => ins_2b (i : Int) u true _ hi1 h (by rw [hl1]; omega))
      clear hcb hta hl1 hi1
      go_wp2_with (first
        | (go_at_call 16; with_reducible refine K1.out.mono ?_; rintro e w4 ⟨rfl, ho⟩; have H4 := Lib.hid ho; have hcx := HCB.out _ ho.a.bel; clear ho)
        | (go_at_call 16; with_reducible refine (K2.out _ H4.out).mono ?_; rintro e w5 ⟨rfl, ho⟩; have H5 := Lib.hid ho; clear ho))
      go_roundw
      case rel => exact ⟨i + 1, by go_num, by omega, ⟨H5.out⟩⟩
      case measure => simp [intOf]; omega
    · obtain rfl : m = i := by omega
      have ho := HI.out
      have hBl : (l1.take m).length = m := by rw [List.length_take]; omega
      obtain ⟨B, hB⟩ : ∃ B, l1.take m = B := ⟨_, rfl⟩
      rw [hB] at ho hBl
      have HO3 := Lib.hid ho
      have HBL := Lib.hid hBl
      clear ho hBl hB HI
      go_wp2
      go_loopw [11] (fun v11 wr => ∃ j : Nat, v11 = .int .i64 ((N : Int) - 1 - (j : Int)) ∧ j ≤ N ∧ Aside0 (Ow2 w wr p ((l.take N).drop (N - j) ++ B) q B)) (fun v11 _ => (intOf v11 + 1).toNat)
      case atStart => exact ⟨0, by simp, by omega, ⟨by rw [Nat.sub_zero, List.drop_of_length_le (by rw [List.length_take]; omega)]; exact HO3.out⟩⟩
      case round =>
        obtain ⟨j, rfl, hj, HI⟩ := hrel
        by_cases hlt2 : j < N
        · obtain ⟨k, hk⟩ : ∃ k : Nat, N - 1 - j = k := ⟨_, rfl⟩
          have hkI : (N : Int) - 1 - (j : Int) = (k : Int) := by omega
          rw [hkI]
          have hkl : k < l.length := by omega
          obtain ⟨ad, rfl, hca⟩ := cell_bool HRD.out HI.out.a.bel k hkl
          have hdr : l[k] :: (l.take N).drop (N - j) = (l.take N).drop (N - (j + 1)) := by
            have h : N - (j + 1) < (l.take N).length := by rw [List.length_take]; omega
            rw [List.drop_eq_getElem_cons h, List.getElem_take]
            have e : N - (j + 1) + 1 = N - j := by omega
            rw [e]
            congr 1
            congr 1
            omega
          generalize l[k] = u at hca hdr
          have hi1 : insS ((l.take N).drop (N - j) ++ B) 0 u = (true, (l.take N).drop (N - (j + 1)) ++ B) := by rw [insS_head, ← hdr]; rfl
          have hll : ((l.take N).drop (N - j) ++ B).length ≤ 1000000 := by
            have := HBL.out
            rw [List.length_append, List.length_drop, List.length_take]
            omega
          have K1 := Lib.hid (ins_2 0 u true _ hi1 HI.out hll)
          have HK := Lib.hid hk
          have HKI := Lib.hid hkI
          have hk9 : k ≤ 200 := by omega
          clear hdr hi1 hll hk hkI
          go_wp2_with (go_at_call 16; with_reducible refine K1.out.mono ?_; rintro e w4 ⟨rfl, ho⟩; have H4 := Lib.hid ho; clear ho)
          go_roundw
          case rel => exact ⟨j + 1, by have e := HKI.out; exact congrArg (Value.int .i64) (by omega), by omega, ⟨H4.out⟩⟩
          case measure => first | (simp [intOf]; done) | (simp [intOf]; omega)
        · obtain rfl : N = j := by omega
          have ho := HI.out
          rw [Nat.sub_self, List.drop_zero] at ho
          have hAl : (l.take N).length = N := by rw [List.length_take]; omega
          obtain ⟨M, hM⟩ : ∃ B, l.take N = B := ⟨_, rfl⟩
          rw [hM] at ho hAl
          have hv : (N : Int) - 1 - (N : Int) = -1 := by omega
          rw [hv]
          have hBs : B.length ≤ 1000000 := by have := HBL.out; omega
          have hABs : (M ++ B).length ≤ 1000000 := by rw [List.length_append]; have := HBL.out; omega
          have hr0 : rankS (M ++ B) (N : Int) = (cn M : Int) := by
            have := rank_app M B 0
            rw [hAl] at this
            simpa [rankS_neg] using this
          obtain ⟨cM, hcM⟩ : ∃ c, cn M = c := ⟨_, rfl⟩
          obtain ⟨cB, hcB⟩ : ∃ c, cn B = c := ⟨_, rfl⟩
          have hcM2 : cM ≤ 200 := by have := cn_le M; omega
          have hcB2 : cB ≤ 200 := by have := cn_le B; have := HBL.out; omega
          rw [hcM] at hr0
          have K1 := Lib.hid (rank_is (N : Int) (cM : Int) hr0 ho.a hABs)
          have HO4 := Lib.hid ho
          have HAL := Lib.hid hAl
          have HCM := Lib.hid hcM
          have HCB := Lib.hid hcB
          have HBS := Lib.hid hBs
          have HABS := Lib.hid hABs
          clear ho hAl hM hr0 hcM hcB hBs hABs HI hv
          go_wp2_with (go_at_call 18; with_reducible refine K1.out.mono ?_; rintro e w4 ⟨rfl, n4, hw4⟩; have H4 := Lib.hid (show Ow2 w w4 p (M ++ B) q B from by rw [hw4]; exact HO4.out.drewN n4); clear hw4)
          go_loopw [13] (fun v13 wr => ∃ i : Nat, v13 = .int .i64 (i : Int) ∧ i ≤ m + 1 ∧ Aside0 (Ow2 w wr p (M ++ B) q B)) (fun v13 _ => m + 1 - (intOf v13).toNat)
          case atStart => exact ⟨0, rfl, by omega, ⟨H4.out⟩⟩
          case round =>
            obtain ⟨i, rfl, hi, HI⟩ := hrel
            by_cases hlt3 : i ≤ m
            · have hra := rank_app M B i
              rw [HAL.out, HCM.out] at hra
              obtain ⟨rb, hrb⟩ : ∃ r, rankS B (i : Int) = r := ⟨_, rfl⟩
              rw [hrb] at hra
              have hrbb : 0 ≤ rb ∧ rb ≤ 200 := by
                rw [← hrb, rankS_nat]
                have h1 := cn_mono B i
                have h2 := HCB.out
                omega
              have K2 := Lib.hid (rank_is _ _ hra HI.out.a HABS.out)
              have K3 := Lib.hid (fun w2 (h : Ow2 w w2 p (M ++ B) q B) => rank_is (i : Int) rb hrb h.b HBS.out)
              clear hra hrb
              go_wp2_with (first
                | (go_at_call 18; with_reducible refine K2.out.mono ?_; rintro e w5 ⟨rfl, n5, hw5⟩; have H5 := Lib.hid (show Ow2 w w5 p (M ++ B) q B from by rw [hw5]; exact HI.out.drewN n5); clear hw5)
                | (go_at_call 18; with_reducible refine (K3.out _ H5.out).mono ?_; rintro e w6 ⟨rfl, n6, hw6⟩; have H6 := Lib.hid (show Ow2 w w6 p (M ++ B) q B from by rw [hw6]; exact H5.out.drewN n6); clear hw6))
              go_roundw
              case rel => exact ⟨i + 1, by go_num, by omega, ⟨H6.out⟩⟩
              case measure => simp [intOf]; omega
            · have HO5 := Lib.hid HI.out
              clear HI
              go_wp2
              go_loopw [14] (fun v14 wr => ∃ k : Nat, v14 = .int .i64 (k : Int) ∧ k ≤ cB ∧ Aside0 (Ow2 w wr p (M ++ B) q B)) (fun v14 _ => cB - (intOf v14).toNat)
              case atStart => exact ⟨0, rfl, by omega, ⟨HO5.out⟩⟩
              case round =>
                obtain ⟨k, rfl, hk, HI⟩ := hrel
                have K2 := Lib.hid (count_is (cB : Int) (by rw [HCB.out]) HI.out.b)
                by_cases hlt4 : k < cB
                · obtain ⟨i2, hi2, hs1, hs2⟩ := selS_app M B k (by rw [HCB.out]; exact hlt4)
                  rw [HAL.out, HCM.out] at hs1
                  have hi3 : i2 ≤ 200 := by have := HBL.out; omega
                  have K3 := Lib.hid (sel_is _ _ _ hs1 HI.out.a HABS.out)
                  have K4 := Lib.hid (fun w2 (h : Ow2 w w2 p (M ++ B) q B) => sel_is _ _ _ hs2 h.b HBS.out)
                  clear hs1 hs2 hi2
                  go_wp2_with (first
                    | (go_at_call 21; with_reducible refine K2.out.mono ?_; rintro e w5 ⟨rfl, rfl⟩)
                    | (go_at_call 20; with_reducible refine K3.out.mono ?_; rintro e w6 ⟨rfl, n6, hw6⟩; have H6 := Lib.hid (show Ow2 w w6 p (M ++ B) q B from by rw [hw6]; exact HI.out.drewN n6); clear hw6)
                    | (go_at_call 20; with_reducible refine (K4.out _ H6.out).mono ?_; rintro e w7 ⟨rfl, n7, hw7⟩; have H7 := Lib.hid (show Ow2 w w7 p (M ++ B) q B from by rw [hw7]; exact H6.out.drewN n7); clear hw7))
                  go_roundw
                  case rel => exact ⟨k + 1, by go_num, by omega, ⟨H7.out⟩⟩
                  case measure => simp [intOf]; omega
                · obtain rfl : cB = k := by omega
                  have Q1 := Lib.hid (fun n => len_q ((N : Int) + (m : Int)) (by rw [List.length_append, HAL.out, HBL.out]; simp) HI.out.a n)
                  have Q2 := Lib.hid (fun n => count_q ((cM : Int) + (cB : Int)) (by rw [cn_app, HCM.out, HCB.out]; simp) HI.out.a n)
                  have Q3 := Lib.hid (fun n => count_q (cB : Int) (by rw [HCB.out]) HI.out.b n)
                  have HO6 := Lib.hid HI.out
                  clear HI
                  go_wp2_with (go_at_call 21; with_reducible refine K2.out.mono ?_; rintro e w5 ⟨rfl, rfl⟩)
                  go_quiet ((first | (go_at_call 17; with_reducible exact Q1.out _) | (go_at_call 21; first | with_reducible exact Q2.out _ | with_reducible exact Q3.out _)))
                  go_wp2
                  go_ret
                  exact ⟨rfl, pw_below_drewN HO6.out.a.bel _⟩
end Go.Proofs.Ytbbiocmlicoipaa.PC
