/- IndexOrder comes to true. -/
import Derived.Test.YtbbiocmlicoipaaIX7
import Derived.Test.YtbbiocmlicoipaaIXO
namespace Go.Proofs.Ytbbiocmlicoipaa.PC
open Go.RowKit Go.Proofs.YtbbiocmlicoipaaW.PrintWords Go.Proofs.YtbbiocmlicoipaaW.PrintLast Go.Proofs.YtbbiocmlicoipaaW.PrintMore Go.Proofs.Ytbbiocmlicoipaa.K Go.Proofs.Ytbbiocmlicoipaa.IX Go.Proofs.Ytbbiocmlicoipaa.OpenS
attribute [local go_sem] max2_int min2_int max_two min_two max_three min_three max_four min_four
set_option linter.unusedVariables false
set_option linter.unusedSimpArgs false
theorem back_step (l : List Bool) (N i : Nat) (hN : N ≤ l.length) (hi : i < N) : (l.take N).drop (N - (i + 1)) = l[N - 1 - i]'(by omega) :: (l.take N).drop (N - i) := by
  have h : N - (i + 1) < (l.take N).length := by rw [List.length_take]; omega
  rw [List.drop_eq_getElem_cons h, List.getElem_take]
  have e : N - (i + 1) + 1 = N - i := by omega
  rw [e]
  have e2 : N - (i + 1) = N - 1 - i := by omega
  congr 1
  congr 1
set_option maxHeartbeats 4000000 in
set_option maxRecDepth 100000 in
theorem order13_row (A : Option Addr) (cap : Nat) (l : List Bool) (w : World) (hr : Kd.C Kd.bool w A l.length l) (hc : l.length ≤ cap) (hy : l.length * 1 ≤ 140737488351232) (hg : ∀ y ∈ l, True) :
    Calls Try.prog 4 #[.slice A l.length cap] w fun e w' => e = .returned (.bool true) ∧ Below w.heap.size w w' := by
  have HRD := Lib.hid hr
  obtain ⟨N, hN⟩ : ∃ N, min l.length 300 = N := ⟨_, rfl⟩
  have hN1 : N ≤ l.length := by omega
  have hN2 : N ≤ 300 := by omega
  have hm1 : (if (l.length : Int) < 300 then (l.length : Int) else 300) = (N : Int) := by split <;> omega
  have hm2 : (if (300 : Int) < (l.length : Int) then 300 else (l.length : Int)) = (N : Int) := by split <;> omega
  have HM1 := Lib.hid hm1
  have hlen : l.length ≤ 140737488351232 := by omega
  clear hr hg hy hN
  go_enter Try.func4, Try.ntmps4
  go_wp2_with (first
    | (go_at_call 14; refine (shown13_calls w).mono ?_; rintro e w1 ⟨rfl, hb⟩; have HB1 := Lib.hid hb; clear hb)
    | (go_at_call 15; with_reducible refine (new_ow HB1.out).mono ?_; rintro e w2 ⟨p, rfl, ho⟩; have HO := Lib.hid ho; clear ho)
    | (go_at_call 15; with_reducible refine (new_ow2 HO.out).mono ?_; rintro e w3 ⟨q, rfl, ho⟩; have HO2 := Lib.hid ho; clear ho))
  go_loopw [7] (fun v7 wr => ∃ i : Nat, v7 = .int .i64 (i : Int) ∧ i ≤ N ∧ Aside0 (Ow2 w wr p (l.take i) q ((l.take N).drop (N - i)))) (fun v7 _ => N - (intOf v7).toNat)
  case atStart => exact ⟨0, rfl, by omega, ⟨by rw [Nat.sub_zero, List.drop_of_length_le (by rw [List.length_take]; omega)]; exact HO2.out⟩⟩
  case round =>
    obtain ⟨i, rfl, hi, HI⟩ := hrel
    by_cases hlt : i < N
    · obtain ⟨ad, rfl, hca⟩ := cell_bool HRD.out HI.out.a.bel i (by omega)
      have hbs := back_step l N i hN1 hlt
      have hcb : ∀ w2, Below w.heap.size w w2 → w2.cell? (ad.add (N - 1 - i)) = some (.bool (l[N - 1 - i]'(by omega))) := by
        intro w2 hb
        obtain ⟨ad2, e, h2⟩ := cell_bool HRD.out hb (N - 1 - i) (by omega)
        injection e with e
        subst e
        exact h2
      have HCB := Lib.hid hcb
      have hta : l.take i ++ [l[i]'(by omega)] = l.take (i + 1) := List.take_append_getElem (by omega)
      generalize l[i]'(by omega) = u at hca hta
      generalize l[N - 1 - i]'(by omega) = u2 at hbs HCB
      have hl1 : (l.take i).length = i := by rw [List.length_take]; omega
      have hi1 : insS (l.take i) (i : Int) u = (true, l.take (i + 1)) := by
        have := insS_end (l.take i) u
        rw [hl1, hta] at this
        exact this
      have hi2 : insS ((l.take N).drop (N - i)) 0 u2 = (true, (l.take N).drop (N - (i + 1))) := by rw [insS_head, hbs]
      have K1 := Lib.hid (ins_2 (i : Int) u true (l.take (i + 1)) hi1 HI.out (by rw [hl1]; omega))
      have K2 := Lib.hid (fun w2 (h : Ow2 w w2 p (l.take (i + 1)) q ((l.take N).drop (N - i))) => ins_2b 0 u2 true _ hi2 h (by rw [List.length_drop, List.length_take]; omega))
      clear hbs hcb hta hl1 hi1 hi2
      go_wp2_with (first
        | (go_at_call 16; with_reducible refine K1.out.mono ?_; rintro e w4 ⟨rfl, ho⟩; have H4 := Lib.hid ho; have hcx := HCB.out _ ho.a.bel; clear ho)
        | (go_at_call 16; with_reducible refine (K2.out _ H4.out).mono ?_; rintro e w5 ⟨rfl, ho⟩; have H5 := Lib.hid ho; clear ho))
      go_roundw
      case rel => exact ⟨i + 1, by go_num, by omega, ⟨H5.out⟩⟩
      case measure => simp [intOf]; omega
    · obtain rfl : N = i := by omega
      have ho := HI.out
      rw [Nat.sub_self, List.drop_zero] at ho
      have hMl : (l.take N).length = N := by rw [List.length_take]; omega
      have hMg : ∀ k (h : k < N), (l.take N)[k]'(by omega) = l[k]'(by omega) := fun k h => List.getElem_take
      obtain ⟨M, hM⟩ : ∃ M, l.take N = M := ⟨_, rfl⟩
      have hget : ∀ k u, k < N → l[k]? = some u → seenS M (k : Int) = u := by
        intro k u hk hu
        rw [← hM, seenS_get _ _ (by omega), hMg k hk]
        rw [List.getElem?_eq_getElem (by omega)] at hu
        injection hu
      rw [hM] at ho hMl
      have HO3 := Lib.hid ho
      have HGET := Lib.hid hget
      have HML := Lib.hid hMl
      clear ho hget hMl hMg hM HI
      go_wp2
      go_loopw [8] (fun v8 wr => ∃ i : Nat, v8 = .int .i64 ((i : Int) - 1) ∧ i ≤ N + 2 ∧ Aside0 (Ow2 w wr p M q M)) (fun v8 _ => N + 2 - (intOf v8 + 1).toNat)
      case atStart => exact ⟨0, rfl, by omega, ⟨HO3.out⟩⟩
      case round =>
        obtain ⟨i, rfl, hi, HI⟩ := hrel
        have ho := HI.out
        obtain ⟨a, ha⟩ : ∃ a : Int, (i : Int) - 1 = a := ⟨_, rfl⟩
        rw [ha]
        have ha1 : -1 ≤ a := by omega
        have hMs : M.length ≤ 1000000 := by have := HML.out; omega
        have HA := Lib.hid ha
        have HMS := Lib.hid hMs
        clear ha hMs
        by_cases hle : a ≤ N
        · obtain ⟨s, b, hsb⟩ : ∃ s b, selS M a = (s, b) := ⟨_, _, rfl⟩
          obtain ⟨u, hu⟩ : ∃ u, seenS M a = u := ⟨_, rfl⟩
          obtain ⟨rk, hrk⟩ : ∃ r, rankS M a = r := ⟨_, rfl⟩
          have K1 := Lib.hid (sel_is a s b hsb ho.a HMS.out)
          have K2 := Lib.hid (fun w2 (h : Ow2 w w2 p M q M) => sel_is a s b hsb h.b HMS.out)
          have Q1 := Lib.hid (fun w2 (h : Ow2 w w2 p M q M) n => seen_q a u hu h.a HMS.out n)
          have Q2 := Lib.hid (fun w2 (h : Ow2 w w2 p M q M) n => seen_q a u hu h.b HMS.out n)
          have Q3 := Lib.hid (fun w2 (h : Ow2 w w2 p M q M) n => rank_q a rk hrk h.a HMS.out n)
          have Q4 := Lib.hid (fun w2 (h : Ow2 w w2 p M q M) n => rank_q a rk hrk h.b HMS.out n)
          have HU := Lib.hid hu
          clear hsb hrk ho
          have fin : ∀ wr2, Ow2 w wr2 p M q M → ∃ i2 : Nat, Value.int .i64 (a + 1) = .int .i64 ((i2 : Int) - 1) ∧ i2 ≤ N + 2 ∧ Aside0 (Ow2 w wr2 p M q M) := fun wr2 h => ⟨i + 1, by have := HA.out; congr 1; push_cast; omega, by have := HA.out; omega, ⟨h⟩⟩
          have HFIN := Lib.hid fin
          clear fin hu
          have hm : N + 2 - (a + 1 + 1).toNat < N + 2 - (a + 1).toNat := by have := HA.out; omega
          have HMEAS := Lib.hid hm
          clear hm
          by_cases h0 : 0 ≤ a
          · have hd1 : decide (0 ≤ a) = true := decide_eq_true h0
            by_cases h1 : a < N
            · have hd2 : decide (a < (N : Int)) = true := decide_eq_true h1
              obtain ⟨ad, rfl, hca⟩ := cell_bool HRD.out HI.out.a.bel a.toNat (by omega)
              have hlu : l[a.toNat]'(by omega) = u := by
                have := HGET.out a.toNat _ (by omega) (List.getElem?_eq_getElem (by omega))
                rw [Int.toNat_of_nonneg h0, HU.out] at this
                exact this.symm
              rw [hlu] at hca
              have HCA := Lib.hid (fun w2 (hb : Below w.heap.size w w2) => (show w2.cell? (ad.add a.toNat) = some (.bool u) by
                obtain ⟨ad2, e, h2⟩ := cell_bool HRD.out hb a.toNat (by omega)
                injection e with e
                subst e
                rw [hlu] at h2
                exact h2))
              clear hlu
              have hcl : a < (l.length : Int) := by omega
              go_wp2_with (first
                | (go_at_call 20; with_reducible refine K1.out.mono ?_; rintro e w4 ⟨rfl, n4, hw4⟩; have H4 := Lib.hid (show Ow2 w w4 p M q M from by rw [hw4]; exact HI.out.drewN n4); clear hw4)
                | (go_at_call 20; with_reducible refine (K2.out _ H4.out).mono ?_; rintro e w5 ⟨rfl, n5, hw5⟩; have H5 := Lib.hid (show Ow2 w w5 p M q M from by rw [hw5]; exact H4.out.drewN n5); have hcx := HCA.out _ H5.out.a.bel; clear hw5))
              go_quiet ((first | (go_at_call 19; first | with_reducible exact Q1.out _ H5.out _ | with_reducible exact Q2.out _ H5.out _) | (go_at_call 18; first | with_reducible exact Q3.out _ H5.out _ | with_reducible exact Q4.out _ H5.out _)))
              go_wp2
              go_roundw
              case rel => exact HFIN.out _ (H5.out.drewN _)
              case measure => simp only [intOf, Array.getD]; exact HMEAS.out
            · have hd2 : decide (a < (N : Int)) = false := decide_eq_false h1
              go_wp2_with (first
                | (go_at_call 20; with_reducible refine K1.out.mono ?_; rintro e w4 ⟨rfl, n4, hw4⟩; have H4 := Lib.hid (show Ow2 w w4 p M q M from by rw [hw4]; exact HI.out.drewN n4); clear hw4)
                | (go_at_call 20; with_reducible refine (K2.out _ H4.out).mono ?_; rintro e w5 ⟨rfl, n5, hw5⟩; have H5 := Lib.hid (show Ow2 w w5 p M q M from by rw [hw5]; exact H4.out.drewN n5); clear hw5))
              go_quiet ((first | (go_at_call 19; first | with_reducible exact Q1.out _ H5.out _ | with_reducible exact Q2.out _ H5.out _) | (go_at_call 18; first | with_reducible exact Q3.out _ H5.out _ | with_reducible exact Q4.out _ H5.out _)))
              go_wp2
              go_roundw
              case rel => exact HFIN.out _ (H5.out.drewN _)
              case measure => simp only [intOf, Array.getD]; exact HMEAS.out
          · have hd1 : decide (0 ≤ a) = false := decide_eq_false h0
            go_wp2_with (first
              | (go_at_call 20; with_reducible refine K1.out.mono ?_; rintro e w4 ⟨rfl, n4, hw4⟩; have H4 := Lib.hid (show Ow2 w w4 p M q M from by rw [hw4]; exact HI.out.drewN n4); clear hw4)
              | (go_at_call 20; with_reducible refine (K2.out _ H4.out).mono ?_; rintro e w5 ⟨rfl, n5, hw5⟩; have H5 := Lib.hid (show Ow2 w w5 p M q M from by rw [hw5]; exact H4.out.drewN n5); clear hw5))
            go_quiet ((first | (go_at_call 19; first | with_reducible exact Q1.out _ H5.out _ | with_reducible exact Q2.out _ H5.out _) | (go_at_call 18; first | with_reducible exact Q3.out _ H5.out _ | with_reducible exact Q4.out _ H5.out _)))
            go_wp2
            go_roundw
            case rel => exact HFIN.out _ (H5.out.drewN _)
            case measure => simp only [intOf, Array.getD]; exact HMEAS.out
        · have Q1 := Lib.hid (fun n => len_q (N : Int) (by rw [HML.out]) ho.a n)
          have Q2 := Lib.hid (fun n => len_q (N : Int) (by rw [HML.out]) ho.b n)
          have Q3 := Lib.hid (fun n => count_q (cn M : Int) rfl ho.a n)
          have Q4 := Lib.hid (fun n => count_q (cn M : Int) rfl ho.b n)
          have HO5 := Lib.hid ho
          clear ho
          go_wp2
          go_quiet ((first | (go_at_call 17; first | with_reducible exact Q1.out _ | with_reducible exact Q2.out _) | (go_at_call 21; first | with_reducible exact Q3.out _ | with_reducible exact Q4.out _)))
          go_wp2
          go_ret
          exact ⟨rfl, pw_below_drewN HO5.out.a.bel _⟩
end Go.Proofs.Ytbbiocmlicoipaa.PC
