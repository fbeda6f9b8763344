/- IndexPlays comes to true. -/
import Derived.Test.YtbbiocmlicoipaaIX8
import Derived.Test.YtbbiocmlicoipaaIXO
import Derived.Deep.RegionWith
import Derived.Deep.RegionHeld3
import Derived.Deep.CutRange
import Derived.Deep.DeepCutAuto
namespace Go.Proofs.Ytbbiocmlicoipaa.PC
open Go.RowKit Go.Proofs.YtbbiocmlicoipaaW.PrintWords Go.Proofs.YtbbiocmlicoipaaW.PrintLast Go.Proofs.YtbbiocmlicoipaaW.PrintMore Go.Proofs.Ytbbiocmlicoipaa.K Go.Proofs.Ytbbiocmlicoipaa.IX Go.Proofs.Ytbbiocmlicoipaa.OpenS
attribute [local go_sem] max2_int min2_int max_two min_two max_three min_three max_four min_four
set_option linter.unusedVariables false
set_option linter.unusedSimpArgs false
theorem Ow4.step {w0 w : World} {p q b t : Nat} {ms ns : List Bool} {v0 v1 v2 : Value} (h : Ow4 w0 w p ms q ns b (.cells #[v0, v1, v2] t (0, 0))) : w.cell? ⟨b, 0, none⟩ = some v0 ∧ w.cell? ⟨b, 1, none⟩ = some v1 ∧ w.cell? ⟨b, 2, none⟩ = some v2 :=
  ⟨(cell_of h.blk 0).trans rfl, (cell_of h.blk 1).trans rfl, (cell_of h.blk 2).trans rfl⟩
theorem seenS_out (ms : List Bool) (x : Int) (h : x < 0 ∨ (ms.length : Int) ≤ x) : seenS ms x = false := by
  unfold seenS
  by_cases hx : 0 ≤ x
  · rw [List.getD_eq_getElem?_getD, List.getElem?_eq_none (by omega)]
    simp
  · simp [hx]
theorem seenS_some (ms : List Bool) (i : Nat) (h : i < ms.length) : ms[i]? = some (seenS ms (i : Int)) := by
  rw [seenS_get ms i h]
  exact List.getElem?_eq_getElem h
set_option maxHeartbeats 4000000 in
set_option maxRecDepth 100000 in
theorem plays13_row (A : Option Addr) (cap : Nat) (l : List Stp) (w : World) (hr : ReadsRow (fun s c => c = fS s) 3 w A l.length l) (hc : l.length ≤ cap) (hy : l.length * 16 ≤ 140737488351232) (hg : ∀ y ∈ l, (Lit.int .i64 y.at_).wf = true) :
    Calls Try.prog 6 #[.slice A l.length cap] w fun e w' => e = .returned (.bool true) ∧ Below w.heap.size w w' := by
  have HRD := Lib.hid hr
  have HG := Lib.hid (fun i (h : i < l.length) => show -9223372036854775808 ≤ l[i].at_ ∧ l[i].at_ ≤ 9223372036854775807 from bounds_i64 (hg _ (List.getElem_mem h)))
  obtain ⟨N, hN⟩ : ∃ N, min l.length 500 = N := ⟨_, rfl⟩
  have hN1 : N ≤ l.length := by omega
  have hN2 : N ≤ 500 := by omega
  have hN3 : l.length ≤ N ∨ N = 500 := by omega
  have hlen : l.length ≤ 140737488351232 := by omega
  have HN3 := Lib.hid hN3
  clear hr hg hy hN hN3
  go_enter Try.func6, Try.ntmps6
  go_wp2_with (first
    | (go_at_call 14; refine (shown13_calls w).mono ?_; rintro e w1 ⟨rfl, hb⟩; have HB1 := Lib.hid hb; clear hb)
    | (go_at_call 15; with_reducible refine (new_ow HB1.out).mono ?_; rintro e w2 ⟨p, rfl, ho⟩; have HO := Lib.hid (row_new ho); clear ho))
  go_loopg [6] N (fun kq v6 wr => ∃ (i : Nat) (ms : List Bool), v6 = .int .i64 (i : Int) ∧ Aside0 (kq + i = N ∧ ms.length ≤ i ∧ Ow3 w wr p ms w2.heap.size ms))
  case atStart => exact ⟨0, [], rfl, by omega, Nat.le_refl _, HO.out⟩
  case round =>
    obtain ⟨i, ms, rfl, HI⟩ := hrel
    have hki := HI.out.1
    by_cases hlt : i < N
    · have hil : i < l.length := by omega
      obtain ⟨ad, rfl, hc0, hc1, hc2⟩ := cell_step HRD.out HI.out.2.2.a.bel i hil
      have hwx := HG.out i hil
      generalize l[i].at_ = x at hc0 hwx
      generalize l[i].seen = u at hc1
      generalize l[i].set_ = t at hc2
      have HLM := Lib.hid (show ms.length ≤ 500 by have := HI.out.2.1; omega)
      have HO2 := Lib.hid (HI.out.2.2.with_ ((Below.refl _ wr).alloc (Nat.le_refl _) (.cells #[.int .i64 x, .bool u, .bool t] 28)) (Nat.le_refl _) (heap_new wr (.cells #[.int .i64 x, .bool u, .bool t] 28)))
      have HO3 := Lib.hid (show Ow4 w (wr.alloc (.cells #[.int .i64 x, .bool u, .bool t] 28)).drew p ms w2.heap.size ms wr.heap.size (.cells #[.int .i64 x, .bool u, .bool t] 28) from HO2.out.drewN 1)
      go_upto_if 43 with fail
      go_cut [] from 28 to 159 (fun wx => ∃ ms' : List Bool, Aside0 (ms'.length ≤ i + 1 ∧ Ow4 w wx p ms' w2.heap.size ms' wr.heap.size (.cells #[.int .i64 x, .bool u, .bool t] 28)))
      case first =>
        cases t with
        | true =>
          obtain ⟨r, ms', e⟩ : ∃ r ms', setS ms x u = (r, ms') := ⟨_, _, rfl⟩
          have hl : ms'.length ≤ ms.length + 1 := by
            have := setS_len ms x u
            rw [e] at this
            have this : ms'.length = ms.length := this
            omega
          have HL := Lib.hid hl
          have K1 := Lib.hid (fun w3 b o (h : Ow4 w w3 p ms w2.heap.size ms b o) => set_4 x u r ms' e h (by have := HLM.out; omega))
          have K2 := Lib.hid (fun w3 b o (h : Ow4 w w3 p ms' w2.heap.size ms b o) => rset_4 x u r ms' e h (by have := HLM.out; omega))
          have HS0 := Lib.hid (And.intro HO3.out.step.1 HO3.out.step.2.1)
          clear e hl
          go_wp2
          go_region_held3 (fun W => W.cell? ⟨wr.heap.size, 0, none⟩ = some (.int .i64 x) ∧ W.cell? ⟨wr.heap.size, 1, none⟩ = some (.bool u)) ((first | exact HS0.out | exact HS4.out | exact HS5.out)) (first
            | (go_at_call 22; with_reducible refine (K1.out _ _ _ HO3.out).mono ?_; rintro e w4 ⟨rfl, ho⟩; have H4 := Lib.hid ho; have HS4 := Lib.hid (And.intro ho.step.1 ho.step.2.1); clear ho)
            | (go_at_call 23; with_reducible refine (K2.out _ _ _ H4.out).mono ?_; rintro e w5 ⟨rfl, ho⟩; have H5 := Lib.hid ho; have HS5 := Lib.hid (And.intro ho.step.1 ho.step.2.1); clear ho))
          go_wp2
          go_meet
          exact ⟨ms', ⟨by have := HL.out; have := HI.out.2.1; omega, H5.out⟩⟩
        | false =>
          obtain ⟨r, ms', e⟩ : ∃ r ms', insS ms x u = (r, ms') := ⟨_, _, rfl⟩
          have hl : ms'.length ≤ ms.length + 1 := by
            have := insS_len ms x u
            rw [e] at this
            exact this
          have HL := Lib.hid hl
          have K1 := Lib.hid (fun w3 b o (h : Ow4 w w3 p ms w2.heap.size ms b o) => ins_4 x u r ms' e h (by have := HLM.out; omega))
          have K2 := Lib.hid (fun w3 b o (h : Ow4 w w3 p ms' w2.heap.size ms b o) => rins_4 x u r ms' e h (by have := HLM.out; omega))
          have HS0 := Lib.hid (And.intro HO3.out.step.1 HO3.out.step.2.1)
          clear e hl
          go_wp2
          go_region_held3 (fun W => W.cell? ⟨wr.heap.size, 0, none⟩ = some (.int .i64 x) ∧ W.cell? ⟨wr.heap.size, 1, none⟩ = some (.bool u)) ((first | exact HS0.out | exact HS4.out | exact HS5.out)) (first
            | (go_at_call 16; with_reducible refine (K1.out _ _ _ HO3.out).mono ?_; rintro e w4 ⟨rfl, ho⟩; have H4 := Lib.hid ho; have HS4 := Lib.hid (And.intro ho.step.1 ho.step.2.1); clear ho)
            | (go_at_call 24; with_reducible refine (K2.out _ _ _ H4.out).mono ?_; rintro e w5 ⟨rfl, ho⟩; have H5 := Lib.hid ho; have HS5 := Lib.hid (And.intro ho.step.1 ho.step.2.1); clear ho))
          go_wp2
          go_meet
          exact ⟨ms', ⟨by have := HL.out; have := HI.out.2.1; omega, H5.out⟩⟩
      case rest =>
        obtain ⟨W6, rfl⟩ : ∃ W6 : World, W6 = wc := ⟨_, rfl⟩
        obtain ⟨ms', HC⟩ := hcut
        have HM := Lib.hid (show ms'.length ≤ 1000000 by have := HC.out.1; omega)
        obtain ⟨r3, b3, e3⟩ : ∃ r b, selS ms' x = (r, b) := ⟨_, _, rfl⟩
        obtain ⟨r4, e4⟩ : ∃ r, rankS ms' x = r := ⟨_, rfl⟩
        obtain ⟨r5, e5⟩ : ∃ r, (cn ms' : Int) = r := ⟨_, rfl⟩
        obtain ⟨r6, e6⟩ : ∃ r, seenS ms' x = r := ⟨_, rfl⟩
        have K3 := Lib.hid (fun w3 (h : Ow w w3 p ms') => sel_is x r3 b3 e3 h HM.out)
        have K4 := Lib.hid (fun w3 (h : Ow3 w w3 p ms' w2.heap.size ms') => rsel_is x r3 b3 e3 h HM.out hwx)
        have K5 := Lib.hid (fun w3 (h : Ow w w3 p ms') => rank_q x r4 e4 h HM.out)
        have K6 := Lib.hid (fun w3 (h : Ow3 w w3 p ms' w2.heap.size ms') => rrank_q x r4 e4 h HM.out)
        have K7 := Lib.hid (fun w3 (h : Ow w w3 p ms') => seen_q x r6 e6 h HM.out)
        have K8 := Lib.hid (fun w3 (h : Ow w w3 p ms') => len_q (ms'.length : Int) rfl h)
        have K9 := Lib.hid (fun w3 (h : Ow w w3 p ms') => count_q r5 e5 h)
        have K10 := Lib.hid (fun w3 (h : Ow3 w w3 p ms' w2.heap.size ms') => rrank_q (ms'.length : Int) r5 (by rw [rankS_all _ _ (Int.le_refl _)]; exact e5) h HM.out)
        have H6 := Lib.hid e6
        obtain ⟨s0, s1, s2⟩ := HC.out.2.step
        clear e3 e4 e5 e6
        go_upto_region 17 with (first
          | (go_at_call 20; with_reducible refine (K3.out _ HC.out.2.fst.a).mono ?_; rintro e w7 ⟨rfl, n7, hw7⟩; have H7 := Lib.hid (show Ow4 w w7 p ms' w2.heap.size ms' wr.heap.size _ from by rw [hw7]; exact HC.out.2.drewN n7); have t0 := H7.out.step.1; clear hw7)
          | (go_at_call 25; with_reducible refine (K4.out _ H7.out.fst).mono ?_; rintro e w8 ⟨rfl, rfl⟩))
        go_cut [12] from 28 to 159 (fun v12 wx => v12 = .bool r6 ∧ Aside0 (Ow4 w wx p ms' w2.heap.size ms' wr.heap.size (.cells #[.int .i64 x, .bool u, .bool t] 28)))
        case first =>
          by_cases h0 : 0 ≤ x
          · obtain ⟨n, rfl⟩ : ∃ n : Nat, x = n := ⟨x.toNat, by omega⟩
            by_cases h1 : n < ms'.length
            · obtain ⟨g, cap2, c1, c2, cq, cm⟩ := H7.out.fst.mark (seenS_some ms' n h1)
              rw [H6.out] at cm
              have d2 : decide ((n : Int) < (ms'.length : Int)) = true := by simpa using h1
              go_quiet (fail)
              go_wp2
              go_meet
              exact ⟨rfl, ⟨H7.out.drewN _⟩⟩
            · obtain ⟨A2, cap2, c1, c2, cq⟩ := H7.out.fst.head
              have d2 : decide ((n : Int) < (ms'.length : Int)) = false := by simpa using h1
              have h2 : ms'.length ≤ n := by omega
              have HZ := Lib.hid (show false = r6 by rw [← H6.out, seenS_out _ _ (.inr (by omega))])
              go_quiet (fail)
              go_wp2
              go_meet
              exact ⟨by rw [← HZ.out], ⟨H7.out.drewN _⟩⟩
          · have h2 : x < 0 := by omega
            have d1 : decide (0 ≤ x) = false := by simpa using h2
            have HZ := Lib.hid (show false = r6 by rw [← H6.out, seenS_out _ _ (.inl h2)])
            go_quiet (fail)
            go_wp2
            go_meet
            exact ⟨by rw [← HZ.out], ⟨H7.out.drewN _⟩⟩
        case rest =>
          obtain ⟨W8, rfl⟩ : ∃ W8 : World, W8 = wc := ⟨_, rfl⟩
          obtain ⟨rfl, H8⟩ := hcut
          obtain ⟨q0, q1, q2⟩ := H8.out.step
          obtain ⟨A3, cap3, c3, c4, cq3⟩ := H8.out.fst.head
          have H9 := Lib.hid H8.out.fst
          have H10 := Lib.hid H8.out.fst.a
          clear s0 s1 s2 t0 hwx
          go_upto_region 18 with fail
          go_quiet ((first | (go_at_call 18; with_reducible exact K5.out _ H10.out _) | (go_at_call 26; first | with_reducible exact K6.out _ H9.out _ | with_reducible exact K10.out _ H9.out _) | (go_at_call 19; with_reducible exact K7.out _ H10.out _) | (go_at_call 17; with_reducible exact K8.out _ H10.out _) | (go_at_call 21; with_reducible exact K9.out _ H10.out _)))
          go_wp2
          go_roundg (N - (i + 1))
          case measure => have := HI.out.1; omega
          case rel => exact ⟨i + 1, ms', by go_num, ⟨by have := HI.out.1; omega, HC.out.1, H9.out.drewN _⟩⟩
    · obtain rfl : N = i := by omega
      have hM := HI.out.2.1
      have HM := Lib.hid (show ms.length ≤ 1000000 by omega)
      have ho := HI.out.2.2
      have hM5 : ms.length ≤ 500 := by omega
      obtain ⟨M, hMe⟩ : ∃ M, ms.length = M := ⟨_, rfl⟩
      have HMe := Lib.hid hMe
      rw [hMe] at hM5
      have hstop : (¬ (N : Int) < (l.length : Int)) ∨ ((N : Int) < (l.length : Int) ∧ ¬ (N : Int) < 500) := by have := HN3.out; omega
      have HO4 := Lib.hid ho
      clear hM ho HI hki hMe
      rcases hstop with h1 | ⟨h1, h2⟩
      all_goals
        go_wp2
        go_loopg [13] (M + 1) (fun kq v13 wq => ∃ j : Nat, v13 = .int .i64 (j : Int) ∧ Aside0 (kq + j = M + 1 ∧ Ow3 w wq p ms w2.heap.size ms))
        case atStart => exact ⟨0, rfl, by omega, HO4.out⟩
        case round =>
          obtain ⟨j, rfl, HJ⟩ := hrel
          obtain ⟨A3, cap3, c3, c4, cq3⟩ := HJ.out.2.head
          rw [HMe.out] at cq3 c3
          have hjM : j ≤ M + 1 := by have := HJ.out.1; omega
          by_cases hlt2 : j ≤ M
          · obtain ⟨r3, b3, e3⟩ : ∃ r b, selS ms (j : Int) = (r, b) := ⟨_, _, rfl⟩
            obtain ⟨r4, e4⟩ : ∃ r, rankS ms (j : Int) = r := ⟨_, rfl⟩
            have K3 := Lib.hid (fun w3 (h : Ow w w3 p ms) => sel_is (j : Int) r3 b3 e3 h HM.out)
            have K4 := Lib.hid (fun w3 (h : Ow3 w w3 p ms w2.heap.size ms) => rsel_is (j : Int) r3 b3 e3 h HM.out (by omega))
            have K5 := Lib.hid (fun w3 (h : Ow w w3 p ms) => rank_is (j : Int) r4 e4 h HM.out)
            have K6 := Lib.hid (fun w3 (h : Ow3 w w3 p ms w2.heap.size ms) => rrank_is (j : Int) r4 e4 h HM.out)
            clear e3 e4
            go_wp2_with (first
              | (go_at_call 20; with_reducible refine (K3.out _ HJ.out.2.a).mono ?_; rintro e w7 ⟨rfl, n7, hw7⟩; have H7 := Lib.hid (show Ow3 w w7 p ms w2.heap.size ms from by rw [hw7]; exact HJ.out.2.drewN n7); clear hw7)
              | (go_at_call 25; with_reducible refine (K4.out _ H7.out).mono ?_; rintro e w8 ⟨rfl, rfl⟩; have H8 := Lib.hid H7.out.a)
              | (go_at_call 18; with_reducible refine (K5.out _ H8.out).mono ?_; rintro e w9 ⟨rfl, n9, hw9⟩; have H9 := Lib.hid (show Ow3 w w9 p ms w2.heap.size ms from by rw [hw9]; exact H7.out.drewN n9); clear hw9)
              | (go_at_call 26; with_reducible refine (K6.out _ H9.out).mono ?_; rintro e w10 ⟨rfl, rfl⟩))
            go_roundg (M - j)
            case measure => have := HJ.out.1; omega
            case rel => exact ⟨j + 1, by go_num, ⟨by have := HJ.out.1; omega, H9.out⟩⟩
          · have h3 : M < j := by omega
            have H8 := Lib.hid HJ.out.2.a
            go_wp2
            go_ret
            exact ⟨rfl, H8.out.bel⟩
end Go.Proofs.Ytbbiocmlicoipaa.PC
