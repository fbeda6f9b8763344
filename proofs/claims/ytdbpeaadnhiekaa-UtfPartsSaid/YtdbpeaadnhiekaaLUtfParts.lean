/- The law UtfParts answers true at every row of characters and every place, walked through its own text. -/
import Derived.Test.YtdbpeaadnhiekaaUD
import Derived.Test.YtdbpeaadnhiekaaUPlain3
namespace Go.Proofs.Ytdbpeaadnhiekaa.PU
open Go.RowKit Go.Proofs.YtdbpeaadnhiekaaW.PrintWords Go.Proofs.YtdbpeaadnhiekaaW.PrintLast Go.Proofs.YtdbpeaadnhiekaaW.PrintMore Go.Proofs.Ytdbpeaadnhiekaa.U
attribute [local go_sem] max2_int min2_int max_two min_two max_three min_three max_four min_four
set_option linter.unusedVariables false
set_option linter.unusedSimpArgs false
theorem and1023 (x : Int) : 0 ≤ Go.bits .and .i64 x 1023 ∧ Go.bits .and .i64 x 1023 ≤ 1023 := by
  unfold Go.bits
  have h : (BitVec.ofInt 64 x &&& BitVec.ofInt 64 1023).toNat ≤ 1023 := by
    rw [BitVec.toNat_and]
    exact Nat.le_trans Nat.and_le_right (by decide)
  show 0 ≤ IntKind.i64.wrap (((BitVec.ofInt 64 x &&& BitVec.ofInt 64 1023).toNat : Nat) : Int) ∧ IntKind.i64.wrap (((BitVec.ofInt 64 x &&& BitVec.ofInt 64 1023).toNat : Nat) : Int) ≤ 1023
  rw [IntKind.wrap_i64]
  omega
set_option maxHeartbeats 4000000 in
set_option maxRecDepth 100000 in
theorem parts_calls (l0 : List Int) (A0 : Option Addr) (c0 : Nat) (x : Int) (w : World) (hr0 : Kd.C (Kd.int .i32) w A0 l0.length l0) (hc0 : l0.length ≤ c0) :
    Calls Try.prog 5 #[.slice A0 l0.length c0, .int .i64 x] w fun e w' => e = .returned (.bool true) ∧ Below w.heap.size w w' := by
  obtain ⟨i0, hi0, _, hsz0, _⟩ := info_parts info21
  obtain ⟨j, hj⟩ : ∃ j : Int, mn (l0.length : Int) 100 = j := ⟨_, rfl⟩
  have hjl : (0 : Int) ≤ mn (l0.length : Int) 100 := cut_lo _ (by decide)
  have hjh := cut_hi l0.length 100
  have hjz := cut_le l0 (m := 100) (by decide)
  rw [hj] at hjl hjh hjz
  have hj_ : (if 100 < (l0.length : Int) then 100 else (l0.length : Int)) = j := hj
  obtain ⟨hcut0, hA0, hC0⟩ := print_take_of (P := Try.prog) (Value.int .i32) 0 22 21 .i64 Try.underlying22 hi0 hsz0 A0 c0 l0 j hjl hjh hc0
  have HR0 := Aside0.mk (Kd.C_of_reads (h1 := fun _ => rfl) (hA0 _ (Kd.reads_of_C hr0)))
  obtain ⟨z, hz⟩ : ∃ z : List Int, l0.take j.toNat = z := ⟨_, rfl⟩
  rw [hz] at hcut0 HR0 hC0 hjz
  clear hz hA0 hr0 hjl hjh hj hi0 hsz0
  have HC0 := Aside0.mk hC0
  have HZ := Aside0.mk (show z.length ≤ 100 by omega)
  clear hC0 hjz
  by_cases hok : okl z = true
  · have he : encR z = (ebs z, 0) := encR_ok hok
    have HOK := Aside0.mk hok
    have HE := Aside0.mk he
    have hn : (ebs z).length ≤ 400 := by have := ebs_len_le z; have := HZ.out; omega
    have h1023 := and1023 x
    have hq0 : 0 ≤ Int.tmod (Go.bits .and .i64 x 1023) (((ebs z).length : Int) + 1) := Int.tmod_nonneg _ h1023.1
    have hq1 : Int.tmod (Go.bits .and .i64 x 1023) (((ebs z).length : Int) + 1) < ((ebs z).length : Int) + 1 := Int.tmod_lt_of_pos _ (by omega)
    obtain ⟨q, hq⟩ : ∃ q : Nat, Int.tmod (Go.bits .and .i64 x 1023) (((ebs z).length : Int) + 1) = (q : Int) := ⟨_, (Int.toNat_of_nonneg hq0).symm⟩
    rw [hq] at hq0 hq1
    obtain ⟨a1, a2, t, hsp, htl, ht3, htq, hdec1, hdec2⟩ := parts_cut hok q (by omega)
    have hok1 : okl a1 = true ∧ okl a2 = true := by rw [hsp, okl_append] at hok; exact hok
    obtain ⟨b, hb⟩ : ∃ b, ebs z = b := ⟨_, rfl⟩
    have hbl : byl b := by rw [← hb]; exact ebs_byl hok
    rw [hb] at he hn hq hq1 htl hdec1 hdec2
    obtain ⟨bp, hbp⟩ : ∃ y, b.take q = y := ⟨_, rfl⟩
    obtain ⟨b1, hb1⟩ : ∃ y, b.take (q - t) = y := ⟨_, rfl⟩
    obtain ⟨b2, hb2⟩ : ∃ y, b.drop (q - t) = y := ⟨_, rfl⟩
    have hlp : bp.length ≤ 400 ∧ byl bp := ⟨by rw [← hbp, List.length_take]; omega, by rw [← hbp]; exact byl_take hbl _⟩
    have hl1 : b1.length ≤ 400 ∧ byl b1 := ⟨by rw [← hb1, List.length_take]; omega, by rw [← hb1]; exact byl_take hbl _⟩
    have hl2 : b2.length ≤ 400 ∧ byl b2 := ⟨by rw [← hb2, List.length_drop]; omega, by rw [← hb2]; exact byl_drop hbl _⟩
    have hd1 : dec b1 = (a1, 0) := by rw [← hb1, hdec1]; exact dec_ebs hok1.1
    have hd2 : dec b2 = (a2, 0) := by rw [← hb2, hdec2]; exact dec_ebs hok1.2
    have htl' : tl bp = (t : Int) := by rw [← hbp]; exact htl
    have hal : a1.length + a2.length ≤ 100 := by have := HZ.out; rw [hsp, List.length_append] at this; exact this
    have hlen : b.length ≤ 400 := hn
    have HP := Aside0.mk hlp
    have H1 := Aside0.mk hl1
    have H2 := Aside0.mk hl2
    have HD1 := Aside0.mk hd1
    have HD2 := Aside0.mk hd2
    have HT := Aside0.mk htl'
    have HSP := Aside0.mk hsp
    have HAL := Aside0.mk hal
    have HBP := Aside0.mk hbp
    have HB1 := Aside0.mk hb1
    have HB2 := Aside0.mk hb2
    have HE := Aside0.mk he
    have HQ := Aside0.mk (show q ≤ b.length by omega)
    have HTQ := Aside0.mk (show t ≤ q ∧ t ≤ 3 from ⟨htq, ht3⟩)
    have hw1 : IntKind.i64.wrap ((b.length : Int) + 1) = (b.length : Int) + 1 := IntWalk.i64_in _ (by omega)
    have hz1 : (((b.length : Int) + 1) == 0) = false := by simp; omega
    have hz2 : ((b.length : Int) + 1 = 0) = False := by simp; omega
    clear hok he hq0 hq1 hsp htl hdec1 hdec2 hok1 hb hbl hbp hb1 hb2 hlp hl1 hl2 hd1 hd2 htl' hal hn h1023
    go_enter Try.func5, Try.ntmps5
    go_wp2_with (first
      | (go_at_call 11; refine (shown_calls _).mono ?_; rintro e w1 ⟨rfl, hb⟩; have HW1 := Aside0.mk hb; clear hb)
      | (go_at_call 12; have hE := enc_calls z (by have := HZ.out; omega) A0 c0 _ (Kd.C_below HR0.out HW1.out) HC0.out; rw [HE.out] at hE; refine hE.mono ?_; clear hE; rintro e w2 ⟨v, rfl, ho, hb⟩; have HW2 := Aside0.mk (below_step HW1.out hb);
          obtain ⟨Ab, cb, eb⟩ := Kd.R_slice ho; subst eb; have HO := Aside0.mk (Kd.R_lower ho (below_size HW1.out)); clear hb ho;
          obtain ⟨i5, hi5, _, hsz5, _⟩ := info_parts info5;
          obtain ⟨hcut1, hA1, hC1⟩ := print_take_of (P := Try.prog) (Value.int .u8) 0 23 5 .i64 Try.underlying23 hi5 hsz5 Ab cb b (q : Int) (by omega) (by have := HQ.out; omega) (Kd.R_reads' HO.out).2.1;
          rw [Int.toNat_natCast, HBP.out] at hcut1 hA1 hC1;
          obtain ⟨hcut2, hA2, hC2⟩ := print_take_of (P := Try.prog) (Value.int .u8) 0 23 5 .i64 Try.underlying23 hi5 hsz5 Ab cb b ((q : Int) - (t : Int)) (by have := HTQ.out; omega) (by have := HQ.out; omega) (Kd.R_reads' HO.out).2.1;
          rw [show ((q : Int) - (t : Int)).toNat = q - t by omega, HB1.out] at hcut2 hA2 hC2;
          obtain ⟨Ad, hcut3, hA3, hC3⟩ := print_drop_of (P := Try.prog) (Value.int .u8) 0 23 5 .i64 Try.underlying23 hi5 hsz5 Ab cb b ((q : Int) - (t : Int)) (by have := HTQ.out; omega) (by have := HQ.out; omega) (Kd.R_reads' HO.out).2.1;
          rw [show ((q : Int) - (t : Int)).toNat = q - t by omega, HB2.out] at hcut3 hA3 hC3;
          have HA1 := Aside0.mk hA1; have HA2 := Aside0.mk hA2; have HA3 := Aside0.mk hA3; have HC1 := Aside0.mk hC1; have HC2 := Aside0.mk hC2; have HC3 := Aside0.mk hC3;
          obtain ⟨cd, hcd⟩ : ∃ c, cb - (q - t) = c := ⟨_, rfl⟩; rw [hcd] at hcut3 HC3; clear hA1 hA2 hA3 hC1 hC2 hC3 hcd hi5 hsz5))
    have hE := tail_calls bp HP.out.2 (by have := HP.out.1; omega) Ab cb _ (Kd.C_of_reads (h1 := fun _ => rfl) (HA1.out _ (Kd.reads_of_C (Kd.R_reads' HO.out).2.2))) HC1.out
    rw [HT.out] at hE
    refine hE.mono ?_
    clear hE
    rintro e w3 ⟨rfl, hb⟩
    have HW3 := Aside0.mk (below_step HW2.out hb)
    have HO3 := Aside0.mk (Kd.R_below HO.out hb)
    clear hb
    have htq1 : (t : Int) ≤ (q : Int) := by (have := HTQ.out; omega)
    have htq3 : (t : Int) ≤ 3 := by (have := HTQ.out; omega)
    have hw2 : wrap64 ((q : Int) - (t : Int)) = (q : Int) - (t : Int) := wrap64_in (by have := HQ.out; omega) (by have := HQ.out; omega)
    have hw3 : IntKind.i64.wrap ((q : Int) - (t : Int)) = (q : Int) - (t : Int) := IntWalk.i64_in _ (by have := HQ.out; omega)
    have hqt : (0 : Int) ≤ (q : Int) - (t : Int) := by omega
    go_wp2_with (first
      | (go_at_call 16; have hE := dec_calls b1 H1.out.2 (by have := H1.out.1; omega) Ab cb _ (Kd.C_of_reads (h1 := fun _ => rfl) (HA2.out _ (Kd.reads_of_C (Kd.R_reads' HO3.out).2.2))) HC2.out; rw [HD1.out] at hE; (with_reducible refine hE.mono ?_); clear hE; rintro e w4 ⟨v, rfl, ho, hb⟩; have HW4 := Aside0.mk (below_step HW3.out hb); have HO4 := Aside0.mk (Kd.R_below HO3.out hb); obtain ⟨Ax, cx, ex⟩ := Kd.R_slice ho; subst ex; have HX4 := Aside0.mk (Kd.R_lower ho (below_size HW3.out)); clear hb ho)
      | (go_at_call 16; have hE := dec_calls b2 H2.out.2 (by have := H2.out.1; omega) Ad cd _ (Kd.C_of_reads (h1 := fun _ => rfl) (HA3.out _ (Kd.reads_of_C (Kd.R_reads' HO4.out).2.2))) HC3.out; rw [HD2.out] at hE; (with_reducible refine hE.mono ?_); clear hE; rintro e w5 ⟨v, rfl, ho, hb⟩; have HW5 := Aside0.mk (below_step HW4.out hb); have HX5 := Aside0.mk (Kd.R_below HX4.out hb); obtain ⟨Ay, cy, ey⟩ := Kd.R_slice ho; subst ey; have HY5 := Aside0.mk (Kd.R_lower ho (below_size HW4.out)); clear hb ho)
      | ((with_reducible refine gate_dst (N := 68) rfl ?_); refine Kd.R_lit (Kd.int .i32) _ 21 ?hg (N := 68) ?hd (xs := ([] : List Int)) (inner := []) (ok := fun _ => True) (okp := fun _ => True) ?hr ?hp (fun _ hk => hk) trivial (Below.refl _ _) (Nat.le_refl _) (by simp) ?_; (case hd => rfl); (case hg => rfl); (case hr => first | (go_simp; done) | (go_simp; rfl)); (case hp => exact (Reps.none _ _)); intro v6 w6 ho6 hb hg_ hnew_; have HW6 := Aside0.mk (below_step HW5.out hb); have HX6 := Aside0.mk (Kd.R_below HX5.out hb); have HY6 := Aside0.mk (Kd.R_elder' HY5.out (fun k hk => by obtain ⟨b', e', h'⟩ := hnew_; rw [e'] at hk; injection hk with hk; omega) hb); have HL6 := Aside0.mk (Kd.R_lower ho6 (below_size HW5.out)); clear hb hg_ hnew_ ho6)
      | ((with_reducible refine gate_builtin (b := .append) (xs := #[.tmp 68, .tmp 69]) rfl ?_); at_builtin; refine Kd.R_append_rows (Kd.int .i32) (w0 := w) w.heap.size rfl (.tmp 68) (.tmp 69) 22 21 (.int .i32 0) 4 rfl Try.underlying22 info21 rfl (by decide) (by omega) v6 [] a1 _ _ _ (fun _ => True) (fun _ => False) rfl rfl ?aO ?aR (fun _ _ h => h) (fun _ h => h.elim) ?aF ?aB ?aS ?aL ?_; (case aR => exact (Kd.R_reads' HX6.out).2.2); (case aB => exact HW6.out); (case aF => exact (fun _ _ => trivial)); (case aO => exact HL6.out); (case aS => exact below_size HW6.out); (case aL => have := HAL.out; simp only [List.length_nil]; omega); intro v7 w7 ho7 hb hg hat; have HW7 := Aside0.mk hb; have HY7 := Aside0.mk (Kd.R_grown HY6.out hg (fun k hk => hk.2)); have HL7 := Aside0.mk ho7; clear hb hg hat ho7)
      | ((with_reducible refine gate_builtin (b := .append) (xs := #[.tmp 70, .tmp 71]) rfl ?_); at_builtin; refine Kd.R_append_rows (Kd.int .i32) (w0 := w) w.heap.size rfl (.tmp 70) (.tmp 71) 22 21 (.int .i32 0) 4 rfl Try.underlying22 info21 rfl (by decide) (by omega) v7 ([] ++ a1) a2 _ _ _ (fun _ => True) (fun _ => False) rfl rfl ?aO ?aR (fun _ _ h => h) (fun _ h => h.elim) ?aF ?aB ?aS ?aL ?_; (case aR => exact (Kd.R_reads' HY7.out).2.2); (case aB => exact HW7.out); (case aF => exact (fun _ _ => trivial)); (case aO => exact HL7.out); (case aS => exact below_size HW7.out); (case aL => have := HAL.out; rw [List.nil_append]; omega); intro v8 w8 ho8 hb hg hat; have HW8 := Aside0.mk hb; rw [List.nil_append, ← HSP.out] at ho8; obtain ⟨A8, c8, e8⟩ := Kd.R_slice ho8; subst e8; have HL8 := Aside0.mk ho8; clear hb hg hat ho8)
      | (go_at_call 18; have hE := same_calls z z (by have := HZ.out; omega) A8 A0 c8 c0 _ (Kd.R_reads' HL8.out).2.2 (Kd.R_reads' HL8.out).2.1 (Kd.C_below HR0.out HW8.out) HC0.out; rw [decide_eq_true rfl] at hE; refine hE.mono ?_; clear hE; rintro e w9 ⟨rfl, ⟨nd, rfl⟩⟩))
    go_ret
    exact ⟨rfl, pw_below_drewN HW8.out nd⟩
  · have he : encR z = ([], 1) := encR_no hok
    have HE := Aside0.mk he
    clear hok he
    go_enter Try.func5, Try.ntmps5
    go_wp2_with (first
      | (go_at_call 11; refine (shown_calls _).mono ?_; rintro e w1 ⟨rfl, hb⟩; have HB1 := Aside0.mk hb; clear hb)
      | (go_at_call 12; have hE := enc_calls z (by have := HZ.out; omega) A0 c0 _ (Kd.C_below HR0.out HB1.out) HC0.out; rw [HE.out] at hE; refine hE.mono ?_; clear hE; rintro e w2 ⟨v, rfl, ho, hb⟩; have HB2 := Aside0.mk (below_step HB1.out hb); clear hb ho))
    go_ret
    exact ⟨rfl, HB2.out⟩
theorem parts_walk (a0 : Option Addr) (len0 cap0 : Nat) (z0 : List Int) (x : Int) (w : World) (w0 : (a0 = none ∧ len0 = 0 ∧ cap0 = 0 ∧ z0 = []) ∨ ∃ x, a0 = some x ∧ len0 ≤ cap0 ∧ cap0 ≤ maxLen ∧ z0.length = cap0 ∧ (∀ i, i < z0.length → w.cell? (x.add i) = some (.int .i32 (z0.getD i 0))) ∧ ∀ n ∈ z0, (Lit.int .i32 n).wf = true) (y0 : len0 * 4 ≤ 140737488351232) (w1 : (Lit.int .i64 x).wf = true) :
    Calls Try.prog 5 #[.slice a0 len0 cap0, .int .i64 x] w fun e w' => e = .returned (.bool true) ∧ Below w.heap.size w w' := by
  obtain ⟨l0, rfl, hr0, hm0, hw0, hc0⟩ := ReadsInt.ofRowC w0
  exact parts_calls l0 a0 cap0 x w (Kd.C_of_reads (d := (0 : Int)) (h1 := fun _ => rfl) hr0) hc0
end Go.Proofs.Ytdbpeaadnhiekaa.PU
