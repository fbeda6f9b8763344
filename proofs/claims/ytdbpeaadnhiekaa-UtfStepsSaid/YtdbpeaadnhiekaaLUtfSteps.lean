/- The law UtfSteps answers true at every row of bytes, walked through its own text. -/
import Derived.Test.YtdbpeaadnhiekaaUD
namespace Go.Proofs.Ytdbpeaadnhiekaa.PU
open Go.RowKit Go.Proofs.YtdbpeaadnhiekaaW.PrintWords Go.Proofs.YtdbpeaadnhiekaaW.PrintLast Go.Proofs.YtdbpeaadnhiekaaW.PrintMore Go.Proofs.Ytdbpeaadnhiekaa.U
attribute [local go_sem] max2_int min2_int max_two min_two max_three min_three max_four min_four
set_option linter.unusedVariables false
set_option linter.unusedSimpArgs false
/-- What the loop keeps: what is read till now and what is left make what Decode tells. -/
def StInv (y s x : List Int) : Prop := byl x ∧ s.length + x.length ≤ 500 ∧ ((∃ d, okl d = true ∧ x = ebs d ∧ dec y = (s ++ d, 0)) ∨ (dec x = ([], 2) ∧ dec y = ([], 2)))
theorem st_start {y : List Int} (hy : byl y) (hl : y.length ≤ 500) : StInv y [] y := by
  refine ⟨hy, by simpa using hl, ?_⟩
  rcases dec_tells hy with ⟨d, h1, h2, h3⟩ | h
  · exact .inl ⟨d, h1, h2, by simpa using h3⟩
  · exact .inr ⟨h, h⟩
theorem st_nil {y s : List Int} (h : StInv y s []) : dec y = (s, 0) := by
  obtain ⟨_, _, h | h⟩ := h
  · obtain ⟨d, h1, h2, h3⟩ := h
    have : d = [] := by
      have := len_le_ebs d
      rw [← h2] at this
      exact List.eq_nil_of_length_eq_zero (by simpa using this)
    rw [h3, this, List.append_nil]
  · have := h.1
    simp [dec, decF] at this
theorem st_bad {y s x : List Int} (h : StInv y s x) (hx : x ≠ []) (hf : (fst x).2.2 ≠ 0) : dec y = ([], 2) ∧ (fst x = (0, 0, 2) ∨ fst x = (0, 0, 6)) := by
  obtain ⟨_, _, h | h⟩ := h
  · obtain ⟨d, h1, h2, h3⟩ := h
    cases d with
    | nil => exact absurd h2 hx
    | cons c d =>
      rw [okl_cons] at h1
      have := fst_eb h1.1 (ebs d)
      rw [h2] at hf
      exact absurd (by rw [show ebs (c :: d) = eb c ++ ebs d from rfl, this]) hf
  · refine ⟨h.2, ?_⟩
    rcases fst_tells x with g | g | g | ⟨g, _⟩
    · exact absurd g hf
    · exact .inl g
    · exact .inr g
    · exact absurd g hx
theorem st_step {y s x : List Int} (h : StInv y s x) (hf : (fst x).2.2 = 0) : ∃ n : Nat, (fst x).2.1 = (n : Int) ∧ sz (fst x).1 = (n : Int) ∧ 1 ≤ n ∧ n ≤ x.length ∧ n ≤ 4 ∧ StInv y (s ++ [(fst x).1]) (x.drop n) := by
  obtain ⟨hb, hl, h⟩ := h
  obtain ⟨k1, k2, r, k3⟩ := fst_ok hb hf
  have hs := sz_ok k1
  have he := eb_len (fst x).1
  have hlen : x.length = (eb (fst x).1).length + r.length := by
    have := congrArg List.length k3
    rw [List.length_append] at this
    exact this
  have hd : x.drop (eb (fst x).1).length = r := by
    conv => lhs; arg 2; rw [k3]
    rw [List.drop_left]
  refine ⟨(eb (fst x).1).length, by rw [k2, hs], hs, he.1, by omega, he.2, byl_drop hb _, ?_, ?_⟩
  · rw [List.length_append, List.length_drop, List.length_singleton]; omega
  · rw [hd]
    have hbr : byl r := by rw [← hd]; exact byl_drop hb _
    rcases h with ⟨d, h1, h2, h3⟩ | h
    · cases d with
      | nil =>
        rw [h2] at hf
        simp [ebs, fst] at hf
      | cons c d =>
        rw [okl_cons] at h1
        have e := fst_eb h1.1 (ebs d)
        have h2' : x = eb c ++ ebs d := h2
        rw [← h2'] at e
        have ec : (fst x).1 = c := by rw [e]
        refine .inl ⟨d, h1.2, ?_, by rw [h3, ec]; simp⟩
        rw [← hd, ec]
        conv => lhs; arg 2; rw [h2']
        rw [List.drop_left]
    · refine .inr ⟨?_, h.2⟩
      rcases dec_tells hbr with ⟨d, h1, h2, h3⟩ | h'
      · have : dec x = ((fst x).1 :: d, 0) := by
          have e : x = ebs ((fst x).1 :: d) := by rw [show ebs ((fst x).1 :: d) = eb (fst x).1 ++ ebs d from rfl, ← h2]; exact k3
          conv => lhs; rw [e]
          exact dec_ebs ((okl_cons _ _).2 ⟨k1, h1⟩)
        rw [h.1] at this
        simp at this
      · exact h'
set_option maxHeartbeats 4000000 in
set_option maxRecDepth 100000 in
theorem steps_calls (l0 : List Int) (hb0 : byl l0) (A0 : Option Addr) (c0 : Nat) (w : World) (hr0 : Kd.C (Kd.int .u8) w A0 l0.length l0) (hc0 : l0.length ≤ c0) :
    Calls Try.prog 8 #[.slice A0 l0.length c0] w fun e w' => e = .returned (.bool true) ∧ Below w.heap.size w w' := by
  obtain ⟨i5, hi5, _, hsz5, _⟩ := info_parts info5
  obtain ⟨j, hj⟩ : ∃ j : Int, mn (l0.length : Int) 500 = j := ⟨_, rfl⟩
  have hjl : (0 : Int) ≤ mn (l0.length : Int) 500 := cut_lo _ (by decide)
  have hjh := cut_hi l0.length 500
  have hjz := cut_le l0 (m := 500) (by decide)
  rw [hj] at hjl hjh hjz
  have hj_ : (if 500 < (l0.length : Int) then 500 else (l0.length : Int)) = j := hj
  obtain ⟨hcut0, hA0, hC0⟩ := print_take_of (P := Try.prog) (Value.int .u8) 0 23 5 .i64 Try.underlying23 hi5 hsz5 A0 c0 l0 j hjl hjh hc0
  have HR0 := Aside0.mk (Kd.C_of_reads (h1 := fun _ => rfl) (hA0 _ (Kd.reads_of_C hr0)))
  obtain ⟨y, hy⟩ : ∃ z : List Int, l0.take j.toNat = z := ⟨_, rfl⟩
  have hby : byl y := by rw [← hy]; exact byl_take hb0 _
  rw [hy] at hcut0 HR0 hC0 hjz
  clear hy hA0 hr0 hjl hjh hj
  have HC0 := Aside0.mk hC0
  have HS0 := Aside0.mk (st_start hby (by omega))
  have HY := Aside0.mk (show byl y ∧ y.length ≤ 500 from ⟨hby, by omega⟩)
  clear hC0 hjz hby hb0
  obtain ⟨q, eq, hde⟩ : ∃ q e, dec y = (q, e) := ⟨_, _, rfl⟩
  have HDE := Aside0.mk hde
  have HI5 := Aside0.mk hi5
  have HZ5 := Aside0.mk hsz5
  clear hde hi5 hsz5
  go_enter Try.func8, Try.ntmps8
  go_wp2_with (first
    | (go_at_call 11; refine (shown_calls _).mono ?_; rintro e w1 ⟨rfl, hb⟩; have HW1 := Aside0.mk hb; clear hb)
    | (go_at_call 16; have hE := dec_calls y HY.out.1 (by have := HY.out.2; omega) A0 c0 _ (Kd.C_below HR0.out HW1.out) HC0.out; rw [HDE.out] at hE; refine hE.mono ?_; clear hE; rintro e w2 ⟨v, rfl, ho, hb⟩; have HW2 := Aside0.mk (below_step HW1.out hb); obtain ⟨Aq, cq, eqq⟩ := Kd.R_slice ho; subst eqq; have HQ2 := Aside0.mk (Kd.R_bound (Kd.R_lower ho (below_size HW1.out))); clear hb ho))
  go_loopg [0, 6] y.length (fun kq v0 v6 w' => ∃ (A : Option Addr) (c : Nat) (x s : List Int), v0 = .slice A x.length c ∧ Aside0 (kq = x.length) ∧ Aside0 (StInv y s x) ∧ Aside0 (Kd.C (Kd.int .u8) w A x.length x) ∧ Aside0 (x.length ≤ c) ∧
    Aside0 (Kd.R (Kd.int .i32) 21 w' w.heap.size (fun k => True ∧ some k ≠ (v6 : Value).ownBlock) (.slice Aq q.length cq) q) ∧ Aside0 (Kd.R (Kd.int .i32) 21 w' w.heap.size (fun k => some k ≠ (Value.slice Aq q.length cq).ownBlock) v6 s) ∧ Aside0 (Below w.heap.size w w'))
  case atStart => exact ⟨A0, c0, y, [], rfl, ⟨rfl⟩, HS0, HR0, HC0, ⟨Kd.R_mono HQ2.out (fun k _ => ⟨trivial, by simp [Value.ownBlock]⟩)⟩, ⟨Kd.R_nil _ _ _ _ _⟩, HW2⟩
  case round =>
    obtain ⟨A, c, x, s, rfl, HK, HI, HX, HXC, HQ, HS, HB⟩ := hrel
    by_cases hx : x = []
    · have hd := st_nil (hx ▸ HI.out)
      rw [HDE.out] at hd
      simp only [Prod.mk.injEq] at hd
      obtain ⟨rfl, rfl⟩ := hd
      subst hx
      obtain ⟨As, cs, es⟩ := Kd.R_slice HS.out
      subst es
      go_wp2_with (go_at_call 18; have hE := same_calls q q (by have := HI.out.2.1; omega) As Aq cs cq _ (Kd.R_reads' HS.out).2.2 (Kd.R_reads' HS.out).2.1 (Kd.R_reads' HQ.out).2.2 (Kd.R_reads' HQ.out).2.1; rw [decide_eq_true rfl] at hE; refine hE.mono ?_; clear hE; rintro e w9 ⟨rfl, ⟨nd, rfl⟩⟩)
      go_ret
      exact ⟨rfl, pw_below_drewN HB.out nd⟩
    · have hlen : 0 < x.length := List.length_pos_iff.mpr hx
      have hl5 : x.length ≤ 500 := by have := HI.out.2.1; omega
      obtain ⟨ch, n, f, hf⟩ : ∃ ch n f, fst x = (ch, n, f) := ⟨_, _, _, rfl⟩
      have HF := Aside0.mk hf
      by_cases h0 : f = 0
      · subst h0
        obtain ⟨m, h1, h2, h3, h4, h5, h6⟩ := st_step HI.out (by rw [hf])
        rw [hf] at h1 h2 h6
        simp only at h1 h2 h6
        subst h1
        have HSZ := Aside0.mk h2
        have HI6 := Aside0.mk h6
        clear h2 h6 hf
        obtain ⟨Ad, hcut, hA, hC⟩ := print_drop_of (P := Try.prog) (Value.int .u8) 0 23 5 .i64 Try.underlying23 HI5.out HZ5.out A c x (m : Int) (by omega) (by omega) HXC.out
        rw [Int.toNat_natCast] at hcut hA hC
        obtain ⟨x', hx'⟩ : ∃ z, x.drop m = z := ⟨_, rfl⟩
        obtain ⟨c', hc'⟩ : ∃ z, c - m = z := ⟨_, rfl⟩
        rw [hx', hc'] at hcut
        rw [hx'] at hA
        rw [hx', hc'] at hC
        have HX' := Aside0.mk (Kd.C_of_reads (h1 := fun _ => rfl) (hA _ (Kd.reads_of_C HX.out)))
        have HXC' := Aside0.mk hC
        have HLX := Aside0.mk (show x'.length < x.length by rw [← hx', List.length_drop]; omega)
        rw [hx'] at HI6
        clear hA hC hx' hc' hx
        go_wp2_with (first
          | (go_at_call 14; have hE := first_calls x HI.out.1 (by omega) A c _ (Kd.C_below HX.out HB.out) HXC.out; rw [HF.out] at hE; refine hE.mono ?_; clear hE; rintro e w9 ⟨rfl, ⟨nd, rfl⟩⟩)
          | (go_at_call 19; have hE := size_calls ch; rw [HSZ.out] at hE; refine (hE _).mono ?_; clear hE; rintro e w9 ⟨rfl, ⟨nd, rfl⟩⟩)
          | ((with_reducible refine gate_builtin (b := .append) (xs := #[.tmp 55, .tmp 57]) rfl ?_); at_builtin; refine Kd.R_append (Kd.int .i32) (w0 := w) w.heap.size rfl (.tmp 55) (.tmp 57) 22 21 (.int .i32 0) 4 rfl Try.underlying22 info21 rfl (by decide) (by omega) _ s ch [.int .i32 ch] (fun k => some k ≠ (Value.slice Aq q.length cq).ownBlock) (fun _ => False) rfl rfl ?aP (fun _ hk => hk.elim) ?aF ?aO ?aB ?aS ?aL ?_; (case aP => exact rfl); (case aB => exact (by repeat (first | (with_reducible first | exact HB.out | apply below_alloc | apply pw_below_drewN | apply below_drew1) | exact HB.out))); (case aF => exact (fun k hk he => by have h1 := Kd.R_lt HQ.out k he.symm; have h2 : wr.heap.size ≤ k := hk; omega)); (case aO => exact (by (with_reducible repeat (first | apply Kd.R_alloc | apply Kd.R_drewN | apply Kd.R_drew)); exact HS.out)); (case aS => exact (below_size (by repeat (first | (with_reducible first | exact HB.out | apply below_alloc | apply pw_below_drewN | apply below_drew1) | exact HB.out)))); (case aL => have := HI.out.2.1; omega); intro v1 w7 ho hb hg hat; have HB7 := Aside0.mk hb; have HS7 := Aside0.mk ho; have HQ7 := Aside0.mk (Kd.R_after (by (with_reducible repeat (first | apply Kd.R_alloc | apply Kd.R_drewN | apply Kd.R_drew)); exact HQ.out) hg hat); clear ho hb hg hat))
        go_roundg x'.length
        case measure => have := HK.out; have := HLX.out; omega
        case rel => exact ⟨Ad, c', x', s ++ [ch], rfl, ⟨rfl⟩, HI6, HX', HXC', HQ7, HS7, HB7⟩
      · obtain ⟨hd, hf2⟩ := st_bad HI.out hx (by rw [hf]; exact h0)
        rw [HDE.out] at hd
        simp only [Prod.mk.injEq] at hd
        obtain ⟨rfl, rfl⟩ := hd
        rw [hf] at hf2
        simp only [Prod.mk.injEq] at hf2
        clear hx
        rcases hf2 with ⟨rfl, rfl, rfl⟩ | ⟨rfl, rfl, rfl⟩
        all_goals
          clear hf h0
          go_wp2_with (go_at_call 14; have hE := first_calls x HI.out.1 (by omega) A c _ (Kd.C_below HX.out HB.out) HXC.out; rw [HF.out] at hE; refine hE.mono ?_; clear hE; rintro e w9 ⟨rfl, ⟨nd, rfl⟩⟩)
          go_ret
          exact ⟨rfl, pw_below_drewN HB.out nd⟩
theorem steps_walk (a0 : Option Addr) (len0 cap0 : Nat) (z0 : List Int) (w : World) (w0 : (a0 = none ∧ len0 = 0 ∧ cap0 = 0 ∧ z0 = []) ∨ ∃ x, a0 = some x ∧ len0 ≤ cap0 ∧ cap0 ≤ maxLen ∧ z0.length = cap0 ∧ (∀ i, i < z0.length → w.cell? (x.add i) = some (.int .u8 (z0.getD i 0))) ∧ ∀ n ∈ z0, (Lit.int .u8 n).wf = true) (y0 : len0 * 1 ≤ 140737488351232) :
    Calls Try.prog 8 #[.slice a0 len0 cap0] w fun e w' => e = .returned (.bool true) ∧ Below w.heap.size w w' := by
  obtain ⟨l0, rfl, hr0, hm0, hw0, hc0⟩ := ReadsInt.ofRowC w0
  exact steps_calls l0 (byl_of hw0) a0 cap0 w (Kd.C_of_reads (d := (0 : Int)) (h1 := fun _ => rfl) hr0) hc0
end Go.Proofs.Ytdbpeaadnhiekaa.PU
