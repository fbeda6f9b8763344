/- index.Len, Count, Seen, Rank, Select come to what is told of the marks; an index of at most some hundred thousand marks. -/
import Derived.Test.YtbbiocmlicoipaaIX1
namespace Go.Proofs.Ytbbiocmlicoipaa.PC
open Go.RowKit Go.Proofs.YtbbiocmlicoipaaW.PrintWords Go.Proofs.YtbbiocmlicoipaaW.PrintLast Go.Proofs.YtbbiocmlicoipaaW.PrintMore Go.Proofs.Ytbbiocmlicoipaa.K Go.Proofs.Ytbbiocmlicoipaa.IX
attribute [local go_sem] max2_int min2_int max_two min_two max_three min_three max_four min_four
set_option linter.unusedVariables false
set_option linter.unusedSimpArgs false
def oneI (b : Bool) : Int := if b = true then 1 else 0
theorem oneI_b (b : Bool) : 0 ≤ oneI b ∧ oneI b ≤ 1 := by unfold oneI; split <;> omega
theorem one_calls (b : Bool) (w : World) : Calls Try.prog 46 #[.bool b] w fun e w' => e = .returned (.int .i64 (oneI b)) ∧ w = w' := by
  cases b
  · go_enter Try.func46, Try.ntmps46
    go_wp2
    go_ret
    exact ⟨rfl, rfl⟩
  · go_enter Try.func46, Try.ntmps46
    go_wp2
    go_ret
    exact ⟨rfl, rfl⟩
def seenS (ms : List Bool) (a : Int) : Bool := decide (0 ≤ a) && ms.getD a.toNat false
def rankS (ms : List Bool) (a : Int) : Int := cn (ms.take a.toNat)
def selS (ms : List Bool) (k : Int) : Int × Bool := if 0 ≤ k then (match sel ms k.toNat with | some i => ((i : Int), true) | none => (0, false)) else (0, false)
theorem len_calls (w : World) (F : List Nat) (p : Nat) (ms : List Bool) (h : Ix w F p ms) : Calls Try.prog 17 #[.pointer (some ⟨p, 0, none⟩)] w fun e w' => e = .returned (.int .i64 (ms.length : Int)) ∧ w = w' := by
  obtain ⟨lv, L, hR, rfl, _, _⟩ := h
  obtain ⟨g, cap, _, hcap, h0, h1, h2, hrow⟩ := hR.head_cells
  clear hrow hR
  go_enter Try.func17, Try.ntmps17
  go_wp2
  go_ret
  exact ⟨rfl, rfl⟩
theorem count_calls (w : World) (F : List Nat) (p : Nat) (ms : List Bool) (h : Ix w F p ms) : Calls Try.prog 21 #[.pointer (some ⟨p, 0, none⟩)] w fun e w' => e = .returned (.int .i64 (cn ms : Int)) ∧ w = w' := by
  obtain ⟨lv, L, hR, rfl, _, _⟩ := h
  obtain ⟨g, cap, _, hcap, h0, h1, h2, hrow⟩ := hR.head_cells
  clear hrow hR
  go_enter Try.func21, Try.ntmps21
  go_wp2
  go_ret
  exact ⟨rfl, rfl⟩
/-- The block that find tells, with what the walk reads there. -/
theorem found {w : World} {p : Nat} {lv : Value} {L pre post : List Blk} {x : Blk} (h : IxR w p lv L) (hL : L = pre ++ x :: post) : L[pre.length]? = some x ∧ BlkR w x := by
  constructor
  · rw [hL]; simp
  · exact h.blk x (by rw [hL]; simp)
theorem getD_found (pre post : List Blk) (x : Blk) (k : Nat) (h : k < x.ms.length) : (marks (pre ++ x :: post))[(marks pre).length + k]? = x.ms[k]? := by
  rw [marks_app, marks_cons, List.getElem?_append_right (by omega), Nat.add_sub_cancel_left, List.getElem?_append_left h]
theorem take_found (pre post : List Blk) (x : Blk) (k : Nat) (h : k ≤ x.ms.length) : (marks (pre ++ x :: post)).take ((marks pre).length + k) = marks pre ++ x.ms.take k := by
  rw [marks_app, marks_cons, List.take_append, List.take_of_length_le (by omega), Nat.add_sub_cancel_left, List.take_append_of_le_length h]
set_option maxHeartbeats 4000000 in
set_option maxRecDepth 100000 in
theorem seen_calls (w : World) (F : List Nat) (p : Nat) (ms : List Bool) (a : Int) (h : Ix w F p ms) (hs : ms.length ≤ 1000000) : Calls Try.prog 19 #[.pointer (some ⟨p, 0, none⟩), .int .i64 a] w fun e w' => e = .returned (.bool (seenS ms a)) ∧ ∃ n, w' = w.drewN n := by
  obtain ⟨lv, L, hR, rfl, _, hLn⟩ := h
  obtain ⟨g, cap, _, hcap, h0, h1, h2, hrow⟩ := hR.head_cells
  by_cases hin : 0 ≤ a ∧ a < ((marks L).length : Int)
  · obtain ⟨n, rfl⟩ : ∃ n : Nat, a = n := ⟨a.toNat, by omega⟩
    have hf := find_calls w p lv L n false hR hs (by omega) (.inl (by omega))
    have HROW := Lib.hid hrow
    have HR := Lib.hid hR
    have HF := Lib.hid hf
    obtain ⟨h3, h4⟩ := hin
    obtain ⟨tot, htot⟩ : ∃ t, (marks L).length = t := ⟨_, rfl⟩
    rw [htot] at h0 h4
    have HT := Lib.hid htot
    obtain ⟨LL, hLL⟩ : ∃ t, L.length = t := ⟨_, rfl⟩
    rw [hLL] at h2 hcap
    have HLL := Lib.hid hLL
    clear hrow hR hf htot hLL hLn
    go_enter Try.func19, Try.ntmps19
    go_wp2_with (go_at_call 44; refine HF.out.mono ?_; rintro e w' ⟨pre, x, post, k, hL, hat, hk, rfl, nd, rfl⟩; obtain ⟨hx, hb⟩ := found HR.out hL; replace hk : k < x.ms.length := hk.elim id (fun h => by cases h.1); obtain ⟨g2, c2, _, hc2, hc0, hc1, hm⟩ := hb.mark (List.getElem?_eq_getElem hk); have hptr := HROW.out _ _ hx; have hplt : pre.length < LL := (by rw [← HLL.out, hL]; simp); have hv : seenS (marks L) (n : Int) = x.ms[k] := (by unfold seenS; rw [decide_eq_true (by omega), Bool.true_and, Int.toNat_natCast, hat, hL, List.getD_eq_getElem?_getD, getD_found _ _ _ _ hk, List.getElem?_eq_getElem hk]; rfl); have HV := Lib.hid hv; clear hL hat hx hb hv; generalize pre.length = i at *; generalize x.ms[k] = u at *; generalize x.ms.length = ln at *)
    go_ret
    exact ⟨by rw [HV.out]; rfl, nd, rfl⟩
  · have hv : seenS (marks L) a = false := by
      unfold seenS
      by_cases h3 : 0 ≤ a
      · rw [List.getD_eq_getElem?_getD, List.getElem?_eq_none (by omega)]; simp
      · simp [h3]
    rw [hv]
    clear hrow hR hv hLn
    generalize (marks L).length = tot at *
    by_cases h3 : a < 0
    · clear hin
      go_enter Try.func19, Try.ntmps19
      go_wp2
      go_ret
      exact ⟨rfl, 0, rfl⟩
    · have h4 : (tot : Int) ≤ a := by omega
      clear hin
      go_enter Try.func19, Try.ntmps19
      go_wp2
      go_ret
      exact ⟨rfl, 0, rfl⟩
theorem cn_take_end (ms : List Bool) (a : Int) (h : (ms.length : Int) ≤ a) : rankS ms a = cn ms := by
  unfold rankS
  rw [List.take_of_length_le (by omega)]
set_option maxHeartbeats 4000000 in
set_option maxRecDepth 100000 in
theorem rank_calls (w : World) (F : List Nat) (p : Nat) (ms : List Bool) (a : Int) (h : Ix w F p ms) (hs : ms.length ≤ 1000000) : Calls Try.prog 18 #[.pointer (some ⟨p, 0, none⟩), .int .i64 a] w fun e w' => e = .returned (.int .i64 (rankS ms a)) ∧ ∃ n, w' = w.drewN n := by
  obtain ⟨lv, L, hR, rfl, _, hLn⟩ := h
  obtain ⟨g, cap, _, hcap, h0, h1, h2, hrow⟩ := hR.head_cells
  by_cases hend : ((marks L).length : Int) ≤ a ∨ (marks L).length = 0
  · have hv : rankS (marks L) a = (cn (marks L) : Int) := by
      rcases hend with h | h
      · exact cn_take_end _ _ h
      · have : marks L = [] := List.eq_nil_of_length_eq_zero h
        rw [this]; simp [rankS, cn]
    rw [hv]
    clear hrow hR hv hLn
    generalize cn (marks L) = c at *
    generalize (marks L).length = tot at *
    by_cases h3 : a < 0
    · have h4 : tot = 0 := by omega
      subst h4
      clear hend
      go_enter Try.func18, Try.ntmps18
      go_wp2
      go_ret
      exact ⟨rfl, 0, rfl⟩
    · have h4 : (tot : Int) ≤ a := by omega
      clear hend
      by_cases h5 : a = tot
      · subst h5
        go_enter Try.func18, Try.ntmps18
        go_wp2
        go_ret
        exact ⟨rfl, 0, rfl⟩
      · have h6 : (tot : Int) < a := by omega
        go_enter Try.func18, Try.ntmps18
        go_wp2
        go_ret
        exact ⟨rfl, 0, rfl⟩
  · obtain ⟨n, hn, hlt⟩ : ∃ n : Nat, (n : Int) = max a 0 ∧ n < (marks L).length := ⟨(max a 0).toNat, by omega, by omega⟩
    have hv : rankS (marks L) a = (cn ((marks L).take n) : Int) := by
      unfold rankS
      rw [show a.toNat = n by omega]
    rw [hv]
    have hf := find_calls w p lv L n false hR hs (by omega) (.inl (by omega))
    have HROW := Lib.hid hrow
    have HR := Lib.hid hR
    have HF := Lib.hid hf
    have hm1 : (if a < 0 then 0 else a) = (n : Int) := by split <;> omega
    have hm2 : (if 0 < a then a else 0) = (n : Int) := by split <;> omega
    obtain ⟨tot, htot⟩ : ∃ t, (marks L).length = t := ⟨_, rfl⟩
    have hm3 : (if (n : Int) < tot then (n : Int) else tot) = n := by split <;> omega
    have hm4 : (if (tot : Int) < n then (tot : Int) else n) = n := by split <;> omega
    rw [htot] at h0 hlt
    have HT := Lib.hid htot
    obtain ⟨LL, hLL⟩ : ∃ t, L.length = t := ⟨_, rfl⟩
    rw [hLL] at h2 hcap
    have HLL := Lib.hid hLL
    have hlt2 : n ≤ 1000000 := by omega
    have HN := Lib.hid hn
    clear hrow hR hf htot hLL hLn hv hend hn
    go_enter Try.func18, Try.ntmps18
    go_wp2_with (go_at_call 44; refine HF.out.mono ?_; rintro e w' ⟨pre, x, post, k, hL, hat, hk, rfl, nd, rfl⟩; obtain ⟨hx, hb⟩ := found HR.out hL; replace hk : k < x.ms.length := hk.elim id (fun h => by cases h.1); obtain ⟨g2, c2, hxv, hc2, hc0, hc1, hm⟩ := hb.mark (List.getElem?_eq_getElem hk); have hptr := HROW.out _ _ hx; have hplt : pre.length < LL := (by rw [← HLL.out, hL]; simp); have hv : cn ((marks L).take n) = cn (marks pre) + cn (x.ms.take k) := (by rw [hat, hL, take_found _ _ _ _ (Nat.le_of_lt hk), cn_app]); have hkc : k ≤ c2 := (by omega); have hk6 : k ≤ 1000000 := (by omega); have hcb := cn_le (marks pre); have hcb2 : (marks pre).length ≤ 1000000 := (by omega); have HV := Lib.hid hv; have HB := Lib.hid (And.intro hb (And.intro hxv hk)); clear hL hat hx hb hv hm hxv; obtain ⟨cp, hcp⟩ : ∃ c, cn (marks pre) = c := ⟨_, rfl⟩; rw [hcp] at hcb; have HCP := Lib.hid hcp; have hcb3 : cp ≤ 1000000 := (by omega); clear hcp hcb hcb2; generalize pre.length = i at *)
    go_loopw [7, 50] (fun v7 v50 w' => ∃ (j s m : Nat), v7 = .int .i64 (s : Int) ∧ v50 = .int .i64 (j : Int) ∧ j ≤ k ∧ s ≤ 2000000 ∧ Aside0 (s = cp + cn (x.ms.take j)) ∧ Aside0 (w' = w.drewN m)) (fun _ v50 _ => k - (intOf v50).toNat)
    case atStart => exact ⟨0, cp, nd, by rw [HCP.out], rfl, by omega, by omega, ⟨by simp [cn]⟩, ⟨rfl⟩⟩
    case round =>
      obtain ⟨j, s, m, rfl, rfl, hj, hsb, HI, HW⟩ := hrel
      obtain rfl := HW.out
      by_cases hlt : j < k
      · have hjl : j < x.ms.length := by have := HB.out.2.2; omega
        obtain ⟨g3, c3, e3, _, _, _, hm⟩ := HB.out.1.mark (List.getElem?_eq_getElem hjl)
        obtain rfl : g2 = g3 := by
          have e := HB.out.2.1.symm.trans e3
          injection e with e1 _ _
          injection e1 with e1
          injection e1 with e1
        have hct := cn_take_succ x.ms j hjl
        have hcl := cn_le (x.ms.take (j + 1))
        rw [List.length_take] at hcl
        obtain ⟨u, hu⟩ : ∃ u, x.ms[j] = u := ⟨_, rfl⟩
        rw [hu] at hm hct
        have hob := oneI_b u
        have hoe : oneI u = ((if u = true then 1 else 0 : Nat) : Int) := by unfold oneI; split <;> rfl
        have hsm : s + cn (x.ms.take (j + 1)) ≤ 2000000 + s := by omega
        have hs2 : cp + cn (x.ms.take (j + 1)) ≤ 2000000 := by omega
        have HCT := Lib.hid hct
        have HS2 := Lib.hid hs2
        have HOE := Lib.hid hoe
        clear hct hcl hu hsm hs2 hoe e3
        have hw2 : IntKind.i64.wrap ((s : Int) + oneI u) = (s : Int) + oneI u := by rw [IntKind.wrap_i64]; omega
        go_wp2_with (go_at_call 46; refine (one_calls u _).mono ?_; rintro e w' ⟨rfl, rfl⟩)
        go_roundw
        case rel => exact ⟨j + 1, cp + cn (x.ms.take (j + 1)), m, by rw [HCT.out, HI.out]; have := HOE.out; congr 1; rw [this]; push_cast; omega, by go_num, by omega, HS2.out, ⟨rfl⟩, ⟨rfl⟩⟩
        case measure => simp [intOf]; omega
      · obtain rfl : j = k := by omega
        go_wp2
        go_ret
        exact ⟨by rw [HV.out, HCP.out, HI.out]; rfl, m, rfl⟩
theorem sel_le (ms : List Bool) (k : Nat) (h : k < cn ms) : ∃ i, sel ms k = some i ∧ i < ms.length := by
  obtain ⟨i, h1, h2, _⟩ := sel_some ms k h
  exact ⟨i, h1, h2⟩
theorem sel_drop (ms : List Bool) (j k : Nat) (h : j < ms.length) : sel (ms.drop j) k = if ms[j] = true ∧ k = 0 then some 0 else (sel (ms.drop (j + 1)) (if ms[j] = true then k - 1 else k)).map (· + 1) := by
  rw [List.drop_eq_getElem_cons h]
  cases hm : ms[j]
  · simp [sel]
  · cases k with
    | zero => simp [sel]
    | succ k => simp [sel]
theorem cn_drop (ms : List Bool) (j : Nat) (h : j < ms.length) : cn (ms.drop j) = (if ms[j] = true then 1 else 0) + cn (ms.drop (j + 1)) := by
  rw [List.drop_eq_getElem_cons h, cn_cons]
def SelPost (ms : List Bool) (k : Nat) (w : World) (e : Ending) (w' : World) : Prop := ∃ i, sel ms k = some i ∧ e = .returned (.tuple #[.int .i64 (i : Int), .bool true]) ∧ ∃ n, w' = w.drewN n
theorem marks_drop (L : List Blk) (i : Nat) (h : i < L.length) : marks (L.drop i) = L[i].ms ++ marks (L.drop (i + 1)) := by
  rw [List.drop_eq_getElem_cons h, marks_cons]
set_option maxHeartbeats 4000000 in
set_option maxRecDepth 100000 in
theorem sel_walk (w : World) (p : Nat) (lv : Value) (L : List Blk) (K : Nat) (hR : IxR w p lv L) (hs : (marks L).length ≤ 1000000) (hLn : L.length ≤ 1000001) (hK : K < cn (marks L)) :
    Calls Try.prog 20 #[.pointer (some ⟨p, 0, none⟩), .int .i64 (K : Int)] w (SelPost (marks L) K w) := by
  obtain ⟨g, cap, _, hcap, h0, h1, h2, hrow⟩ := hR.head_cells
  have hcl := cn_le (marks L)
  have HROW := Lib.hid hrow
  have HR := Lib.hid hR
  obtain ⟨tot, htot⟩ : ∃ t, cn (marks L) = t := ⟨_, rfl⟩
  rw [htot] at h1 hK hcl
  have hK2 : K ≤ 1000000 := by omega
  have HT := Lib.hid htot
  have HS := Lib.hid hs
  clear hrow hR htot h0 hs hcl
  have hd1 : decide ((K : Int) < 0) = false := by simp
  have hd2 : decide (tot ≤ K) = false := by simpa using hK
  go_enter Try.func20, Try.ntmps20
  go_wp2
  go_loopw [1, 6, 27] (fun v1 v6 v27 w' => ∃ (i k a n : Nat), v1 = .int .i64 (k : Int) ∧ v6 = .int .i64 (a : Int) ∧ v27 = .int .i64 (i : Int) ∧ i ≤ L.length ∧ k ≤ 1000000 ∧ a ≤ 1000000 ∧ Aside0 (a = (marks (L.take i)).length ∧ k < cn (marks (L.drop i)) ∧ sel (marks L) K = (sel (marks (L.drop i)) k).map (· + a)) ∧ Aside0 (w' = w.drewN n)) (fun _ _ v27 _ => L.length - (intOf v27).toNat)
  case atStart => exact ⟨0, K, 0, 0, rfl, rfl, rfl, by omega, by omega, by omega, ⟨by simp [marks], by rw [List.drop_zero, HT.out]; exact hK, by rw [List.drop_zero]; simp⟩, ⟨rfl⟩⟩
  case round =>
    obtain ⟨i, k, a, n, rfl, rfl, rfl, hi, hk6, ha6, HI, HW⟩ := hrel
    obtain rfl := HW.out
    by_cases hlt : i < L.length
    · have hx : L[i]? = some L[i] := List.getElem?_eq_getElem hlt
      have hptr := HROW.out i _ hx
      have hb := HR.out.blk L[i] (List.getElem_mem hlt)
      obtain ⟨A, c, hv, hc, hc0, hc1⟩ := hb.cells
      have hmd := marks_drop L i hlt
      have hmt := marks_take_succ L i hlt
      have hlen := marks_len_take L (i + 1)
      have hsl := HS.out
      rw [hmt, List.length_append] at hlen
      obtain ⟨x, hxe⟩ : ∃ x, L[i] = x := ⟨_, rfl⟩
      rw [hxe] at hptr hb hv hc hc0 hc1 hmd hmt hlen
      obtain ⟨hI1, hI2, hI3⟩ := HI.out
      rw [hmd, cn_app] at hI2
      rw [hmd, sel_app] at hI3
      have hxl : a + x.ms.length ≤ 1000000 := by omega
      obtain ⟨cx, hcx⟩ : ∃ c, cn x.ms = c := ⟨_, rfl⟩
      obtain ⟨ln, hln⟩ : ∃ ln, x.ms.length = ln := ⟨_, rfl⟩
      have hcl := cn_le x.ms
      rw [hcx] at hI2 hI3 hc1 hcl
      rw [hln] at hI3 hc0 hc hxl hcl
      have hm : ∀ j u, x.ms[j]? = some u → ∃ g2, A = some ⟨g2, 0, none⟩ ∧ w.cell? ⟨g2, j, none⟩ = some (.bool u) := by
        intro j u hu
        obtain ⟨g2, c2, e2, _, _, _, hcell⟩ := hb.mark hu
        rw [hv] at e2
        injection e2 with e2 _ _
        exact ⟨g2, e2, hcell⟩
      have HM := Lib.hid hm
      have HLN := Lib.hid hln
      have HCX := Lib.hid hcx
      have HMT := Lib.hid hmt
      have HI1 := Lib.hid hI1
      have HI2 := Lib.hid hI2
      clear hx hb hv hmd hmt hlen hsl hm hln hcx hI1 HI hI2
      by_cases hkc : cx ≤ k
      · rw [if_neg (by omega)] at hI3
        have HI3 := Lib.hid hI3
        clear hI3
        have hw1 : IntKind.i64.wrap ((k : Int) - (cx : Int)) = (k : Int) - (cx : Int) := by rw [IntKind.wrap_i64]; omega
        have hw2 : IntKind.i64.wrap ((a : Int) + (ln : Int)) = (a : Int) + (ln : Int) := by rw [IntKind.wrap_i64]; omega
        go_wp2
        go_quiet (fail)
        go_wp2
        go_roundw
        case rel => exact ⟨i + 1, k - cx, a + ln, n + nq, by rw [show ((k - cx : Nat) : Int) = (k : Int) - (cx : Int) by omega], by go_num, by go_num, by omega, by omega, by omega, ⟨by rw [HMT.out, List.length_append, HLN.out, ← HI1.out], by have := HI2.out; omega, by rw [HI3.out, Option.map_map]; congr 1; funext z; simp; omega⟩, ⟨by simp⟩⟩
        case measure => simp [intOf]; omega
      · rw [if_pos (by omega)] at hI3
        have HI3 := Lib.hid hI3
        have HI2' := Lib.hid (show k < cn x.ms by rw [HCX.out]; omega)
        clear hI3
        go_wp2
        go_loopw [1, 55] (fun v1 v55 w' => ∃ (j k2 : Nat), v1 = .int .i64 (k2 : Int) ∧ v55 = .int .i64 (j : Int) ∧ j ≤ ln ∧ k2 ≤ 1000000 ∧ Aside0 (k2 < cn (x.ms.drop j) ∧ sel x.ms k = (sel (x.ms.drop j) k2).map (· + j)) ∧ Aside0 (w' = w.drewN n)) (fun _ v55 _ => ln - (intOf v55).toNat)
        case atStart => exact ⟨0, k, rfl, rfl, by omega, by omega, ⟨by rw [List.drop_zero]; exact HI2'.out, by rw [List.drop_zero]; simp⟩, ⟨rfl⟩⟩
        case round =>
          obtain ⟨j, k2, rfl, rfl, hj, hk26, HJ, HW2⟩ := hrel
          obtain rfl := HW2.out
          by_cases hlt2 : j < ln
          · have hjl : j < x.ms.length := by rw [HLN.out]; exact hlt2
            obtain ⟨g2, rfl, hm⟩ := HM.out j _ (List.getElem?_eq_getElem hjl)
            obtain ⟨hJ1, hJ2⟩ := HJ.out
            rw [cn_drop x.ms j hjl] at hJ1
            rw [sel_drop x.ms j k2 hjl] at hJ2
            obtain ⟨u, hu⟩ : ∃ u, x.ms[j] = u := ⟨_, rfl⟩
            rw [hu] at hm hJ1 hJ2
            clear hu HJ hjl
            cases u with
            | true =>
              by_cases hk0 : k2 = 0
              · subst hk0
                have hv : sel (marks L) K = some (a + j) := by
                  rw [HI3.out, hJ2]; simp; omega
                have HV := Lib.hid hv
                have hw2 : IntKind.i64.wrap ((a : Int) + (j : Int)) = (a : Int) + (j : Int) := by rw [IntKind.wrap_i64]; omega
                clear hJ1 hJ2 hv
                go_wp2
                go_ret2
                exact ⟨a + j, HV.out, by push_cast; rfl, n, rfl⟩
              · have hk1 : ((k2 : Int) == 0) = false := by simp; omega
                simp only [true_and, if_neg hk0, if_true] at hJ1 hJ2
                have HJ1 := Lib.hid hJ1
                have HJ2 := Lib.hid hJ2
                clear hJ1 hJ2
                have hw2 : IntKind.i64.wrap ((k2 : Int) - oneI true) = (k2 : Int) - 1 := by rw [IntKind.wrap_i64]; unfold oneI; simp; omega
                go_wp2_with (go_at_call 46; refine (one_calls true _).mono ?_; rintro e w' ⟨rfl, rfl⟩)
                go_roundw
                case rel => exact ⟨j + 1, k2 - 1, by rw [show ((k2 - 1 : Nat) : Int) = (k2 : Int) - 1 by omega], by go_num, by omega, by omega, ⟨by have := HJ1.out; omega, by rw [HJ2.out, Option.map_map]; congr 1; funext z; simp; omega⟩, ⟨by trivial⟩⟩
                case measure => simp [intOf]; omega
            | false =>
              simp only [Bool.false_eq_true, false_and, if_false, Nat.zero_add] at hJ1 hJ2
              have HJ1 := Lib.hid hJ1
              have HJ2 := Lib.hid hJ2
              clear hJ1 hJ2
              have hw2 : IntKind.i64.wrap ((k2 : Int) - oneI false) = (k2 : Int) := by rw [IntKind.wrap_i64]; unfold oneI; simp; omega
              go_wp2_with (go_at_call 46; refine (one_calls false _).mono ?_; rintro e w' ⟨rfl, rfl⟩)
              go_roundw
              case rel => exact ⟨j + 1, k2, rfl, by go_num, by omega, by omega, ⟨HJ1.out, by rw [HJ2.out, Option.map_map]; congr 1; funext z; simp; omega⟩, ⟨by trivial⟩⟩
              case measure => simp [intOf]; omega
          · exfalso
            have h3 := HJ.out.1
            rw [List.drop_of_length_le (by rw [HLN.out]; omega)] at h3
            simp [cn] at h3
    · exfalso
      have h3 := HI.out.2.1
      rw [List.drop_of_length_le (by omega)] at h3
      simp [cn, marks] at h3
theorem select_calls (w : World) (F : List Nat) (p : Nat) (ms : List Bool) (a : Int) (h : Ix w F p ms) (hs : ms.length ≤ 1000000) : Calls Try.prog 20 #[.pointer (some ⟨p, 0, none⟩), .int .i64 a] w fun e w' => e = .returned (.tuple #[.int .i64 (selS ms a).1, .bool (selS ms a).2]) ∧ ∃ n, w' = w.drewN n := by
  obtain ⟨lv, L, hR, rfl, _, hLn⟩ := h
  by_cases hin : 0 ≤ a ∧ a < (cn (marks L) : Int)
  · obtain ⟨n, rfl⟩ : ∃ n : Nat, a = n := ⟨a.toNat, by omega⟩
    refine (sel_walk w p lv L n hR hs (by omega) (by omega)).mono ?_
    rintro e w' ⟨i, h1, rfl, h2⟩
    refine ⟨?_, h2⟩
    unfold selS
    rw [if_pos (by omega), Int.toNat_natCast, h1]
  · have hv : selS (marks L) a = (0, false) := by
      unfold selS
      by_cases h3 : 0 ≤ a
      · rw [if_pos h3, sel_none _ _ (by omega)]
      · rw [if_neg h3]
    rw [hv]
    obtain ⟨g, cap, _, hcap, h0, h1, h2, hrow⟩ := hR.head_cells
    clear hrow hR hv hLn hs
    generalize cn (marks L) = tot at *
    by_cases h3 : a < 0
    · clear hin
      go_enter Try.func20, Try.ntmps20
      go_wp2
      go_ret2
      exact ⟨rfl, 0, rfl⟩
    · have h4 : (tot : Int) ≤ a := by omega
      clear hin
      go_enter Try.func20, Try.ntmps20
      go_wp2
      go_ret2
      exact ⟨rfl, 0, rfl⟩
end Go.Proofs.Ytbbiocmlicoipaa.PC
