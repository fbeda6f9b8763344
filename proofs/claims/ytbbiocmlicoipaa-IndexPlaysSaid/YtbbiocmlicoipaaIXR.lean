/- The document's own row of marks: what its calls come to; a row of at most a million. -/
import Derived.Test.YtbbiocmlicoipaaIX7
import Derived.Test.YtbbiocmlicoipaaIXC
namespace Go.Proofs.Ytbbiocmlicoipaa.PC
open Go.RowKit Go.Proofs.YtbbiocmlicoipaaW.PrintWords Go.Proofs.YtbbiocmlicoipaaW.PrintLast Go.Proofs.YtbbiocmlicoipaaW.PrintMore Go.Proofs.Ytbbiocmlicoipaa.K Go.Proofs.Ytbbiocmlicoipaa.IX
attribute [local go_sem] max2_int min2_int max_two min_two max_three min_three max_four min_four
set_option linter.unusedVariables false
set_option linter.unusedSimpArgs false
/-- The document's row in memory; the blocks that it takes. -/
def Rx (w : World) (F : List Nat) (q : Nat) (ns : List Bool) : Prop :=
  ∃ v, w.heap[q]? = some (.cells #[v] 45 (0, 0)) ∧ SRow w 4 1 False v ns.length (ns.map Value.bool) ∧ F = q :: ob v
theorem Rx.keep {w w' : World} {F : List Nat} {q : Nat} {ns : List Bool} (h : Rx w F q ns) (hk : ∀ k ∈ F, w'.heap[k]? = w.heap[k]?) : Rx w' F q ns := by
  obtain ⟨v, h1, h2, rfl⟩ := h
  exact ⟨v, (hk q (by simp)).trans h1, h2.keep fun g hg => hk g (by simp [hg]), rfl⟩
theorem Rx.lt {w : World} {F : List Nat} {q : Nat} {ns : List Bool} (h : Rx w F q ns) : ∀ k ∈ F, k < w.heap.size := by
  obtain ⟨v, h1, h2, rfl⟩ := h
  intro k hk
  rcases List.mem_cons.1 hk with rfl | hk
  · exact lt_of h1
  · exact (h2.ob_lt k hk).1
theorem Rx.fr {w w' : World} {F G : List Nat} {p : Nat} {ms : List Bool} (h : Rx w F p ms) (hf : Fr G w w') (hd : ∀ k ∈ F, k ∉ G) : Rx w' F p ms := h.keep fun k hk => hf.block k (h.lt k hk) (hd k hk)
theorem Rx.below {w w' : World} {F : List Nat} {p : Nat} {ms : List Bool} (h : Rx w F p ms) (hb : Below w.heap.size w w') : Rx w' F p ms := h.keep fun k hk => hb.block k (h.lt k hk)
theorem Rx.drewN {w : World} {F : List Nat} {p : Nat} {ms : List Bool} (h : Rx w F p ms) (n : Nat) : Rx (w.drewN n) F p ms := h.keep fun _ _ => rfl
theorem Rx.cells {w : World} {F : List Nat} {q : Nat} {ns : List Bool} (h : Rx w F q ns) : ∃ A cap, ns.length ≤ cap ∧ cap ≤ maxLen ∧ w.cell? ⟨q, 0, none⟩ = some (.slice A ns.length cap) ∧ (A = none ∧ ns.length = 0 ∧ cap = 0 ∨ ∃ g, A = some ⟨g, 0, none⟩) ∧
    (∀ i u, ns[i]? = some u → ∃ g, A = some ⟨g, 0, none⟩ ∧ w.cell? ⟨g, i, none⟩ = some (.bool u)) := by
  obtain ⟨v, h1, h2, rfl⟩ := h
  have hc : w.cell? ⟨q, 0, none⟩ = some v := by rw [cell_of h1]; rfl
  have hm : ∀ i u, ns[i]? = some u → ∃ g cap, v = .slice (some ⟨g, 0, none⟩) ns.length cap ∧ ns.length ≤ cap ∧ w.cell? ⟨g, i, none⟩ = some (.bool u) := fun i u hu => h2.cell1 (u := .bool u) (by simp [hu])
  rcases h2.2 with ⟨rfl, h0⟩ | ⟨g, cap, cur, rfl, hh, hn, hx, _⟩
  · refine ⟨none, 0, by omega, Nat.zero_le _, by rw [h0]; exact hc, .inl ⟨rfl, h0, rfl⟩, fun i u hu => ?_⟩
    have := (List.getElem?_eq_some_iff.1 hu).1
    omega
  · refine ⟨_, cap, hn, hx, hc, .inr ⟨g, rfl⟩, fun i u hu => ?_⟩
    obtain ⟨g', cap', e, _, hcell⟩ := hm i u hu
    injection e with e1 _ _
    injection e1 with e1
    injection e1 with e1
    subst e1
    exact ⟨g, rfl, hcell⟩
set_option maxHeartbeats 4000000 in
theorem rrank_calls (w : World) (F : List Nat) (q : Nat) (ns : List Bool) (a : Int) (h : Rx w F q ns) (hs : ns.length ≤ 1000000) : Calls Try.prog 26 #[.pointer (some ⟨q, 0, none⟩), .int .i64 a] w fun e w' => e = .returned (.int .i64 (rankS ns a)) ∧ w = w' := by
  obtain ⟨A, cap, hcap, _, hq, _, hm⟩ := h.cells
  have HM := Lib.hid hm
  clear hm h
  go_enter Try.func26, Try.ntmps26
  go_wp2
  go_loopw [5, 6] (fun v5 v6 w' => ∃ i s : Nat, v5 = .int .i64 (s : Int) ∧ v6 = .int .i64 (i : Int) ∧ i ≤ ns.length ∧ s ≤ i ∧ Aside0 (s = cn (ns.take i) ∧ (i = 0 ∨ (i : Int) ≤ a)) ∧ Aside0 (w = w')) (fun _ v6 _ => ns.length - (intOf v6).toNat)
  case atStart => exact ⟨0, 0, rfl, rfl, by omega, by omega, ⟨by simp [cn], .inl rfl⟩, ⟨rfl⟩⟩
  case round =>
    obtain ⟨i, s, rfl, rfl, hi, hsi, HI, HW⟩ := hrel
    obtain rfl := HW.out
    by_cases hlt : i < ns.length
    · by_cases ha : (i : Int) < a
      · obtain ⟨u, hu⟩ : ∃ u, ns[i] = u := ⟨_, rfl⟩
        obtain ⟨g, rfl, hcell⟩ := HM.out i u (by rw [← hu]; exact List.getElem?_eq_getElem hlt)
        have hn := cn_take_succ ns i hlt
        rw [hu] at hn
        have HN := Lib.hid hn
        clear hn hu
        cases u with
        | true =>
          go_wp2
          go_roundw
          case rel => exact ⟨i + 1, s + 1, by go_num, by go_num, by omega, by omega, ⟨by rw [HN.out, ← HI.out.1]; rfl, .inr (by omega)⟩, ⟨trivial⟩⟩
          case measure => simp [intOf]; omega
        | false =>
          go_wp2
          go_roundw
          case rel => exact ⟨i + 1, s, by go_num, by go_num, by omega, by omega, ⟨by rw [HN.out, ← HI.out.1]; rfl, .inr (by omega)⟩, ⟨trivial⟩⟩
          case measure => simp [intOf]; omega
      · have fin : rankS ns a = (s : Int) := by
          unfold rankS
          rcases HI.out.2 with h | h
          · subst h
            rw [HI.out.1, show a.toNat = 0 by omega]
          · rw [HI.out.1, show a.toNat = i by omega]
        have HF := Lib.hid fin
        clear fin
        go_wp2
        go_ret
        exact ⟨by rw [HF.out]; rfl, rfl⟩
    · obtain rfl : i = ns.length := by omega
      have fin : rankS ns a = (s : Int) := by
        unfold rankS
        rw [HI.out.1]
        rcases HI.out.2 with h | h
        · have e : ns = [] := List.length_eq_zero_iff.1 h
          rw [e]; simp
        · rw [List.take_of_length_le (show ns.length ≤ a.toNat by omega), List.take_length]
      have HF := Lib.hid fin
      clear fin
      go_wp2
      go_ret
      exact ⟨by rw [HF.out]; rfl, rfl⟩
theorem sel_at (ns : List Bool) (i : Nat) (h : i < ns.length) (ht : ns[i] = true) : sel ns (cn (ns.take i)) = some i := sel_rank ns i h ht
set_option maxHeartbeats 4000000 in
theorem rsel_calls (w : World) (F : List Nat) (q : Nat) (ns : List Bool) (k : Int) (h : Rx w F q ns) (hs : ns.length ≤ 1000000) (hk : -9223372036854775808 ≤ k ∧ k ≤ 9223372036854775807) :
    Calls Try.prog 25 #[.pointer (some ⟨q, 0, none⟩), .int .i64 k] w fun e w' => e = .returned (.tuple #[.int .i64 (selS ns k).1, .bool (selS ns k).2]) ∧ w = w' := by
  obtain ⟨A, cap, hcap, _, hq, _, hm⟩ := h.cells
  have HM := Lib.hid hm
  have HK := Lib.hid hk
  clear hm h hk
  go_enter Try.func25, Try.ntmps25
  go_wp2
  go_loopw [1, 6] (fun v1 v6 w' => ∃ (i : Nat) (x : Int), v1 = .int .i64 x ∧ v6 = .int .i64 (i : Int) ∧ i ≤ ns.length ∧ Aside0 (x = IntKind.i64.wrap (k - (cn (ns.take i) : Int)) ∧ (k < 0 ∨ (cn (ns.take i) : Int) ≤ k)) ∧ Aside0 (w = w')) (fun _ v6 _ => ns.length - (intOf v6).toNat)
  case atStart =>
    refine ⟨0, k, rfl, rfl, by omega, ⟨?_, ?_⟩, ⟨rfl⟩⟩
    · have := HK.out
      simp only [List.take_zero, cn, List.count_nil]
      rw [IntKind.wrap_i64]
      omega
    · simp only [List.take_zero, cn, List.count_nil]
      omega
  case round =>
    obtain ⟨i, x, rfl, rfl, hi, HI, HW⟩ := hrel
    obtain rfl := HW.out
    by_cases hlt : i < ns.length
    · obtain ⟨u, hu⟩ : ∃ u, ns[i] = u := ⟨_, rfl⟩
      obtain ⟨g, rfl, hcell⟩ := HM.out i u (by rw [← hu]; exact List.getElem?_eq_getElem hlt)
      have hn := cn_take_succ ns i hlt
      rw [hu] at hn
      cases u with
      | true =>
        have hb := cn_le (ns.take i)
        rw [List.length_take] at hb
        by_cases hx : x = 0
        · subst hx
          have e : k = (cn (ns.take i) : Int) := by
            have h1 := HI.out.1
            rw [IntKind.wrap_i64] at h1
            have := HK.out
            omega
          have fin : selS ns k = ((i : Int), true) := by
            unfold selS
            rw [if_pos (by omega), e, Int.toNat_natCast, sel_at ns i hlt hu]
          have HF := Lib.hid fin
          clear fin e hb hn hu
          go_wp2
          go_ret2
          exact ⟨by rw [HF.out]; rfl, rfl⟩
        · have e : k ≠ (cn (ns.take i) : Int) := by
            intro e
            have h1 := HI.out.1
            rw [IntKind.wrap_i64] at h1
            omega
          have hx2 : (x == 0) = false := by simpa using hx
          have HN : Aside0 (wrap64 (x - 1) = IntKind.i64.wrap (k - (cn (ns.take (i + 1)) : Int)) ∧ (k < 0 ∨ (cn (ns.take (i + 1)) : Int) ≤ k)) := by
            have h1 := HI.out
            rw [hn]
            refine ⟨?_, ?_⟩
            · rw [h1.1, IntKind.wrap_i64, IntKind.wrap_i64]
              unfold wrap64
              simp only [if_true]
              omega
            · simp only [if_true]
              omega
          clear e hb hn hu
          go_wp2
          go_roundw
          case rel => exact ⟨i + 1, wrap64 (x - 1), rfl, by go_num, by omega, HN, ⟨trivial⟩⟩
          case measure => simp [intOf]; omega
      | false =>
        have HN : Aside0 (x = IntKind.i64.wrap (k - (cn (ns.take (i + 1)) : Int)) ∧ (k < 0 ∨ (cn (ns.take (i + 1)) : Int) ≤ k)) := by
          have h1 := HI.out
          rw [hn]
          exact ⟨h1⟩
        clear hn hu
        go_wp2
        go_roundw
        case rel => exact ⟨i + 1, x, rfl, by go_num, by omega, HN, ⟨trivial⟩⟩
        case measure => simp [intOf]; omega
    · obtain rfl : i = ns.length := by omega
      have fin : selS ns k = (0, false) := by
        unfold selS
        have h1 := HI.out.2
        rw [List.take_length] at h1
        by_cases hk : 0 ≤ k
        · rw [if_pos hk, sel_none _ _ (by omega)]
        · rw [if_neg hk]
      have HF := Lib.hid fin
      clear fin
      go_wp2
      go_ret2
      exact ⟨by rw [HF.out]; rfl, rfl⟩
end Go.Proofs.Ytbbiocmlicoipaa.PC
