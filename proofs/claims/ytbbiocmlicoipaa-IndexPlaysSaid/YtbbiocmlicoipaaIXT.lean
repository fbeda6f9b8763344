/- The document's own row of marks: Insert; a row of at most a million. -/
import Derived.Test.YtbbiocmlicoipaaIXS
namespace Go.Proofs.Ytbbiocmlicoipaa.PC
open Go.RowKit Go.Proofs.YtbbiocmlicoipaaW.PrintWords Go.Proofs.YtbbiocmlicoipaaW.PrintLast Go.Proofs.YtbbiocmlicoipaaW.PrintMore Go.Proofs.Ytbbiocmlicoipaa.K Go.Proofs.Ytbbiocmlicoipaa.IX
attribute [local go_sem] max2_int min2_int max_two min_two max_three min_three max_four min_four
set_option linter.unusedVariables false
set_option linter.unusedSimpArgs false
set_option maxHeartbeats 4000000 in
theorem rins_calls (w : World) (F : List Nat) (q : Nat) (ns : List Bool) (a : Int) (u : Bool) (h : Rx w F q ns) (hs : ns.length ≤ 1000000) :
    Calls Try.prog 24 #[.pointer (some ⟨q, 0, none⟩), .int .i64 a, .bool u] w fun e w' => e = .returned (.bool (insS ns a u).1) ∧ ∃ F', Rx w' F' q (insS ns a u).2 ∧ Fr F w w' ∧ ∀ k ∈ F', k ∈ F ∨ w.heap.size ≤ k := by
  by_cases hin : 0 ≤ a ∧ a ≤ (ns.length : Int)
  · obtain ⟨n, rfl⟩ : ∃ n : Nat, a = n := ⟨a.toNat, by omega⟩
    have hn : n ≤ ns.length := by omega
    unfold insS
    rw [if_pos hin, Int.toNat_natCast]
    obtain ⟨A, cap, hcap, hx, hq, hA, hC⟩ := h.pieces hs
    have hlt : (ns.take n).length = n := by rw [List.length_take]; omega
    have hld : (ns.drop n).length = ns.length - n := List.length_drop
    obtain ⟨A2, hA2⟩ : ∃ A2, (if cap = n then A else A.map (·.add (n * 1))) = A2 := ⟨_, rfl⟩
    have C1 := Lib.hid (Kd.C_take hC hn)
    have C2 : Aside0 (Kd.C Kd.bool w A2 (ns.length - n) (ns.drop n)) := by
      rw [← hA2, ← hld]
      exact ⟨Kd.C_drop hC hn hcap⟩
    rw [hlt] at C1
    have HL1 := Lib.hid hlt
    have HL2 := Lib.hid hld
    have hqh : ∃ v, w.heap[q]? = some (.cells #[v] 45 (0, 0)) ∧ F = q :: ob v := by
      obtain ⟨v, h1, _, h2⟩ := h
      exact ⟨v, h1, h2⟩
    obtain ⟨v0, hq0, hF⟩ := hqh
    have hqlt := lt_of hq0
    have HQ0 := Lib.hid hq0
    have HF := Lib.hid hF
    have fin : ∀ w3 v3, Kd.R Kd.bool 4 w3 w.heap.size (fun _ => True) v3 (ns.take n ++ [u] ++ ns.drop n) → Below w.heap.size w w3 →
        ∃ F', Rx (w3.setCell ⟨q, 0, none⟩ v3) F' q (ns.take n ++ [u] ++ ns.drop n) ∧ Fr F w (w3.setCell ⟨q, 0, none⟩ v3) ∧ ∀ k ∈ F', k ∈ F ∨ w.heap.size ≤ k := by
      intro w3 v3 hR hb
      obtain ⟨hS, hg⟩ := srow_of_RB hR
      have hq3 := (hb.block q hqlt).trans HQ0.out
      refine ⟨q :: ob v3, ⟨v3, ?_, hS.keep fun g hg2 => heap_far _ _ _ (by have := hg g hg2; show g ≠ q; omega), rfl⟩, ?_, ?_⟩
      · exact heap_set _ q 0 v3 hq3
      · refine (Fr.of_below hb).trans (Fr.of_set (F := F) w3 ⟨q, 0, none⟩ v3 (by rw [HF.out]; simp)) fun x hx => .inl hx
      · intro k hk
        rcases List.mem_cons.1 hk with rfl | hk
        · exact .inl (by rw [HF.out]; simp)
        · exact .inr (hg k hk)
    have HFIN := Lib.hid fin
    have cell : ∀ w3, Below w.heap.size w w3 → w3.cell? ⟨q, 0, none⟩ = some (.slice A ns.length cap) := fun w3 hb => (hb.cell hqlt).trans hq
    have HCELL := Lib.hid cell
    have hA3 := hA2
    have hA1 := hA
    simp only [Nat.mul_one, Nat.zero_mul] at hA3 hA1
    clear h hC hlt hld hq0 hF fin cell hin
    go_enter Try.func24, Try.ntmps24
    go_wp2_with (first
      | ((with_reducible refine gate_dst (N := 19) rfl ?_); refine Kd.R_lit Kd.bool (w0 := w) w.heap.size 4 ?hg (N := 19) ?hd (xs := ([] : List Bool)) (inner := []) (ok := fun _ => True) (okp := fun _ => True) ?hr ?hp (fun _ hk => hk) trivial (Below.refl _ _) (Nat.le_refl _) (by simp) ?_; (case hd => rfl); (case hg => rfl); (case hr => first | (go_simp; done) | (go_simp; rfl)); (case hp => exact (Reps.none _ _)); intro v6 w6 ho6 hb hg_ hnew_; have HB6 := Aside0.mk hb; have HL6 := Aside0.mk ho6; have hq6 := HCELL.out _ hb; clear hb hg_ hnew_ ho6)
      | ((with_reducible refine gate_builtin (b := .append) (xs := #[.tmp 19, .tmp 25]) rfl ?_); at_builtin; refine Kd.R_append_rows Kd.bool (w0 := w) w.heap.size rfl (.tmp 19) (.tmp 25) 40 4 (.bool false) 1 rfl Try.underlying40 info4 rfl (by decide) (by omega) v6 [] (ns.take n) _ _ _ (fun _ => True) (fun _ => True ∧ False) rfl rfl ?aO ?aR (fun _ _ h => h) (fun _ h => h.2.elim) ?aF ?aB ?aS ?aL ?_; (case aR => exact Kd.C_below C1.out HB6.out); (case aB => exact HB6.out); (case aF => exact (fun _ _ => trivial)); (case aO => exact HL6.out); (case aS => exact below_size HB6.out); (case aL => simp only [List.length_nil]; omega); intro v7 w7 ho7 hb hg hat; have HB7 := Aside0.mk hb; rw [List.nil_append] at ho7; have HL7 := Aside0.mk ho7; have hq7 := HCELL.out _ hb; clear hb hg hat ho7)
      | ((with_reducible refine gate_builtin (b := .append) (xs := #[.tmp 27, .tmp 29]) rfl ?_); at_builtin; refine Kd.R_append Kd.bool (w0 := w) w.heap.size rfl (.tmp 27) (.tmp 29) 40 4 (.bool false) 1 rfl Try.underlying40 info4 rfl (by decide) (by omega) v7 (ns.take n) u [.bool u] (fun _ => True) (fun _ => False) rfl rfl ?aP (fun _ hk => hk.elim) ?aF ?aO ?aB ?aS ?aL ?_; (case aP => exact rfl); (case aF => exact (fun _ _ => trivial)); (case aO => exact HL7.out); (case aB => exact HB7.out); (case aS => exact below_size HB7.out); (case aL => have := HL1.out; omega); intro v8 w8 ho8 hb hg hat; have HB8 := Aside0.mk hb; have HL8 := Aside0.mk ho8; have hq8 := HCELL.out _ hb; clear hb hg hat ho8)
      | ((with_reducible refine gate_builtin (b := .append) (xs := #[.tmp 32, .tmp 38]) rfl ?_); at_builtin; refine Kd.R_append_rows Kd.bool (w0 := w) w.heap.size rfl (.tmp 32) (.tmp 38) 40 4 (.bool false) 1 rfl Try.underlying40 info4 rfl (by decide) (by omega) v8 (ns.take n ++ [u]) (ns.drop n) _ _ _ (fun _ => True) (fun _ => True ∧ False) rfl rfl ?aO ?aR (fun _ _ h => h) (fun _ h => h.2.elim) ?aF ?aB ?aS ?aL ?_; (case aR => exact Kd.C_below C2.out HB8.out); (case aB => exact HB8.out); (case aF => exact (fun _ _ => trivial)); (case aO => exact HL8.out); (case aS => exact below_size HB8.out); (case aL => have := HL1.out; simp only [List.length_append, List.length_singleton]; omega); intro v9 w9 ho9 hb hg hat; have HB9 := Aside0.mk hb; have HL9 := Aside0.mk ho9; obtain ⟨A9, c9, e9⟩ := Kd.R_slice ho9; generalize List.length _ = m9 at e9; subst e9; have hq9 := HCELL.out _ hb; have hh9 := free_of ((hb.block q hqlt).trans HQ0.out); clear hb hg hat ho9))
    go_ret
    exact ⟨rfl, HFIN.out _ _ HL9.out HB9.out⟩
  · unfold insS
    rw [if_neg hin]
    have HF : Aside0 (∃ F', Rx w F' q ns ∧ Fr F w w ∧ ∀ k ∈ F', k ∈ F ∨ w.heap.size ≤ k) := ⟨⟨F, h, Fr.refl F w, fun _ h => .inl h⟩⟩
    obtain ⟨A, cap, hcap, hx, hq, _, _⟩ := h.cells
    clear h
    by_cases h3 : a < 0
    · clear hin
      go_enter Try.func24, Try.ntmps24
      go_wp2
      go_ret
      exact ⟨rfl, HF.out⟩
    · have h4 : (ns.length : Int) < a := by omega
      clear hin
      go_enter Try.func24, Try.ntmps24
      go_wp2
      go_ret
      exact ⟨rfl, HF.out⟩
end Go.Proofs.Ytbbiocmlicoipaa.PC
