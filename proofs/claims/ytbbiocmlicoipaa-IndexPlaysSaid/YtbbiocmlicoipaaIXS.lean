/- The document's own row of marks: Set and Insert; a row of at most a million. -/
import Derived.Test.YtbbiocmlicoipaaIXR
namespace Go.Proofs.Ytbbiocmlicoipaa.PC
open Go.RowKit Go.Proofs.YtbbiocmlicoipaaW.PrintWords Go.Proofs.YtbbiocmlicoipaaW.PrintLast Go.Proofs.YtbbiocmlicoipaaW.PrintMore Go.Proofs.Ytbbiocmlicoipaa.K Go.Proofs.Ytbbiocmlicoipaa.IX
attribute [local go_sem] max2_int min2_int max_two min_two max_three min_three max_four min_four
set_option linter.unusedVariables false
set_option linter.unusedSimpArgs false
theorem Rx.place {w : World} {F : List Nat} {q : Nat} {ns : List Bool} (h : Rx w F q ns) {n : Nat} (hn : n < ns.length) (u : Bool) : ∃ g cap, ns.length ≤ cap ∧ cap ≤ maxLen ∧ w.cell? ⟨q, 0, none⟩ = some (.slice (some ⟨g, 0, none⟩) ns.length cap) ∧ w.cell? ⟨g, n, none⟩ = some (.bool ns[n]) ∧ (∃ cur, w.heap[g]? = some (.cells cur 4 (0, 0))) ∧
    Rx (w.setCell ⟨g, n, none⟩ (.bool u)) F q (ns.set n u) ∧ Fr F w (w.setCell ⟨g, n, none⟩ (.bool u)) := by
  obtain ⟨v, h1, h2, rfl⟩ := h
  have hc : w.cell? ⟨q, 0, none⟩ = some v := by rw [cell_of h1]; rfl
  obtain ⟨g, cap, e, hcap, hcell⟩ := h2.cell1 (i := n) (u := .bool ns[n]) (by simp [hn])
  rcases (srow1.1 h2).2 with ⟨rfl, h0⟩ | ⟨g', cap', cur, rfl, hh, hn2, hx, hs, _, ht⟩
  · omega
  · injection e with e1 _ e3
    injection e1 with e1
    injection e1 with e1
    subst e1 e3
    have hqg : q ≠ g' := heap_types h1 hh (by decide)
    have e1 := heap_set _ g' n (.bool u) hh
    refine ⟨g', cap', hcap, hx, hc, hcell, ⟨cur, hh⟩, ⟨_, (heap_far _ _ _ hqg).trans h1, srow1.2 ⟨by simp, .inr ⟨g', cap', cur.setIfInBounds n (.bool u), by simp, e1, by simpa using hn2, hx, by simpa using hs, fun h => h.elim, ?_⟩⟩, rfl⟩, Fr.of_set w ⟨g', n, none⟩ _ (by simp [ob, Value.ownBlock])⟩
    rw [Array.toList_setIfInBounds, List.length_set, List.take_set, ht, List.map_set]
set_option maxHeartbeats 4000000 in
theorem rset_calls (w : World) (F : List Nat) (q : Nat) (ns : List Bool) (a : Int) (u : Bool) (h : Rx w F q ns) (hs : ns.length ≤ 1000000) :
    Calls Try.prog 23 #[.pointer (some ⟨q, 0, none⟩), .int .i64 a, .bool u] w fun e w' => e = .returned (.bool (setS ns a u).1) ∧ Rx w' F q (setS ns a u).2 ∧ Fr F w w' := by
  by_cases hin : 0 ≤ a ∧ a < (ns.length : Int)
  · obtain ⟨n, rfl⟩ : ∃ n : Nat, a = n := ⟨a.toNat, by omega⟩
    have hlt : n < ns.length := by omega
    unfold setS
    rw [if_pos hin, Int.toNat_natCast]
    obtain ⟨g, cap, hcap, hx, hq, hc, ⟨cur, hcur⟩, hr, hf⟩ := h.place hlt u
    have hfz := free_of hcur
    have HF := Lib.hid (And.intro hr hf)
    generalize ns[n] = u0 at hc
    clear h hr hf hin
    go_enter Try.func23, Try.ntmps23
    go_wp2
    go_ret
    exact ⟨rfl, HF.out⟩
  · unfold setS
    rw [if_neg hin]
    have HF := Lib.hid (And.intro h (Fr.refl F w))
    obtain ⟨A, cap, hcap, hx, hq, _, _⟩ := h.cells
    clear h
    by_cases h3 : a < 0
    · clear hin
      go_enter Try.func23, Try.ntmps23
      go_wp2
      go_ret
      exact ⟨rfl, HF.out⟩
    · have h4 : (ns.length : Int) ≤ a := by omega
      clear hin
      go_enter Try.func23, Try.ntmps23
      go_wp2
      go_ret
      exact ⟨rfl, HF.out⟩
theorem C_bools {w : World} {g o : Nat} {xs : List Bool} (hl : xs.length ≤ 1000000) (h : ∀ (i : Nat) u, xs[i]? = some u → w.cell? ⟨g, o + i, none⟩ = some (.bool u)) : Kd.C Kd.bool w (some ⟨g, o, none⟩) xs.length xs := by
  refine ⟨rfl, by omega, fun _ => ⟨_, rfl, fun j u hu => ⟨[.bool u], rfl, rfl, fun i v hv => ?_⟩⟩⟩
  have hm := h j u hu
  match i, hv with
  | 0, hv =>
    simp at hv
    subst hv
    rw [Addr.add_lit]
    show w.cell? ⟨g, o + (j * 1 + 0), none⟩ = _
    rw [show o + (j * 1 + 0) = o + j by omega]
    exact hm
  | i + 1, hv => simp at hv
/-- Where the pieces of the row lie, told in the walk's own words. -/
theorem Rx.pieces {w : World} {F : List Nat} {q : Nat} {ns : List Bool} (h : Rx w F q ns) (hs : ns.length ≤ 1000000) :
    ∃ A cap, ns.length ≤ cap ∧ cap ≤ maxLen ∧ w.cell? ⟨q, 0, none⟩ = some (.slice A ns.length cap) ∧ (if cap = 0 then A else A.map (·.add (0 * 1))) = A ∧ Kd.C Kd.bool w A ns.length ns := by
  obtain ⟨A, cap, hcap, hx, hq, hA, hm⟩ := h.cells
  have ha : (if cap = 0 then A else A.map (·.add (0 * 1))) = A := by
    split
    · rfl
    · rcases hA with ⟨rfl, _⟩ | ⟨g, rfl⟩ <;> rfl
  refine ⟨A, cap, hcap, hx, hq, ha, ?_⟩
  rcases hA with ⟨rfl, h0, rfl⟩ | ⟨g, rfl⟩
  · exact ⟨rfl, by omega, fun h => by omega⟩
  · refine C_bools hs fun i u hu => ?_
    obtain ⟨g', e, hc⟩ := hm i u hu
    injection e with e
    injection e with e
    subst e
    rw [Nat.zero_add]
    exact hc
end Go.Proofs.Ytbbiocmlicoipaa.PC
