/- Quiet calls of an index, two indexes side by side, and what Rank, Select and Seen tell of one another; an index of at most some hundred thousand marks. -/
import Derived.Test.YtbbiocmlicoipaaIX6
namespace Go.Proofs.Ytbbiocmlicoipaa.PC
open Go.RowKit Go.Proofs.YtbbiocmlicoipaaW.PrintWords Go.Proofs.YtbbiocmlicoipaaW.PrintLast Go.Proofs.YtbbiocmlicoipaaW.PrintMore Go.Proofs.Ytbbiocmlicoipaa.K Go.Proofs.Ytbbiocmlicoipaa.IX
set_option linter.unusedVariables false
set_option linter.unusedSimpArgs false
theorem rank_q {w0 w : World} {p : Nat} {ms : List Bool} (a r : Int) (e : rankS ms a = r) (h : Ow w0 w p ms) (hs : ms.length ≤ 1000000) (n : Nat) : Calls Try.prog 18 #[.pointer (some ⟨p, 0, none⟩), .int .i64 a] (w.drewN n) fun e w' => e = .returned (.int .i64 r) ∧ ∃ m, w' = w.drewN m :=
  Calls.quiet_of (rank_is a r e (h.drewN n) hs)
theorem seen_q {w0 w : World} {p : Nat} {ms : List Bool} (a : Int) (r : Bool) (e : seenS ms a = r) (h : Ow w0 w p ms) (hs : ms.length ≤ 1000000) (n : Nat) : Calls Try.prog 19 #[.pointer (some ⟨p, 0, none⟩), .int .i64 a] (w.drewN n) fun e w' => e = .returned (.bool r) ∧ ∃ m, w' = w.drewN m :=
  Calls.quiet_of (seen_is a r e (h.drewN n) hs)
theorem count_q {w0 w : World} {p : Nat} {ms : List Bool} (r : Int) (e : (cn ms : Int) = r) (h : Ow w0 w p ms) (n : Nat) : Calls Try.prog 21 #[.pointer (some ⟨p, 0, none⟩)] (w.drewN n) fun e w' => e = .returned (.int .i64 r) ∧ ∃ m, w' = w.drewN m :=
  Calls.quiet_of_same ((count_is r e (h.drewN n)).mono fun _ _ h => ⟨h.1, h.2.symm⟩)
theorem len_q {w0 w : World} {p : Nat} {ms : List Bool} (r : Int) (e : (ms.length : Int) = r) (h : Ow w0 w p ms) (n : Nat) : Calls Try.prog 17 #[.pointer (some ⟨p, 0, none⟩)] (w.drewN n) fun e w' => e = .returned (.int .i64 r) ∧ ∃ m, w' = w.drewN m :=
  Calls.quiet_of_same ((len_is r e (h.drewN n)).mono fun _ _ h => ⟨h.1, h.2.symm⟩)
/-- Two indexes that the law made. -/
def Ow2 (w0 w : World) (p : Nat) (ms : List Bool) (q : Nat) (ns : List Bool) : Prop :=
  ∃ F G, Ix w F p ms ∧ Ix w G q ns ∧ (∀ k ∈ F, k ∉ G) ∧ (∀ k ∈ F, w0.heap.size ≤ k) ∧ (∀ k ∈ G, w0.heap.size ≤ k) ∧ Below w0.heap.size w0 w
theorem Ow2.a {w0 w : World} {p q : Nat} {ms ns : List Bool} (h : Ow2 w0 w p ms q ns) : Ow w0 w p ms := by
  obtain ⟨F, G, h1, h2, h3, h4, h5, h6⟩ := h
  exact ⟨F, h1, h4, h6⟩
theorem Ow2.b {w0 w : World} {p q : Nat} {ms ns : List Bool} (h : Ow2 w0 w p ms q ns) : Ow w0 w q ns := by
  obtain ⟨F, G, h1, h2, h3, h4, h5, h6⟩ := h
  exact ⟨G, h2, h5, h6⟩
theorem Ow2.drewN {w0 w : World} {p q : Nat} {ms ns : List Bool} (h : Ow2 w0 w p ms q ns) (n : Nat) : Ow2 w0 (w.drewN n) p ms q ns := by
  obtain ⟨F, G, h1, h2, h3, h4, h5, h6⟩ := h
  exact ⟨F, G, h1.drewN n, h2.drewN n, h3, h4, h5, pw_below_drewN h6 n⟩
theorem Ow2.swap {w0 w : World} {p q : Nat} {ms ns : List Bool} (h : Ow2 w0 w p ms q ns) : Ow2 w0 w q ns p ms := by
  obtain ⟨F, G, h1, h2, h3, h4, h5, h6⟩ := h
  exact ⟨G, F, h2, h1, fun k hk hm => h3 k hm hk, h5, h4, h6⟩
theorem new_ow2 {w0 w : World} {p : Nat} {ms : List Bool} (h : Ow w0 w p ms) : Calls Try.prog 15 #[] w fun e w' => ∃ q, e = .returned (.pointer (some ⟨q, 0, none⟩)) ∧ Ow2 w0 w' p ms q [] := by
  obtain ⟨F, h1, h2, h3⟩ := h
  refine (new_calls w).mono ?_
  rintro e w' ⟨q, G, rfl, h4, h5, h6⟩
  exact ⟨q, rfl, F, G, h1.below h5, h4, fun k hk hm => by have := h1.lt k hk; have := h6 k hm; omega, h2, fun k hk => Nat.le_trans h3.size (h6 k hk), below_step h3 h5⟩
theorem ins_2 {w0 w : World} {p q : Nat} {ms ns : List Bool} (a : Int) (u : Bool) (r : Bool) (ms' : List Bool) (e : insS ms a u = (r, ms')) (h : Ow2 w0 w p ms q ns) (hs : ms.length ≤ 1000000) : Calls Try.prog 16 #[.pointer (some ⟨p, 0, none⟩), .int .i64 a, .bool u] w fun e w' => e = .returned (.bool r) ∧ Ow2 w0 w' p ms' q ns := by
  obtain ⟨F, G, h1, h2, h3, h4, h5, h6⟩ := h
  refine (ins_calls w F p ms a u h1 hs).mono ?_
  rw [e]
  rintro e w' ⟨rfl, F', i1, i2, i3⟩
  exact ⟨rfl, F', G, i1, h2.fr i2 (fun k hk hm => h3 k hm hk), fun k hk hm => (i3 k hk).elim (fun h => h3 k h hm) (fun h => by have := h2.lt k hm; omega), fun k hk => (i3 k hk).elim (h4 k) (fun h => Nat.le_trans h6.size h), h5, i2.below h6 h4⟩
theorem ins_2b {w0 w : World} {p q : Nat} {ms ns : List Bool} (a : Int) (u : Bool) (r : Bool) (ns' : List Bool) (e : insS ns a u = (r, ns')) (h : Ow2 w0 w p ms q ns) (hs : ns.length ≤ 1000000) : Calls Try.prog 16 #[.pointer (some ⟨q, 0, none⟩), .int .i64 a, .bool u] w fun e w' => e = .returned (.bool r) ∧ Ow2 w0 w' p ms q ns' :=
  (ins_2 a u r ns' e h.swap hs).mono fun _ _ h => ⟨h.1, h.2.swap⟩
theorem seenS_nat (ms : List Bool) (i : Nat) : seenS ms (i : Int) = ms.getD i false := by unfold seenS; simp
theorem seenS_get (ms : List Bool) (i : Nat) (h : i < ms.length) : seenS ms (i : Int) = ms[i] := by rw [seenS_nat]; simp [h]
theorem rankS_nat (ms : List Bool) (i : Nat) : rankS ms (i : Int) = (cn (ms.take i) : Int) := by unfold rankS; simp
theorem rankS_succ (ms : List Bool) (i : Nat) (h : i < ms.length) : rankS ms ((i : Int) + 1) = rankS ms (i : Int) + if ms[i] = true then 1 else 0 := by
  rw [show (i : Int) + 1 = ((i + 1 : Nat) : Int) by simp, rankS_nat, rankS_nat, cn_take_succ ms i h]
  split <;> simp
theorem rankS_all (ms : List Bool) (a : Int) (h : (ms.length : Int) ≤ a) : rankS ms a = (cn ms : Int) := by
  unfold rankS
  rw [List.take_of_length_le (by omega)]
theorem rankS_neg (ms : List Bool) (a : Int) (h : a ≤ 0) : rankS ms a = 0 := by
  unfold rankS
  rw [show a.toNat = 0 by omega]
  simp [cn]
theorem sel_rank (ms : List Bool) (i : Nat) (h : i < ms.length) (ht : ms[i] = true) : sel ms (cn (ms.take i)) = some i := by
  have e : ms = ms.take i ++ ms.drop i := (List.take_append_drop i ms).symm
  conv => lhs; rw [e]
  rw [sel_app, if_neg (by rw [← e]; omega), ← e, Nat.sub_self, List.drop_eq_getElem_cons h, ht]
  simp [sel]
  omega
theorem selS_rank (ms : List Bool) (i : Nat) (h : i < ms.length) (ht : ms[i] = true) : selS ms (rankS ms (i : Int)) = ((i : Int), true) := by
  unfold selS
  rw [rankS_nat, if_pos (by omega), Int.toNat_natCast, sel_rank ms i h ht]
theorem selS_over (ms : List Bool) : selS ms (cn ms : Int) = (0, false) := by
  unfold selS
  rw [if_pos (by omega), Int.toNat_natCast, sel_none _ _ (Nat.le_refl _)]
theorem insS_in (ms : List Bool) (i : Nat) (u : Bool) (h : i ≤ ms.length) : insS ms (i : Int) u = (true, ms.take i ++ [u] ++ ms.drop i) := by
  unfold insS
  rw [if_pos ⟨by omega, by omega⟩, Int.toNat_natCast]
theorem insS_end (ms : List Bool) (u : Bool) : insS ms (ms.length : Int) u = (true, ms ++ [u]) := by
  rw [insS_in _ _ _ (Nat.le_refl _)]; simp
theorem insS_head (ms : List Bool) (u : Bool) : insS ms 0 u = (true, u :: ms) := by
  have := insS_in ms 0 u (Nat.zero_le _)
  simpa using this
theorem cn_mono (ms : List Bool) (i : Nat) : cn (ms.take i) ≤ cn ms := by
  conv => rhs; rw [← List.take_append_drop i ms, cn_app]
  omega
end Go.Proofs.Ytbbiocmlicoipaa.PC
