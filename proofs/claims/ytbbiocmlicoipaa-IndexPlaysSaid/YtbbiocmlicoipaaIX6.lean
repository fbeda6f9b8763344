/- An index of a law's own, handed from step to step; the laws' shown of index comes to true. -/
import Derived.Test.YtbbiocmlicoipaaIX4
namespace Go.Proofs.Ytbbiocmlicoipaa.PC
open Go.RowKit Go.Proofs.YtbbiocmlicoipaaW.PrintWords Go.Proofs.YtbbiocmlicoipaaW.PrintLast Go.Proofs.YtbbiocmlicoipaaW.PrintMore Go.Proofs.Ytbbiocmlicoipaa.K Go.Proofs.Ytbbiocmlicoipaa.IX
attribute [local go_sem] max2_int min2_int max_two min_two max_three min_three max_four min_four
set_option linter.unusedVariables false
set_option linter.unusedSimpArgs false
/-- An index that the law made, and nothing that was there has changed. -/
def Ow (w0 w : World) (p : Nat) (ms : List Bool) : Prop := ∃ F, Ix w F p ms ∧ (∀ k ∈ F, w0.heap.size ≤ k) ∧ Below w0.heap.size w0 w
theorem Ow.below {w0 w w' : World} {p : Nat} {ms : List Bool} (h : Ow w0 w p ms) (hb : Below w.heap.size w w') : Ow w0 w' p ms := by
  obtain ⟨F, h1, h2, h3⟩ := h
  exact ⟨F, h1.below hb, h2, below_step h3 hb⟩
theorem Ow.drewN {w0 w : World} {p : Nat} {ms : List Bool} (h : Ow w0 w p ms) (n : Nat) : Ow w0 (w.drewN n) p ms := by
  obtain ⟨F, h1, h2, h3⟩ := h
  exact ⟨F, h1.drewN n, h2, pw_below_drewN h3 n⟩
theorem Ow.bel {w0 w : World} {p : Nat} {ms : List Bool} (h : Ow w0 w p ms) : Below w0.heap.size w0 w := by
  obtain ⟨F, h1, h2, h3⟩ := h
  exact h3
theorem new_ow {w0 w : World} (h : Below w0.heap.size w0 w) : Calls Try.prog 15 #[] w fun e w' => ∃ p, e = .returned (.pointer (some ⟨p, 0, none⟩)) ∧ Ow w0 w' p [] := by
  refine (new_calls w).mono ?_
  rintro e w' ⟨p, F, rfl, h1, h2, h3⟩
  exact ⟨p, rfl, F, h1, fun k hk => Nat.le_trans h.size (h3 k hk), below_step h h2⟩
theorem ins_ow {w0 w : World} {p : Nat} {ms : List Bool} (a : Int) (u : Bool) (h : Ow w0 w p ms) (hs : ms.length ≤ 1000000) : Calls Try.prog 16 #[.pointer (some ⟨p, 0, none⟩), .int .i64 a, .bool u] w fun e w' => e = .returned (.bool (insS ms a u).1) ∧ Ow w0 w' p (insS ms a u).2 := by
  obtain ⟨F, h1, h2, h3⟩ := h
  refine (ins_calls w F p ms a u h1 hs).mono ?_
  rintro e w' ⟨rfl, F', h4, h5, h6⟩
  exact ⟨rfl, F', h4, fun k hk => (h6 k hk).elim (h2 k) (fun h => Nat.le_trans h3.size h), h5.below h3 h2⟩
theorem set_ow {w0 w : World} {p : Nat} {ms : List Bool} (a : Int) (u : Bool) (h : Ow w0 w p ms) (hs : ms.length ≤ 1000000) : Calls Try.prog 22 #[.pointer (some ⟨p, 0, none⟩), .int .i64 a, .bool u] w fun e w' => e = .returned (.bool (setS ms a u).1) ∧ Ow w0 w' p (setS ms a u).2 := by
  obtain ⟨F, h1, h2, h3⟩ := h
  refine (set_calls w F p ms a u h1 hs).mono ?_
  rintro e w' ⟨rfl, h4, h5⟩
  exact ⟨rfl, F, h4, h2, h5.below h3 h2⟩
theorem len_ow {w0 w : World} {p : Nat} {ms : List Bool} (h : Ow w0 w p ms) : Calls Try.prog 17 #[.pointer (some ⟨p, 0, none⟩)] w fun e w' => e = .returned (.int .i64 (ms.length : Int)) ∧ w = w' := by
  obtain ⟨F, h1, _⟩ := h
  exact len_calls w F p ms h1
theorem count_ow {w0 w : World} {p : Nat} {ms : List Bool} (h : Ow w0 w p ms) : Calls Try.prog 21 #[.pointer (some ⟨p, 0, none⟩)] w fun e w' => e = .returned (.int .i64 (cn ms : Int)) ∧ w = w' := by
  obtain ⟨F, h1, _⟩ := h
  exact count_calls w F p ms h1
theorem seen_ow {w0 w : World} {p : Nat} {ms : List Bool} (a : Int) (h : Ow w0 w p ms) (hs : ms.length ≤ 1000000) : Calls Try.prog 19 #[.pointer (some ⟨p, 0, none⟩), .int .i64 a] w fun e w' => e = .returned (.bool (seenS ms a)) ∧ ∃ n, w' = w.drewN n := by
  obtain ⟨F, h1, _⟩ := h
  exact seen_calls w F p ms a h1 hs
theorem rank_ow {w0 w : World} {p : Nat} {ms : List Bool} (a : Int) (h : Ow w0 w p ms) (hs : ms.length ≤ 1000000) : Calls Try.prog 18 #[.pointer (some ⟨p, 0, none⟩), .int .i64 a] w fun e w' => e = .returned (.int .i64 (rankS ms a)) ∧ ∃ n, w' = w.drewN n := by
  obtain ⟨F, h1, _⟩ := h
  exact rank_calls w F p ms a h1 hs
theorem sel_ow {w0 w : World} {p : Nat} {ms : List Bool} (a : Int) (h : Ow w0 w p ms) (hs : ms.length ≤ 1000000) : Calls Try.prog 20 #[.pointer (some ⟨p, 0, none⟩), .int .i64 a] w fun e w' => e = .returned (.tuple #[.int .i64 (selS ms a).1, .bool (selS ms a).2]) ∧ ∃ n, w' = w.drewN n := by
  obtain ⟨F, h1, _⟩ := h
  exact select_calls w F p ms a h1 hs
/-- The same, with what is told given by name. -/
theorem ins_is {w0 w : World} {p : Nat} {ms : List Bool} (a : Int) (u : Bool) (r : Bool) (ms' : List Bool) (e : insS ms a u = (r, ms')) (h : Ow w0 w p ms) (hs : ms.length ≤ 1000000) : Calls Try.prog 16 #[.pointer (some ⟨p, 0, none⟩), .int .i64 a, .bool u] w fun e w' => e = .returned (.bool r) ∧ Ow w0 w' p ms' := by
  have := ins_ow a u h hs
  rw [e] at this
  exact this
theorem set_is {w0 w : World} {p : Nat} {ms : List Bool} (a : Int) (u : Bool) (r : Bool) (ms' : List Bool) (e : setS ms a u = (r, ms')) (h : Ow w0 w p ms) (hs : ms.length ≤ 1000000) : Calls Try.prog 22 #[.pointer (some ⟨p, 0, none⟩), .int .i64 a, .bool u] w fun e w' => e = .returned (.bool r) ∧ Ow w0 w' p ms' := by
  have := set_ow a u h hs
  rw [e] at this
  exact this
theorem seen_is {w0 w : World} {p : Nat} {ms : List Bool} (a : Int) (r : Bool) (e : seenS ms a = r) (h : Ow w0 w p ms) (hs : ms.length ≤ 1000000) : Calls Try.prog 19 #[.pointer (some ⟨p, 0, none⟩), .int .i64 a] w fun e w' => e = .returned (.bool r) ∧ ∃ n, w' = w.drewN n := by
  have := seen_ow a h hs
  rw [e] at this
  exact this
theorem rank_is {w0 w : World} {p : Nat} {ms : List Bool} (a r : Int) (e : rankS ms a = r) (h : Ow w0 w p ms) (hs : ms.length ≤ 1000000) : Calls Try.prog 18 #[.pointer (some ⟨p, 0, none⟩), .int .i64 a] w fun e w' => e = .returned (.int .i64 r) ∧ ∃ n, w' = w.drewN n := by
  have := rank_ow a h hs
  rw [e] at this
  exact this
theorem sel_is {w0 w : World} {p : Nat} {ms : List Bool} (a r : Int) (b : Bool) (e : selS ms a = (r, b)) (h : Ow w0 w p ms) (hs : ms.length ≤ 1000000) : Calls Try.prog 20 #[.pointer (some ⟨p, 0, none⟩), .int .i64 a] w fun e w' => e = .returned (.tuple #[.int .i64 r, .bool b]) ∧ ∃ n, w' = w.drewN n := by
  have := sel_ow a h hs
  rw [e] at this
  exact this
theorem count_is {w0 w : World} {p : Nat} {ms : List Bool} (r : Int) (e : (cn ms : Int) = r) (h : Ow w0 w p ms) : Calls Try.prog 21 #[.pointer (some ⟨p, 0, none⟩)] w fun e w' => e = .returned (.int .i64 r) ∧ w = w' := by
  have := count_ow h
  rw [e] at this
  exact this
theorem len_is {w0 w : World} {p : Nat} {ms : List Bool} (r : Int) (e : (ms.length : Int) = r) (h : Ow w0 w p ms) : Calls Try.prog 17 #[.pointer (some ⟨p, 0, none⟩)] w fun e w' => e = .returned (.int .i64 r) ∧ w = w' := by
  have := len_ow h
  rw [e] at this
  exact this
set_option maxHeartbeats 4000000 in
set_option maxRecDepth 100000 in
theorem shown13_calls (w : World) : Calls Try.prog 14 #[] w fun e w' => e = .returned (.bool true) ∧ Below w.heap.size w w' := by
  have K1 := Lib.hid (fun w1 p (h : Ow w w1 p []) => ins_is 0 true true [true] (by rfl) h (by decide))
  have K2 := Lib.hid (fun w1 p (h : Ow w w1 p [true]) => ins_is 1 true true [true, true] (by rfl) h (by decide))
  have K3 := Lib.hid (fun w1 p (h : Ow w w1 p [true, true]) => ins_is 1 false true [true, false, true] (by rfl) h (by decide))
  have K4 := Lib.hid (fun w1 p (h : Ow w w1 p [true, false, true]) => sel_is 1 2 true (by rfl) h (by decide))
  have K5 := Lib.hid (fun w1 p (h : Ow w w1 p [true, false, true]) => len_is 3 (by rfl) h)
  have K6 := Lib.hid (fun w1 p (h : Ow w w1 p [true, false, true]) => count_is 2 (by rfl) h)
  have K7 := Lib.hid (fun w1 p (h : Ow w w1 p [true, false, true]) => rank_is 2 1 (by rfl) h (by decide))
  have K8 := Lib.hid (fun w1 p (h : Ow w w1 p [true, false, true]) => seen_is 1 false (by rfl) h (by decide))
  have K9 := Lib.hid (fun w1 p (h : Ow w w1 p [true, false, true]) => ins_is 4 true false [true, false, true] (by rfl) h (by decide))
  go_enter Try.func14, Try.ntmps14
  go_wp2_with (first
    | (go_at_call 15; refine (new_ow (Below.refl _ w)).mono ?_; rintro e w1 ⟨p, rfl, ho⟩; have H0 := Lib.hid ho; clear ho)
    | (go_at_call 16; with_reducible refine (K1.out _ _ H0.out).mono ?_; rintro e w2 ⟨rfl, ho⟩; have H1 := Lib.hid ho; clear ho)
    | (go_at_call 16; with_reducible refine (K2.out _ _ H1.out).mono ?_; rintro e w3 ⟨rfl, ho⟩; have H2 := Lib.hid ho; clear ho)
    | (go_at_call 16; with_reducible refine (K3.out _ _ H2.out).mono ?_; rintro e w4 ⟨rfl, ho⟩; have H3 := Lib.hid ho; clear ho)
    | (go_at_call 20; with_reducible refine (K4.out _ _ H3.out).mono ?_; rintro e w5 ⟨rfl, n5, hw5⟩; have H4 := Lib.hid (show Ow w w5 p [true, false, true] from by rw [hw5]; exact H3.out.drewN n5); clear hw5)
    | (go_at_call 17; with_reducible refine (K5.out _ _ H4.out).mono ?_; rintro e w6 ⟨rfl, rfl⟩)
    | (go_at_call 21; with_reducible refine (K6.out _ _ H4.out).mono ?_; rintro e w7 ⟨rfl, rfl⟩)
    | (go_at_call 18; with_reducible refine (K7.out _ _ H4.out).mono ?_; rintro e w8 ⟨rfl, n8, hw8⟩; have H5 := Lib.hid (show Ow w w8 p [true, false, true] from by rw [hw8]; exact H4.out.drewN n8); clear hw8)
    | (go_at_call 19; with_reducible refine (K8.out _ _ H5.out).mono ?_; rintro e w9 ⟨rfl, n9, hw9⟩; have H6 := Lib.hid (show Ow w w9 p [true, false, true] from by rw [hw9]; exact H5.out.drewN n9); clear hw9)
    | (go_at_call 16; with_reducible refine (K9.out _ _ H6.out).mono ?_; rintro e w10 ⟨rfl, ho⟩; have H7 := Lib.hid ho; clear ho))
  go_ret
  exact ⟨rfl, H7.out.bel⟩
end Go.Proofs.Ytbbiocmlicoipaa.PC
