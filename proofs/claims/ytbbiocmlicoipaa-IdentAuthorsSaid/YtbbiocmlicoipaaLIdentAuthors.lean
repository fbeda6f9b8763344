/- IdentAuthors: the walk comes to true. -/
import Derived.Test.YtbbiocmlicoipaaE6
namespace Go.Proofs.Ytbbiocmlicoipaa.PC
open Go.RowKit Go.Proofs.YtbbiocmlicoipaaW.PrintWords Go.Proofs.YtbbiocmlicoipaaW.PrintLast Go.Proofs.YtbbiocmlicoipaaW.PrintMore Go.Proofs.Ytbbiocmlicoipaa.K Go.Proofs.Ytbbiocmlicoipaa.I
attribute [local go_sem] max2_int min2_int max_two min_two max_three min_three max_four min_four
set_option linter.unusedVariables false
set_option linter.unusedSimpArgs false
theorem author_in {a b : Int} (h : 0 ≤ a ∧ a < 64 ∧ 0 ≤ b ∧ b < 65536) : ident_Author.f a b = some (a * 65536 + b, true) := by
  obtain ⟨h1, h2, h3, h4⟩ := h
  have e1 : ident_in.f a 0 63 = some true := by unfold ident_in.f; rw [if_pos h1, decide_eq_true (by omega)]
  have e2 : ident_in.f b 0 65535 = some true := by unfold ident_in.f; rw [if_pos h3, decide_eq_true (by omega)]
  unfold ident_Author.f
  rw [e1, Option.bind_some, if_pos rfl, e2, Option.bind_some, if_pos rfl]
  have : wrap64 (wrap64 (a * 65536) + b) = a * 65536 + b := by simp only [wrap64, IntKind.wrap_i64]; omega
  rw [this]
theorem author_out {a b : Int} (h : ¬ (0 ≤ a ∧ a < 64 ∧ 0 ≤ b ∧ b < 65536)) : ident_Author.f a b = some (0, false) := by
  unfold ident_Author.f ident_in.f
  by_cases h1 : a ≥ 0
  · by_cases h2 : a ≤ 63
    · by_cases h3 : b ≥ 0
      · have h4 : ¬ b ≤ 65535 := by omega
        rw [if_pos h1, decide_eq_true h2, Option.bind_some, if_pos rfl, if_pos h3, decide_eq_false h4]; rfl
      · rw [if_pos h1, decide_eq_true h2, Option.bind_some, if_pos rfl, if_neg h3]; rfl
    · rw [if_pos h1, decide_eq_false h2]; rfl
  · rw [if_neg h1]; rfl
theorem parts_in {n : Int} (h : 0 ≤ n ∧ n < 4194304) : ident_Parts.f n = some (n / 65536, n % 65536, true) := by
  have e1 : ident_in.f n 0 4194303 = some true := by unfold ident_in.f; rw [if_pos h.1, decide_eq_true (by omega)]
  unfold ident_Parts.f
  rw [e1, Option.bind_some, if_pos rfl, Int.tdiv_eq_ediv_of_nonneg h.1, Int.tmod_eq_emod_of_nonneg h.1]
  have : wrap64 (n / 65536) = n / 65536 := by simp only [wrap64, IntKind.wrap_i64]; omega
  rw [this]
theorem parts_out {n : Int} (h : ¬ (0 ≤ n ∧ n < 4194304)) : ident_Parts.f n = some (0, 0, false) := by
  unfold ident_Parts.f ident_in.f
  by_cases h1 : n ≥ 0
  · rw [if_pos h1, decide_eq_false (by omega)]; rfl
  · rw [if_neg h1]; rfl
set_option maxHeartbeats 8000000 in
set_option maxRecDepth 100000 in
theorem authors_walk (a b c d n x y r k z : Int) (one two ok is : Bool) (w : World) (h1 : ident_Author.f a b = some (x, one)) (h2 : ident_Author.f c d = some (y, two)) (h3 : ident_Parts.f n = some (r, k, ok)) (h4 : ident_Author.f r k = some (z, is))
    (hp : one = true → ident_Parts.f x = some (a, b, true)) (hxy : one = true → two = true → (x = y ↔ a = c ∧ b = d)) (hz : ok = true → is = true ∧ z = n)
    (hone : (one = true ∧ 0 ≤ a ∧ a < 64 ∧ 0 ≤ b ∧ b < 65536) ∨ (one = false ∧ (a < 0 ∨ (0 ≤ a ∧ ¬ a < 64) ∨ (0 ≤ a ∧ a < 64 ∧ b < 0) ∨ (0 ≤ a ∧ a < 64 ∧ 0 ≤ b ∧ ¬ b < 65536))))
    (hok : (ok = true ∧ 0 ≤ n ∧ n < 4194304) ∨ (ok = false ∧ (n < 0 ∨ (0 ≤ n ∧ ¬ n < 4194304)))) :
    Calls Try.prog 8 #[.int .i64 a, .int .i64 b, .int .i64 c, .int .i64 d, .int .i64 n] w fun e w' => e = .returned (.bool true) ∧ Below w.heap.size w w' := by
  have hcase : (one = false) ∨ (two = false) ∨ (two = true ∧ x = y ∧ a = c ∧ b = d) ∨ (two = true ∧ x ≠ y ∧ a ≠ c) ∨ (two = true ∧ x ≠ y ∧ a = c ∧ b ≠ d ∧ (b == d) = false ∧ decide (b = d) = false) := by
    cases one
    · exact .inl rfl
    · cases two
      · exact .inr (.inl rfl)
      · have := hxy rfl rfl
        by_cases e1 : a = c
        · by_cases e2 : b = d
          · exact .inr (.inr (.inl ⟨rfl, this.2 ⟨e1, e2⟩, e1, e2⟩))
          · exact .inr (.inr (.inr (.inr ⟨rfl, fun h => e2 (this.1 h).2, e1, e2, by simpa using e2, by simpa using e2⟩)))
        · exact .inr (.inr (.inr (.inl ⟨rfl, fun h => e1 (this.1 h).1, e1⟩)))
  have hlt : ∀ t : Int, ¬ b < t → decide (b < t) = false := fun t h => decide_eq_false h
  have H1 := Lib.hid h1
  have H2 := Lib.hid h2
  have H3 := Lib.hid h3
  have H4 := Lib.hid h4
  have HP := Lib.hid hp
  clear h1 h2 h3 h4 hp hxy
  rcases hok with ⟨rfl, hn0, hn1⟩ | ⟨rfl, hn0 | ⟨hn0, hn1⟩⟩
  · obtain ⟨rfl, rfl⟩ := hz rfl
    clear hz
    rcases hone with ⟨rfl, ha0, ha1, hb0, hb1⟩ | ⟨rfl, ha0 | ⟨ha0, ha1⟩ | ⟨ha0, ha1, hb0⟩ | ⟨ha0, ha1, hb0, hb1⟩⟩
    · rcases hcase with h | rfl | ⟨rfl, rfl, rfl, rfl⟩ | ⟨rfl, hxy, hac⟩ | ⟨rfl, hxy, rfl, hbd, hbd2, hbd3⟩
      · cases h
      all_goals (
        go_enter Try.func8, Try.ntmps8
        go_wp2_with (first
          | (go_at_call 27; refine (shown12_calls _).mono ?_; rintro e w1 ⟨rfl, hb⟩; have HB := Lib.hid hb; clear hb)
          | (go_at_call 28; with_reducible refine (ident_Author.calls _ _ _ _ _ H1.out).mono ?_; rintro e w2 ⟨rfl, ⟨n1, rfl⟩⟩)
          | (go_at_call 28; with_reducible refine (ident_Author.calls _ _ _ _ _ H2.out).mono ?_; rintro e w2 ⟨rfl, ⟨n1, rfl⟩⟩)
          | (go_at_call 29; with_reducible refine (ident_Parts.calls _ _ _ _ _ (HP.out (by first | rfl | trivial))).mono ?_; rintro e w2 ⟨rfl, ⟨n1, rfl⟩⟩)
          | (go_at_call 29; with_reducible refine (ident_Parts.calls _ _ _ _ _ H3.out).mono ?_; rintro e w2 ⟨rfl, ⟨n1, rfl⟩⟩)
          | (go_at_call 28; with_reducible refine (ident_Author.calls _ _ _ _ _ H4.out).mono ?_; rintro e w2 ⟨rfl, ⟨n1, rfl⟩⟩))
        go_ret
        exact ⟨by first | rfl | (simp [*]; done) | (exfalso; simp_all), by repeat (first | exact HB.out | apply pw_below_drewN)⟩)
    all_goals (
      go_enter Try.func8, Try.ntmps8
      go_wp2_with (first
        | (go_at_call 27; refine (shown12_calls _).mono ?_; rintro e w1 ⟨rfl, hb⟩; have HB := Lib.hid hb; clear hb)
        | (go_at_call 28; with_reducible refine (ident_Author.calls _ _ _ _ _ H1.out).mono ?_; rintro e w2 ⟨rfl, ⟨n1, rfl⟩⟩)
        | (go_at_call 28; with_reducible refine (ident_Author.calls _ _ _ _ _ H2.out).mono ?_; rintro e w2 ⟨rfl, ⟨n1, rfl⟩⟩)
        | (go_at_call 29; with_reducible refine (ident_Parts.calls _ _ _ _ _ (HP.out (by first | rfl | trivial))).mono ?_; rintro e w2 ⟨rfl, ⟨n1, rfl⟩⟩)
        | (go_at_call 29; with_reducible refine (ident_Parts.calls _ _ _ _ _ H3.out).mono ?_; rintro e w2 ⟨rfl, ⟨n1, rfl⟩⟩)
        | (go_at_call 28; with_reducible refine (ident_Author.calls _ _ _ _ _ H4.out).mono ?_; rintro e w2 ⟨rfl, ⟨n1, rfl⟩⟩))
      go_ret
      exact ⟨by first | rfl | (simp [*]; done) | (exfalso; simp_all), by repeat (first | exact HB.out | apply pw_below_drewN)⟩)
  all_goals (
    clear hz
    rcases hone with ⟨rfl, ha0, ha1, hb0, hb1⟩ | ⟨rfl, ha0 | ⟨ha0, ha1⟩ | ⟨ha0, ha1, hb0⟩ | ⟨ha0, ha1, hb0, hb1⟩⟩)
  all_goals try (rcases hcase with h | rfl | ⟨rfl, rfl, rfl, rfl⟩ | ⟨rfl, hxy, hac⟩ | ⟨rfl, hxy, rfl, hbd, hbd2, hbd3⟩; (cases h))
  all_goals (
    go_enter Try.func8, Try.ntmps8
    go_wp2_with (first
      | (go_at_call 27; refine (shown12_calls _).mono ?_; rintro e w1 ⟨rfl, hb⟩; have HB := Lib.hid hb; clear hb)
      | (go_at_call 28; with_reducible refine (ident_Author.calls _ _ _ _ _ H1.out).mono ?_; rintro e w2 ⟨rfl, ⟨n1, rfl⟩⟩)
      | (go_at_call 28; with_reducible refine (ident_Author.calls _ _ _ _ _ H2.out).mono ?_; rintro e w2 ⟨rfl, ⟨n1, rfl⟩⟩)
      | (go_at_call 29; with_reducible refine (ident_Parts.calls _ _ _ _ _ (HP.out (by first | rfl | trivial))).mono ?_; rintro e w2 ⟨rfl, ⟨n1, rfl⟩⟩)
      | (go_at_call 29; with_reducible refine (ident_Parts.calls _ _ _ _ _ H3.out).mono ?_; rintro e w2 ⟨rfl, ⟨n1, rfl⟩⟩)
      | (go_at_call 28; with_reducible refine (ident_Author.calls _ _ _ _ _ H4.out).mono ?_; rintro e w2 ⟨rfl, ⟨n1, rfl⟩⟩))
    go_ret
    exact ⟨by first | rfl | (simp [*]; done) | (exfalso; simp_all), by repeat (first | exact HB.out | apply pw_below_drewN)⟩)
end Go.Proofs.Ytbbiocmlicoipaa.PC
