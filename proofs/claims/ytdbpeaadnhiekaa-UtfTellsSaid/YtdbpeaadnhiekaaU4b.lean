/- The reference's guess, whole and Begins come to the printed functions' answers, where these tell one. (The lines of this text began as lines that a program of the kit had written for this statement; the walk of one function is turned.) -/
import Derived.Test.YtdbpeaadnhiekaaU4
namespace Go.Proofs.Ytdbpeaadnhiekaa.PU
open Go.RowKit Go.Proofs.YtdbpeaadnhiekaaW.PrintWords Go.Proofs.YtdbpeaadnhiekaaW.PrintLast Go.Proofs.YtdbpeaadnhiekaaW.PrintMore
attribute [local go_sem] max2_int min2_int max_two min_two max_three min_three max_four min_four
set_option linter.unusedVariables false
set_option linter.unusedSimpArgs false

mutual
def foolscapref01_guess.j0 : Nat → ByteArray → Int → Int → Option (Int)
  | 0, _, _, _ => none
  | k + 1, x0, x1, x5 => foolscapref01_guess.l0 k x0 x1 x5 1
def foolscapref01_guess.l0 : Nat → ByteArray → Int → Int → Int → Option (Int)
  | 0, _, _, _, _ => none
  | k + 1, x0, x1, x5, x6 => if x6 < x1 then (if 0 ≤ x6 then (if x6 < (x0.size : Int) then (foolscapref01_guess.l0 k x0 x1 (wrap64 ((wrap64 (x5 * 64)) + (Int.tmod (wrap64 (bt x0 x6)) 64))) (wrap64 (x6 + 1))) else (none)) else (none)) else (some (wrap32 (x5)))
end
def foolscapref01_guess.f (k : Nat) (a0 : ByteArray) (a1 : Int) : Option (Int) := if 0 < (a0.size : Int) then (if a1 > 1 then (if 0 ≤ (IntKind.u64.wrap (wrap64 (7 - a1))) then (if (shl .i64 1 (IntKind.u64.wrap (wrap64 (7 - a1)))) = 0 then (none) else (foolscapref01_guess.j0 k a0 a1 (Int.tmod (wrap64 (bt a0 0)) (shl .i64 1 (IntKind.u64.wrap (wrap64 (7 - a1))))))) else (none)) else (foolscapref01_guess.j0 k a0 a1 (wrap64 (bt a0 0)))) else (none)
theorem foolscapref01_guess.mono_l : ∀ k, (∀ y0 y1 y2, LeO (foolscapref01_guess.j0 k y0 y1 y2) (foolscapref01_guess.j0 (k + 1) y0 y1 y2)) ∧ (∀ y0 y1 y2 y3, LeO (foolscapref01_guess.l0 k y0 y1 y2 y3) (foolscapref01_guess.l0 (k + 1) y0 y1 y2 y3))
  | 0 => ⟨fun _ _ _ r h => by simp [foolscapref01_guess.j0] at h, fun _ _ _ _ r h => by simp [foolscapref01_guess.l0] at h⟩
  | k + 1 => by
    obtain ⟨ih0, ih1⟩ := foolscapref01_guess.mono_l k
    refine ⟨?_, ?_⟩
    · intro y0 y1 y2
      unfold foolscapref01_guess.j0
      repeat' first
      | (with_reducible exact ih0 _ _ _)
      | (with_reducible exact ih1 _ _ _ _)
      | (with_reducible exact LeO.refl _)
      | (with_reducible exact LeO.none _)
      | (with_reducible refine LeO.ite ?_ ?_)
      | (with_reducible refine LeO.bind ?_ (fun _ => ?_))
      | exact ih0 _ _ _
      | exact ih1 _ _ _ _
      | exact LeO.none _
      | refine LeO.ite ?_ ?_
      | refine LeO.bind ?_ (fun _ => ?_)
    · intro y0 y1 y2 y3
      unfold foolscapref01_guess.l0
      repeat' first
      | (with_reducible exact ih0 _ _ _)
      | (with_reducible exact ih1 _ _ _ _)
      | (with_reducible exact LeO.refl _)
      | (with_reducible exact LeO.none _)
      | (with_reducible refine LeO.ite ?_ ?_)
      | (with_reducible refine LeO.bind ?_ (fun _ => ?_))
      | exact ih0 _ _ _
      | exact ih1 _ _ _ _
      | exact LeO.none _
      | refine LeO.ite ?_ ?_
      | refine LeO.bind ?_ (fun _ => ?_)
theorem foolscapref01_guess.mono : ∀ a0 a1 k, LeO (foolscapref01_guess.f k a0 a1) (foolscapref01_guess.f (k + 1) a0 a1) := by
  intro a0 a1 k
  obtain ⟨ih0, ih1⟩ := foolscapref01_guess.mono_l k
  unfold foolscapref01_guess.f
  repeat' first
      | (with_reducible exact ih0 _ _ _)
      | (with_reducible exact ih1 _ _ _ _)
      | (with_reducible exact LeO.refl _)
      | (with_reducible exact LeO.none _)
      | (with_reducible refine LeO.ite ?_ ?_)
      | (with_reducible refine LeO.bind ?_ (fun _ => ?_))
      | exact ih0 _ _ _
      | exact ih1 _ _ _ _
      | exact LeO.none _
      | refine LeO.ite ?_ ?_
      | refine LeO.bind ?_ (fun _ => ?_)
set_option maxHeartbeats 8000000 in
set_option maxRecDepth 100000 in
theorem foolscapref01_guess.calls (k : Nat) (a0 : ByteArray) (a1 : Int) (r : Int) (w : World) (h : foolscapref01_guess.f k a0 a1 = some r) :
    Calls Try.prog 28 #[.string a0, .int .i64 a1] w fun e w' => e = .returned (.int .i32 r) ∧ Drawn0 w w' := by
  have H : (if 0 < (a0.size : Int) then (if a1 > 1 then (if 0 ≤ (IntKind.u64.wrap (wrap64 (7 - a1))) then (if (shl .i64 1 (IntKind.u64.wrap (wrap64 (7 - a1)))) = 0 then (none) else (foolscapref01_guess.j0 k a0 a1 (Int.tmod (wrap64 (bt a0 0)) (shl .i64 1 (IntKind.u64.wrap (wrap64 (7 - a1))))))) else (none)) else (foolscapref01_guess.j0 k a0 a1 (wrap64 (bt a0 0)))) else (none)) = some r := h
  clear h
  by_cases c3 : 0 < (a0.size : Int)
  · rw [if_pos c3] at H
    have c3b0 : decide (0 < (a0.size : Int)) = true := decide_eq_true c3
    have c3b1 : decide (0 < a0.size) = true := decide_eq_true (by omega)
    clear c3
    have HC5 := Aside0.mk H
    clear H
    have p4 : 0 ≤ (0 : Int) := (by omega)
    have q4 : 0 < a0.size := (by have : (0 : Int) < (a0.size : Int) := of_decide_eq_true (by first | (with_reducible assumption) | assumption); omega)
    have hx4 : ∀ h : 0 < a0.size, ((a0[0]'h).toNat : Int) = bt a0 0 := bt_at a0 0
    clear p4
    have qi4 : (0 < (a0.size : Int)) = True := eq_true (of_decide_eq_true (by first | (with_reducible assumption) | assumption))
    replace q4 := eq_true q4
    go_enter Try.func28, Try.ntmps28
    go_upto_if 11 with (fail)
    go_cut [5] (fun v5 wc => ∃ (kq : Nat) (x5_4 : Int), v5 = .int .i64 x5_4 ∧ Aside0 (foolscapref01_guess.j0 kq a0 a1 x5_4 = some r) ∧ Aside0 (kq ≤ k) ∧ Drawn0 w wc)
    case first =>
      have H := HC5.out
      clear HC5
      by_cases c6 : a1 > 1
      · rw [if_pos c6] at H
        have c6b0 : decide (1 < a1) = true := decide_eq_true c6
        clear c6
        (first | rw [c6b0] | (simp only [i64_w, i32_w]; rw [c6b0]) | skip)
        obtain ⟨ji7, hji7⟩ : ∃ j_ : Int, (IntKind.u64.wrap (wrap64 (7 - a1))) = j_ := ⟨_, rfl⟩
        replace H : (if 0 ≤ (ji7) then (if (shl .i64 1 (ji7)) = 0 then (none) else (foolscapref01_guess.j0 k a0 a1 (Int.tmod (wrap64 (bt a0 0)) (shl .i64 1 (ji7))))) else (none)) = some r := by first | (rw [hji7] at H; exact H) | (simp only [hji7] at H ⊢; exact H)
        by_cases c8 : 0 ≤ (ji7)
        · rw [if_pos c8] at H
          have c8b0 := eq_true c8
          have c8b1 : decide (0 ≤ (ji7)) = true := decide_eq_true c8
          clear c8
          obtain ⟨ji9, hji9⟩ : ∃ j_ : Int, (shl .i64 1 (ji7)) = j_ := ⟨_, rfl⟩
          replace H : (if (ji9) = 0 then (none) else (foolscapref01_guess.j0 k a0 a1 (Int.tmod (wrap64 (bt a0 0)) (ji9)))) = some r := by first | (rw [hji9] at H; exact H) | (simp only [hji9] at H ⊢; exact H)
          have hji9_ : (IntKind.i64.wrap (1 * 2 ^ min (ji7).toNat 64)) = ji9 := hji9
          have hji9z : (ji7) ≤ 64 → (IntKind.i64.wrap (1 * 2 ^ (ji7).toNat)) = ji9 := shl_small hji9
          have hji9u : (IntKind.i64.wrap (2 ^ min (ji7).toNat 64)) = ji9 := by have h_ := hji9_; rw [Int.one_mul] at h_; exact h_
          have hji9v : (ji7) ≤ 64 → (IntKind.i64.wrap (2 ^ (ji7).toNat)) = ji9 := fun hle_ => by have h_ := hji9z hle_; rw [Int.one_mul] at h_; exact h_
          have hji9y : (wrap64 (1 * 2 ^ min (ji7).toNat 64)) = ji9 := (i64_w _).symm.trans hji9_
          have hji9x : (ji7) ≤ 64 → (wrap64 (1 * 2 ^ (ji7).toNat)) = ji9 := fun h_ => (i64_w _).symm.trans (hji9z h_)
          by_cases c10 : (ji9) = 0
          · rw [if_pos c10] at H
            exact absurd H (by simp)
          · rw [if_neg c10] at H
            have c10b0 : ((ji9) == 0) = false := beq_eq_false_iff_ne.mpr c10
            have c10b1 : ((ji9) != 0) = true := bne_iff_ne.mpr c10
            have H' := Aside0.mk H
            clear H
            go_wp2
            go_meet
            case rel => exact ⟨_, (Int.tmod (wrap64 (bt a0 0)) (ji9)), (by first | rfl | (simp; done) | (simp only [← hji9] <;> (first | rfl | simp)) | (simp [*]; done)), H', ⟨by first | omega | exact Nat.le_refl _⟩, by repeat (first | exact Drawn0.refl _ | apply Drawn0.step)⟩
        · rw [if_neg c8] at H
          exact absurd H (by simp)
      · rw [if_neg c6] at H
        have c6b0 : decide (1 < a1) = false := decide_eq_false c6
        clear c6
        (first | rw [c6b0] | (simp only [i64_w, i32_w]; rw [c6b0]) | skip)
        have H' := Aside0.mk H
        clear H
        go_wp2
        go_meet
        case rel => exact ⟨_, (wrap64 (bt a0 0)), (by first | rfl | (simp; done) | (simp [*]; done)), H', ⟨by first | omega | exact Nat.le_refl _⟩, by repeat (first | exact Drawn0.refl _ | apply Drawn0.step)⟩
    case rest =>
      clear HC5
      try clear c1
      try clear c2
      try clear p2
      try clear c3
      try clear c3b0
      try clear c3b1
      try clear p4
      try clear q4
      try clear hx4
      try clear qi4
      try clear c6
      try clear c6b0
      try clear p6
      try clear c8
      try clear c8b0
      try clear c8b1
      try clear c10
      try clear c10b0
      try clear c10b1
      try clear p4
      try clear q4
      obtain ⟨kq, x5_4, rfl, HA, HJ4, ⟨mc4, rfl⟩⟩ := hcut
      cases kq with
      | zero => exact absurd HA.out (by simp [foolscapref01_guess.j0])
      | succ kj4 =>
        have H := HA.out
        clear HA
        simp only [foolscapref01_guess.j0] at H
        have H' := Aside0.mk H
        clear H
        go_wp2
        go_loopg [5, 6] kj4 (fun kq v5 v6 w' => ∃ (x5_2 : Int) (x6_2 : Int), v5 = .int .i64 x5_2 ∧ v6 = .int .i64 x6_2 ∧ Aside0 (foolscapref01_guess.l0 kq a0 a1 x5_2 x6_2 = some r) ∧ Aside0 (kq ≤ kj4) ∧ Drawn0 w w')
        case atStart => exact ⟨(x5_4), (1), (by first | rfl | (simp; done) | (simp [*]; done)), (by first | rfl | (simp; done) | (simp [*]; done)), H', ⟨Nat.le_refl _⟩, by repeat (first | exact Drawn0.refl _ | apply Drawn0.step)⟩
        case round =>
          clear H'
          try clear c1
          try clear c2
          try clear p2
          try clear c3
          try clear c3b0
          try clear c3b1
          try clear c4
          try clear p4
          try clear q4
          try clear hx4
          try clear qi4
          try clear c6
          try clear c6b0
          try clear p6
          try clear c8
          try clear c8b0
          try clear c8b1
          try clear c10
          try clear c10b0
          try clear c10b1
          try clear p2
          try clear p4
          try clear p6
          try clear q4
          obtain ⟨x5_2, x6_2, rfl, rfl, HA, HK2, ⟨m2, rfl⟩⟩ := hrel
          cases gk with
          | zero => exact absurd HA.out (by simp [foolscapref01_guess.l0])
          | succ k2 =>
            have H := HA.out
            clear HA
            simp only [foolscapref01_guess.l0] at H
            by_cases c11 : x6_2 < a1
            · rw [if_pos c11] at H
              have c11b0 : decide (x6_2 < a1) = true := decide_eq_true c11
              clear c11
              by_cases c12 : 0 ≤ x6_2
              · rw [if_pos c12] at H
                have c12b0 : decide (0 ≤ x6_2) = true := decide_eq_true c12
                clear c12
                by_cases c13 : x6_2 < (a0.size : Int)
                · rw [if_pos c13] at H
                  have c13b0 : decide (x6_2 < (a0.size : Int)) = true := decide_eq_true c13
                  clear c13
                  have H' := Aside0.mk H
                  clear H
                  have p14 : 0 ≤ (x6_2 : Int) := of_decide_eq_true (by first | (with_reducible assumption) | assumption)
                  have q14 : x6_2 < (a0.size : Int) := of_decide_eq_true (by first | (with_reducible assumption) | assumption)
                  have hx14 := bt_at a0 x6_2
                  replace p14 := eq_true p14
                  replace q14 := eq_true q14
                  go_wp2
                  go_roundg k2
                  case measure => have := HJ4.out; have := HK2.out; omega
                  case rel => exact ⟨(wrap64 ((wrap64 (x5_2 * 64)) + (Int.tmod (wrap64 (bt a0 x6_2)) 64))), (wrap64 (x6_2 + 1)), (by first | rfl | (simp; done) | (simp [*]; done)), (by first | rfl | (simp; done) | (simp [*]; done)), H', ⟨by have := HJ4.out; have := HK2.out; omega⟩, by repeat (first | exact Drawn0.refl _ | apply Drawn0.step)⟩
                · rw [if_neg c13] at H
                  exact absurd H (by simp)
              · rw [if_neg c12] at H
                exact absurd H (by simp)
            · rw [if_neg c11] at H
              have c11b0 : decide (x6_2 < a1) = false := decide_eq_false c11
              clear c11
              obtain rfl := Option.some.inj H
              go_wp2
              go_ret
              exact ⟨by first | rfl | (simp; done) | (simp [*]; done), by repeat (first | exact Drawn0.refl _ | apply Drawn0.step)⟩
  · rw [if_neg c3] at H
    exact absurd H (by simp)

/-! ### foolscapref01_whole: function 26 -/
def foolscapref01_whole.j0 : Nat → ByteArray → Int → Bool → Option (Int × Bool)
  | 0, _, _, _ => none
  | k + 1, x0, x4, x13 => if x13 = true then (some (0, false)) else ((foolscapref01_guess.f k x0 x4).bind fun t213 => ((foolscapref01_Size.f k t213).bind fun t214 => (if t214 = x4 then ((foolscapref01_one.f k t213).bind fun t215 => (if t215.toList = x0.toList then (some (t213, true)) else (some (0, false)))) else (some (0, false)))))
def foolscapref01_whole.f (k : Nat) (a0 : ByteArray) : Option (Int × Bool) := if (a0.size : Int) < 1 then (foolscapref01_whole.j0 k a0 (a0.size : Int) true) else (foolscapref01_whole.j0 k a0 (a0.size : Int) (decide ((a0.size : Int) > 4)))
theorem foolscapref01_whole.mono_l : ∀ k, (∀ y0 y1 y2, LeO (foolscapref01_whole.j0 k y0 y1 y2) (foolscapref01_whole.j0 (k + 1) y0 y1 y2))
  | 0 => fun _ _ _ r h => by simp [foolscapref01_whole.j0] at h
  | k + 1 => by
    have ih0 := foolscapref01_whole.mono_l k
    · intro y0 y1 y2
      unfold foolscapref01_whole.j0
      repeat' first
      | (with_reducible exact ih0 _ _ _)
      | (with_reducible exact foolscapref01_Size.mono _ _)
      | (with_reducible exact foolscapref01_guess.mono _ _ _)
      | (with_reducible exact foolscapref01_one.mono _ _)
      | (with_reducible exact LeO.refl _)
      | (with_reducible exact LeO.none _)
      | (with_reducible refine LeO.ite ?_ ?_)
      | (with_reducible refine LeO.bind ?_ (fun _ => ?_))
      | exact ih0 _ _ _
      | exact foolscapref01_Size.mono _ _
      | exact foolscapref01_guess.mono _ _ _
      | exact foolscapref01_one.mono _ _
      | exact LeO.none _
      | refine LeO.ite ?_ ?_
      | refine LeO.bind ?_ (fun _ => ?_)
theorem foolscapref01_whole.mono : ∀ a0 k, LeO (foolscapref01_whole.f k a0) (foolscapref01_whole.f (k + 1) a0) := by
  intro a0 k
  have ih0 := foolscapref01_whole.mono_l k
  unfold foolscapref01_whole.f
  repeat' first
      | (with_reducible exact ih0 _ _ _)
      | (with_reducible exact foolscapref01_Size.mono _ _)
      | (with_reducible exact foolscapref01_guess.mono _ _ _)
      | (with_reducible exact foolscapref01_one.mono _ _)
      | (with_reducible exact LeO.refl _)
      | (with_reducible exact LeO.none _)
      | (with_reducible refine LeO.ite ?_ ?_)
      | (with_reducible refine LeO.bind ?_ (fun _ => ?_))
      | exact ih0 _ _ _
      | exact foolscapref01_Size.mono _ _
      | exact foolscapref01_guess.mono _ _ _
      | exact foolscapref01_one.mono _ _
      | exact LeO.none _
      | refine LeO.ite ?_ ?_
      | refine LeO.bind ?_ (fun _ => ?_)
set_option maxHeartbeats 8000000 in
set_option maxRecDepth 100000 in
theorem foolscapref01_whole.calls (k : Nat) (a0 : ByteArray) (r1 : Int) (r2 : Bool) (w : World) (h : foolscapref01_whole.f k a0 = some (r1, r2)) :
    Calls Try.prog 26 #[.string a0] w fun e w' => e = .returned (.tuple #[.int .i32 r1, .bool r2]) ∧ Below w.heap.size w w' := by
  have HB := Aside0.mk (Below.refl w.heap.size w)
  have H : (if (a0.size : Int) < 1 then (foolscapref01_whole.j0 k a0 (a0.size : Int) true) else (foolscapref01_whole.j0 k a0 (a0.size : Int) (decide ((a0.size : Int) > 4)))) = some (r1, r2) := h
  clear h
  have HC2 := Aside0.mk H
  clear H
  go_enter Try.func26, Try.ntmps26
  go_upto_region 2 with (fail)
  go_cut [13] (fun v13 wc => ∃ (kq : Nat) (x13_1 : Bool), v13 = .bool x13_1 ∧ Aside0 (foolscapref01_whole.j0 kq a0 (a0.size : Int) x13_1 = some (r1, r2)) ∧ Aside0 (kq ≤ k) ∧ Aside0 (Below w.heap.size w wc))
  case first =>
    have H := HC2.out
    clear HC2
    by_cases c3 : (a0.size : Int) < 1
    · rw [if_pos c3] at H
      have c3b0 : decide ((a0.size : Int) < 1) = true := decide_eq_true c3
      have c3b1 : decide (a0.size < 1) = true := decide_eq_true (by omega)
      clear c3
      (first | rw [c3b0] | (simp only [i64_w, i32_w]; rw [c3b0]) | skip)
      have H' := Aside0.mk H
      clear H
      go_wp2
      go_meet
      case rel => exact ⟨_, (true), (by first | rfl | (simp; done) | (simp [*]; done)), H', ⟨by first | omega | exact Nat.le_refl _⟩, ⟨by repeat (first | (with_reducible first | exact HB.out | apply below_alloc | apply pw_below_drewN | apply below_drew1) | exact HB.out)⟩⟩
    · rw [if_neg c3] at H
      have c3b0 : decide ((a0.size : Int) < 1) = false := decide_eq_false c3
      have c3b1 : decide (a0.size < 1) = false := decide_eq_false (by omega)
      clear c3
      (first | rw [c3b0] | (simp only [i64_w, i32_w]; rw [c3b0]) | skip)
      have H' := Aside0.mk H
      clear H
      go_wp2
      go_meet
      case rel => exact ⟨_, (decide ((a0.size : Int) > 4)), (by first | rfl | (simp; done) | (simp [*]; done)), H', ⟨by first | omega | exact Nat.le_refl _⟩, ⟨by repeat (first | (with_reducible first | exact HB.out | apply below_alloc | apply pw_below_drewN | apply below_drew1) | exact HB.out)⟩⟩
  case rest =>
    clear HC2
    try clear c2
    try clear p2
    try clear c3
    try clear c3b0
    try clear c3b1
    obtain ⟨kq, x13_1, rfl, HA, HJ1, HB⟩ := hcut
    cases kq with
    | zero => exact absurd HA.out (by simp [foolscapref01_whole.j0])
    | succ kj1 =>
      have H := HA.out
      clear HA
      simp only [foolscapref01_whole.j0] at H
      by_cases c4 : x13_1 = true
      · subst c4
        have H1 : (some (0, false)) = some (r1, r2) := by rw [if_pos rfl] at H; exact H
        clear H
        have H := H1
        clear H1
        simp only [Option.some.injEq, Prod.mk.injEq] at H
        obtain ⟨rfl, rfl⟩ := H
        go_wp2
        go_ret2
        exact ⟨by first | rfl | (simp [errW_none, errW_some] <;> rfl) | (simp [*, errW_none, errW_some] <;> rfl), by repeat (first | (with_reducible first | exact HB.out | apply below_alloc | apply pw_below_drewN | apply below_drew1) | exact HB.out)⟩
      · replace c4 := Bool.eq_false_iff.mpr c4
        subst c4
        have H1 : ((foolscapref01_guess.f kj1 a0 (a0.size : Int)).bind fun t213 => ((foolscapref01_Size.f kj1 t213).bind fun t214 => (if t214 = (a0.size : Int) then ((foolscapref01_one.f kj1 t213).bind fun t215 => (if t215.toList = a0.toList then (some (t213, true)) else (some (0, false)))) else (some (0, false))))) = some (r1, r2) := by rw [if_neg (show ¬ (false = true) by decide)] at H; exact H
        clear H
        have H := H1
        clear H1
        replace H := Option.bind_eq_some_iff.mp H
        obtain ⟨t213, A50, H⟩ := H
        replace H : ((foolscapref01_Size.f kj1 t213).bind fun t214 => (if t214 = (a0.size : Int) then ((foolscapref01_one.f kj1 t213).bind fun t215 => (if t215.toList = a0.toList then (some (t213, true)) else (some (0, false)))) else (some (0, false)))) = some (r1, r2) := H
        have A5 := Aside0.mk A50
        clear A50
        replace H := Option.bind_eq_some_iff.mp H
        obtain ⟨t214, A60, H⟩ := H
        replace H : (if t214 = (a0.size : Int) then ((foolscapref01_one.f kj1 t213).bind fun t215 => (if t215.toList = a0.toList then (some (t213, true)) else (some (0, false)))) else (some (0, false))) = some (r1, r2) := H
        have A6 := Aside0.mk A60
        clear A60
        by_cases c7 : t214 = (a0.size : Int)
        · rw [if_pos c7] at H
          have c7b0 : (t214 == (a0.size : Int)) = true := beq_iff_eq.mpr c7
          have c7b1 : (t214 != (a0.size : Int)) = false := bne_eq_false_iff_eq.mpr c7
          clear c7
          replace H := Option.bind_eq_some_iff.mp H
          obtain ⟨t215, A80, H⟩ := H
          replace H : (if t215.toList = a0.toList then (some (t213, true)) else (some (0, false))) = some (r1, r2) := H
          have A8 := Aside0.mk A80
          clear A80
          by_cases c9 : t215.toList = a0.toList
          · rw [if_pos c9] at H
            have c9b0 : (t215.toList == a0.toList) = true := beq_iff_eq.mpr c9
            have c9b1 : (t215.toList != a0.toList) = false := bne_eq_false_iff_eq.mpr c9
            clear c9
            simp only [Option.some.injEq, Prod.mk.injEq] at H
            obtain ⟨rfl, rfl⟩ := H
            go_wp2_with (first | ((with_reducible refine gate_callee (f := 28) rfl ?_); refine goesL_ (some 16) rfl rfl Try.func28 (by kernel_rfl) rfl #[.string a0, .int .i64 (a0.size : Int)] rfl (by (try simp only [List.map_toArray, List.map_cons, List.map_nil]); first | done | rfl | (simp only [List.length_drop, List.length_take]; rfl)) ?_; (with_reducible refine (foolscapref01_guess.calls kj1 a0 (a0.size : Int) t213 _ A5.out).mono ?_); rintro e w' ⟨rfl, ⟨nd, rfl⟩⟩; refine ⟨_, rfl, ?_⟩) | ((with_reducible refine gate_callee (f := 20) rfl ?_); refine goesL_ (some 18) rfl rfl Try.func20 (by kernel_rfl) rfl #[.int .i32 t213] rfl (by (try simp only [List.map_toArray, List.map_cons, List.map_nil]); first | done | rfl | (simp only [List.length_drop, List.length_take]; rfl)) ?_; (with_reducible refine (foolscapref01_Size.calls kj1 t213 t214 _ A6.out).mono ?_); rintro e w' ⟨rfl, ⟨nd, rfl⟩⟩; refine ⟨_, rfl, ?_⟩) | (go_at_call 24; (with_reducible refine (foolscapref01_one.calls kj1 t213 t215 _ A8.out).mono ?_); rintro e w10 ⟨rfl, hb⟩; have n0_ := Aside0.mk (below_step (by repeat (first | (with_reducible first | exact HB.out | apply below_alloc | apply pw_below_drewN | apply below_drew1) | exact HB.out)) hb); clear HB; have HB := n0_; clear n0_; (try clear hb); (try clear hb2); (try clear hk); (try clear hi)))
            go_ret2
            exact ⟨by first | rfl | (simp [errW_none, errW_some] <;> rfl) | (simp [*, errW_none, errW_some] <;> rfl), by repeat (first | (with_reducible first | exact HB.out | apply below_alloc | apply pw_below_drewN | apply below_drew1) | exact HB.out)⟩
          · rw [if_neg c9] at H
            have c9b0 : (t215.toList == a0.toList) = false := beq_eq_false_iff_ne.mpr c9
            have c9b1 : (t215.toList != a0.toList) = true := bne_iff_ne.mpr c9
            simp only [Option.some.injEq, Prod.mk.injEq] at H
            obtain ⟨rfl, rfl⟩ := H
            go_wp2_with (first | ((with_reducible refine gate_callee (f := 28) rfl ?_); refine goesL_ (some 16) rfl rfl Try.func28 (by kernel_rfl) rfl #[.string a0, .int .i64 (a0.size : Int)] rfl (by (try simp only [List.map_toArray, List.map_cons, List.map_nil]); first | done | rfl | (simp only [List.length_drop, List.length_take]; rfl)) ?_; (with_reducible refine (foolscapref01_guess.calls kj1 a0 (a0.size : Int) t213 _ A5.out).mono ?_); rintro e w' ⟨rfl, ⟨nd, rfl⟩⟩; refine ⟨_, rfl, ?_⟩) | ((with_reducible refine gate_callee (f := 20) rfl ?_); refine goesL_ (some 18) rfl rfl Try.func20 (by kernel_rfl) rfl #[.int .i32 t213] rfl (by (try simp only [List.map_toArray, List.map_cons, List.map_nil]); first | done | rfl | (simp only [List.length_drop, List.length_take]; rfl)) ?_; (with_reducible refine (foolscapref01_Size.calls kj1 t213 t214 _ A6.out).mono ?_); rintro e w' ⟨rfl, ⟨nd, rfl⟩⟩; refine ⟨_, rfl, ?_⟩) | (go_at_call 24; (with_reducible refine (foolscapref01_one.calls kj1 t213 t215 _ A8.out).mono ?_); rintro e w11 ⟨rfl, hb⟩; have n0_ := Aside0.mk (below_step (by repeat (first | (with_reducible first | exact HB.out | apply below_alloc | apply pw_below_drewN | apply below_drew1) | exact HB.out)) hb); clear HB; have HB := n0_; clear n0_; (try clear hb); (try clear hb2); (try clear hk); (try clear hi)))
            go_ret2
            exact ⟨by first | rfl | (simp [errW_none, errW_some] <;> rfl) | (simp [*, errW_none, errW_some] <;> rfl), by repeat (first | (with_reducible first | exact HB.out | apply below_alloc | apply pw_below_drewN | apply below_drew1) | exact HB.out)⟩
        · rw [if_neg c7] at H
          have c7b0 : (t214 == (a0.size : Int)) = false := beq_eq_false_iff_ne.mpr c7
          have c7b1 : (t214 != (a0.size : Int)) = true := bne_iff_ne.mpr c7
          simp only [Option.some.injEq, Prod.mk.injEq] at H
          obtain ⟨rfl, rfl⟩ := H
          go_wp2_with (first | ((with_reducible refine gate_callee (f := 28) rfl ?_); refine goesL_ (some 16) rfl rfl Try.func28 (by kernel_rfl) rfl #[.string a0, .int .i64 (a0.size : Int)] rfl (by (try simp only [List.map_toArray, List.map_cons, List.map_nil]); first | done | rfl | (simp only [List.length_drop, List.length_take]; rfl)) ?_; (with_reducible refine (foolscapref01_guess.calls kj1 a0 (a0.size : Int) t213 _ A5.out).mono ?_); rintro e w' ⟨rfl, ⟨nd, rfl⟩⟩; refine ⟨_, rfl, ?_⟩) | ((with_reducible refine gate_callee (f := 20) rfl ?_); refine goesL_ (some 18) rfl rfl Try.func20 (by kernel_rfl) rfl #[.int .i32 t213] rfl (by (try simp only [List.map_toArray, List.map_cons, List.map_nil]); first | done | rfl | (simp only [List.length_drop, List.length_take]; rfl)) ?_; (with_reducible refine (foolscapref01_Size.calls kj1 t213 t214 _ A6.out).mono ?_); rintro e w' ⟨rfl, ⟨nd, rfl⟩⟩; refine ⟨_, rfl, ?_⟩))
          go_ret2
          exact ⟨by first | rfl | (simp [errW_none, errW_some] <;> rfl) | (simp [*, errW_none, errW_some] <;> rfl), by repeat (first | (with_reducible first | exact HB.out | apply below_alloc | apply pw_below_drewN | apply below_drew1) | exact HB.out)⟩

/-! ### foolscapref01_Begins: function 27 -/
mutual
def foolscapref01_Begins.j0 : Nat → ByteArray → Bool → Option (Bool)
  | 0, _, _ => none
  | k + 1, x0, x15 => if x15 = true then (some false) else ((some (([128, 143, 144, 159, 160, 191] : List Int) : List Int)).bind fun y216 => (foolscapref01_Begins.l0 k x0 y216 (y216.length : Int) 0))
def foolscapref01_Begins.l0 : Nat → ByteArray → List Int → Int → Int → Option (Bool)
  | 0, _, _, _, _ => none
  | k + 1, x0, x16, x17, x18 => if x18 < x17 then (if 0 ≤ x18 then (if x18 < (x16.length : Int) then ((some (([rd x16 x18] : List Int) : List Int)).bind fun y220 => (if x0.size + (strOfNums y220).size ≤ 9223372036854775807 then ((foolscapref01_whole.f k (x0 ++ (strOfNums y220))).bind fun bt223 => (if bt223.2 = true then (foolscapref01_Begins.j2 k x0 (x0 ++ (strOfNums y220)) bt223.2 false x16 x17 x18 false) else (foolscapref01_Begins.j2 k x0 (x0 ++ (strOfNums y220)) bt223.2 false x16 x17 x18 (decide (((x0 ++ (strOfNums y220)).size : Int) < 4))))) else (none))) else (none)) else (none)) else (some false)
def foolscapref01_Begins.j2 : Nat → ByteArray → ByteArray → Bool → Bool → List Int → Int → Int → Bool → Option (Bool)
  | 0, _, _, _, _, _, _, _, _ => none
  | k + 1, x0, x5, x7, x8, x16, x17, x18, x38 => if x38 = true then ((foolscapref01_Begins.f k x5).bind fun t225 => (if x7 = true then (some true) else (if t225 = true then (some true) else (foolscapref01_Begins.l0 k x0 x16 x17 (wrap64 (x18 + 1)))))) else (if x7 = true then (some true) else (if x8 = true then (some true) else (foolscapref01_Begins.l0 k x0 x16 x17 (wrap64 (x18 + 1)))))
def foolscapref01_Begins.f : Nat → ByteArray → Option (Bool)
  | 0, _ => none
  | k + 1, a0 => if a0.toList = ([] : List UInt8) then (foolscapref01_Begins.j0 k a0 true) else (foolscapref01_Begins.j0 k a0 (decide ((a0.size : Int) > 3)))
end
theorem foolscapref01_Begins.mono_l : ∀ k, (∀ y0, LeO (foolscapref01_Begins.f k y0) (foolscapref01_Begins.f (k + 1) y0)) ∧ (∀ y0 y1, LeO (foolscapref01_Begins.j0 k y0 y1) (foolscapref01_Begins.j0 (k + 1) y0 y1)) ∧ (∀ y0 y1 y2 y3, LeO (foolscapref01_Begins.l0 k y0 y1 y2 y3) (foolscapref01_Begins.l0 (k + 1) y0 y1 y2 y3)) ∧ (∀ y0 y1 y2 y3 y4 y5 y6 y7, LeO (foolscapref01_Begins.j2 k y0 y1 y2 y3 y4 y5 y6 y7) (foolscapref01_Begins.j2 (k + 1) y0 y1 y2 y3 y4 y5 y6 y7))
  | 0 => ⟨fun _ r h => by simp [foolscapref01_Begins.f] at h, fun _ _ r h => by simp [foolscapref01_Begins.j0] at h, fun _ _ _ _ r h => by simp [foolscapref01_Begins.l0] at h, fun _ _ _ _ _ _ _ _ r h => by simp [foolscapref01_Begins.j2] at h⟩
  | k + 1 => by
    obtain ⟨ih0, ih1, ih2, ih3⟩ := foolscapref01_Begins.mono_l k
    refine ⟨?_, ?_, ?_, ?_⟩
    · intro y0
      unfold foolscapref01_Begins.f
      repeat' first
      | (with_reducible exact ih0 _)
      | (with_reducible exact ih1 _ _)
      | (with_reducible exact ih2 _ _ _ _)
      | (with_reducible exact ih3 _ _ _ _ _ _ _ _)
      | (with_reducible exact foolscapref01_whole.mono _ _)
      | (with_reducible exact LeO.refl _)
      | (with_reducible exact LeO.none _)
      | (with_reducible refine LeO.ite ?_ ?_)
      | (with_reducible refine LeO.bind ?_ (fun _ => ?_))
      | exact ih0 _
      | exact ih1 _ _
      | exact ih2 _ _ _ _
      | exact ih3 _ _ _ _ _ _ _ _
      | exact foolscapref01_whole.mono _ _
      | exact LeO.none _
      | refine LeO.ite ?_ ?_
      | refine LeO.bind ?_ (fun _ => ?_)
    · intro y0 y1
      unfold foolscapref01_Begins.j0
      repeat' first
      | (with_reducible exact ih0 _)
      | (with_reducible exact ih1 _ _)
      | (with_reducible exact ih2 _ _ _ _)
      | (with_reducible exact ih3 _ _ _ _ _ _ _ _)
      | (with_reducible exact foolscapref01_whole.mono _ _)
      | (with_reducible exact LeO.refl _)
      | (with_reducible exact LeO.none _)
      | (with_reducible refine LeO.ite ?_ ?_)
      | (with_reducible refine LeO.bind ?_ (fun _ => ?_))
      | exact ih0 _
      | exact ih1 _ _
      | exact ih2 _ _ _ _
      | exact ih3 _ _ _ _ _ _ _ _
      | exact foolscapref01_whole.mono _ _
      | exact LeO.none _
      | refine LeO.ite ?_ ?_
      | refine LeO.bind ?_ (fun _ => ?_)
    · intro y0 y1 y2 y3
      unfold foolscapref01_Begins.l0
      repeat' first
      | (with_reducible exact ih0 _)
      | (with_reducible exact ih1 _ _)
      | (with_reducible exact ih2 _ _ _ _)
      | (with_reducible exact ih3 _ _ _ _ _ _ _ _)
      | (with_reducible exact foolscapref01_whole.mono _ _)
      | (with_reducible exact LeO.refl _)
      | (with_reducible exact LeO.none _)
      | (with_reducible refine LeO.ite ?_ ?_)
      | (with_reducible refine LeO.bind ?_ (fun _ => ?_))
      | exact ih0 _
      | exact ih1 _ _
      | exact ih2 _ _ _ _
      | exact ih3 _ _ _ _ _ _ _ _
      | exact foolscapref01_whole.mono _ _
      | exact LeO.none _
      | refine LeO.ite ?_ ?_
      | refine LeO.bind ?_ (fun _ => ?_)
    · intro y0 y1 y2 y3 y4 y5 y6 y7
      unfold foolscapref01_Begins.j2
      repeat' first
      | (with_reducible exact ih0 _)
      | (with_reducible exact ih1 _ _)
      | (with_reducible exact ih2 _ _ _ _)
      | (with_reducible exact ih3 _ _ _ _ _ _ _ _)
      | (with_reducible exact foolscapref01_whole.mono _ _)
      | (with_reducible exact LeO.refl _)
      | (with_reducible exact LeO.none _)
      | (with_reducible refine LeO.ite ?_ ?_)
      | (with_reducible refine LeO.bind ?_ (fun _ => ?_))
      | exact ih0 _
      | exact ih1 _ _
      | exact ih2 _ _ _ _
      | exact ih3 _ _ _ _ _ _ _ _
      | exact foolscapref01_whole.mono _ _
      | exact LeO.none _
      | refine LeO.ite ?_ ?_
      | refine LeO.bind ?_ (fun _ => ?_)
theorem foolscapref01_Begins.mono : ∀ a0 k, LeO (foolscapref01_Begins.f k a0) (foolscapref01_Begins.f (k + 1) a0) := by
  intro a0 k
  obtain ⟨ih0, ih1, ih2, ih3⟩ := foolscapref01_Begins.mono_l k
  exact ih0 a0
set_option maxHeartbeats 8000000 in
set_option maxRecDepth 100000 in
theorem foolscapref01_Begins.calls (k : Nat) : ∀ (a0 : ByteArray) (r : Bool) (w : World) (h : foolscapref01_Begins.f k a0 = some r),
    Calls Try.prog 27 #[.string a0] w fun e w' => e = .returned (.bool r) ∧ Below w.heap.size w w' := by
  induction k using Nat.strongRecOn with
  | _ k ih =>
  intro a0 r w h
  cases k with
  | zero => exact absurd h (by simp [foolscapref01_Begins.f])
  | succ k =>
  simp only [foolscapref01_Begins.f] at h
  have HB := Aside0.mk (Below.refl w.heap.size w)
  have H : (if a0.toList = ([] : List UInt8) then (foolscapref01_Begins.j0 k a0 true) else (foolscapref01_Begins.j0 k a0 (decide ((a0.size : Int) > 3)))) = some r := h
  clear h
  have HC2 := Aside0.mk H
  clear H
  go_enter Try.func27, Try.ntmps27
  go_upto_region 1 with (fail)
  go_cut [15] (fun v15 wc => ∃ (kq : Nat) (x15_1 : Bool), v15 = .bool x15_1 ∧ Aside0 (foolscapref01_Begins.j0 kq a0 x15_1 = some r) ∧ Aside0 (kq ≤ k) ∧ Aside0 (Below w.heap.size w wc))
  case first =>
    have H := HC2.out
    clear HC2
    by_cases c3 : a0.toList = ([] : List UInt8)
    · rw [if_pos c3] at H
      have c3b0 : (a0.toList == ([] : List UInt8)) = true := beq_iff_eq.mpr c3
      have c3b1 : (a0.toList != ([] : List UInt8)) = false := bne_eq_false_iff_eq.mpr c3
      clear c3
      (first | rw [c3b0] | (simp only [i64_w, i32_w]; rw [c3b0]) | skip)
      have H' := Aside0.mk H
      clear H
      go_wp2
      go_meet
      case rel => exact ⟨_, (true), (by first | rfl | (simp; done) | (simp [*]; done)), H', ⟨by first | omega | exact Nat.le_refl _⟩, ⟨by repeat (first | (with_reducible first | exact HB.out | apply below_alloc | apply pw_below_drewN | apply below_drew1) | exact HB.out)⟩⟩
    · rw [if_neg c3] at H
      have c3b0 : (a0.toList == ([] : List UInt8)) = false := beq_eq_false_iff_ne.mpr c3
      have c3b1 : (a0.toList != ([] : List UInt8)) = true := bne_iff_ne.mpr c3
      (first | rw [c3b0] | (simp only [i64_w, i32_w]; rw [c3b0]) | skip)
      have H' := Aside0.mk H
      clear H
      go_wp2
      go_meet
      case rel => exact ⟨_, (decide ((a0.size : Int) > 3)), (by first | rfl | (simp; done) | (simp [*]; done)), H', ⟨by first | omega | exact Nat.le_refl _⟩, ⟨by repeat (first | (with_reducible first | exact HB.out | apply below_alloc | apply pw_below_drewN | apply below_drew1) | exact HB.out)⟩⟩
  case rest =>
    clear HC2
    try clear c2
    try clear p2
    try clear c3
    try clear c3b0
    try clear c3b1
    obtain ⟨kq, x15_1, rfl, HA, HJ1, HB⟩ := hcut
    cases kq with
    | zero => exact absurd HA.out (by simp [foolscapref01_Begins.j0])
    | succ kj1 =>
      have H := HA.out
      clear HA
      simp only [foolscapref01_Begins.j0] at H
      by_cases c4 : x15_1 = true
      · subst c4
        have H1 : (some false) = some r := by rw [if_pos rfl] at H; exact H
        clear H
        have H := H1
        clear H1
        obtain rfl := Option.some.inj H
        go_wp2
        go_ret
        exact ⟨by first | rfl | (simp [errW_none, errW_some] <;> rfl) | (simp [*, errW_none, errW_some] <;> rfl), by repeat (first | (with_reducible first | exact HB.out | apply below_alloc | apply pw_below_drewN | apply below_drew1) | exact HB.out)⟩
      · replace c4 := Bool.eq_false_iff.mpr c4
        subst c4
        have H1 : ((some (([128, 143, 144, 159, 160, 191] : List Int) : List Int)).bind fun y216 => (foolscapref01_Begins.l0 kj1 a0 y216 (y216.length : Int) 0)) = some r := by rw [if_neg (show ¬ (false = true) by decide)] at H; exact H
        clear H
        have H := H1
        clear H1
        obtain ⟨y216, hy216⟩ : ∃ y_ : List Int, y_ = (([128, 143, 144, 159, 160, 191] : List Int)) := ⟨_, rfl⟩
        replace H : (foolscapref01_Begins.l0 kj1 a0 y216 (y216.length : Int) 0) = some r := by first | (rw [hy216]; with_reducible exact H) | (have H2_ := (Option.bind_some _ _).symm.trans H; rw [hy216]; with_reducible exact H2_) | (have H2_ := (Option.bind_some _ _).symm.trans H; with_reducible exact H2_) | with_reducible exact H | (rw [hy216]; exact H) | exact H
        have Ny216 := Aside0.mk hy216
        clear hy216
        have H' := Aside0.mk H
        clear H
        go_wp2_with (first | ((with_reducible refine gate_dst (N := 16) rfl ?_); (try (refine gate_guard (by rfl) ?_; dsimp only)); refine Kd.R_lit (Kd.int .u8) _ 5 ?hg (N := 16) ?hd (xs := ([128, 143, 144, 159, 160, 191] : List Int)) (inner := [.int .u8 128, .int .u8 143, .int .u8 144, .int .u8 159, .int .u8 160, .int .u8 191]) (ok := fun _ => True) (okp := fun _ => True) ?hr ?hp (fun _ hk => hk) trivial (Below.refl _ _) (Nat.le_refl _) (by simp) ?_; (case hd => rfl); (case hg => rfl); (case hr => first | (go_simp; done) | (go_simp; rfl)); (case hp => exact (Reps.one (show Kd.M (Kd.int .u8) _ _ _ 128 [.int .u8 128] from rfl) (Reps.one (show Kd.M (Kd.int .u8) _ _ _ 143 [.int .u8 143] from rfl) (Reps.one (show Kd.M (Kd.int .u8) _ _ _ 144 [.int .u8 144] from rfl) (Reps.one (show Kd.M (Kd.int .u8) _ _ _ 159 [.int .u8 159] from rfl) (Reps.one (show Kd.M (Kd.int .u8) _ _ _ 160 [.int .u8 160] from rfl) (Reps.one (show Kd.M (Kd.int .u8) _ _ _ 191 [.int .u8 191] from rfl) (Reps.none _ _)))))))); intro v217 w5 ho6 hb hg_ hnew_; clear hg_ hnew_; (first | rw [← Ny216.out] at ho6 | (simp only [Int.reduceToNat] at ho6; rw [← Ny216.out] at ho6)); have n0_ := Aside0.mk (Kd.R_lower ho6 (below_size (by repeat (first | (with_reducible first | exact HB.out | apply below_alloc | apply pw_below_drewN | apply below_drew1) | exact HB.out)))); have n1_ := Aside0.mk (below_step (by repeat (first | (with_reducible first | exact HB.out | apply below_alloc | apply pw_below_drewN | apply below_drew1) | exact HB.out)) hb); clear HB; have HO218 := n0_; have HB := n1_; clear n0_ n1_; clear hb ho6; obtain ⟨Ao7, co7, eo7⟩ := Kd.R_slice HO218.out; subst eo7))
        go_loopg [18] kj1 (fun kq v18 w' => ∃ (x18_2 : Int), v18 = .int .i64 x18_2 ∧ Aside0 (foolscapref01_Begins.l0 kq a0 y216 (y216.length : Int) x18_2 = some r) ∧ Aside0 (kq ≤ kj1) ∧ Aside0 (Kd.R (Kd.int .u8) 5 w' w.heap.size (fun _ => True) (.slice Ao7 y216.length co7) y216) ∧ Aside0 (Below w.heap.size w w'))
        case atStart => exact ⟨(0), (by first | rfl | (simp; done) | (simp [*]; done)), H', ⟨Nat.le_refl _⟩, ⟨by (with_reducible repeat (first | apply Kd.R_alloc | apply Kd.R_drewN | apply Kd.R_drew)); exact HO218.out⟩, ⟨by repeat (first | (with_reducible first | exact HB.out | apply below_alloc | apply pw_below_drewN | apply below_drew1) | exact HB.out)⟩⟩
        case round =>
          clear H'
          try clear c2
          try clear p2
          try clear c3
          try clear c3b0
          try clear c3b1
          try clear c4
          try clear p2
          obtain ⟨x18_2, rfl, HA, HK2, HO_16, HB⟩ := hrel
          cases gk with
          | zero => exact absurd HA.out (by simp [foolscapref01_Begins.l0])
          | succ k2 =>
            have H := HA.out
            clear HA
            simp only [foolscapref01_Begins.l0] at H
            by_cases c8 : x18_2 < (y216.length : Int)
            · rw [if_pos c8] at H
              have c8b0 : decide (x18_2 < (y216.length : Int)) = true := decide_eq_true c8
              clear c8
              by_cases c9 : 0 ≤ x18_2
              · rw [if_pos c9] at H
                have c9b0 : decide (0 ≤ x18_2) = true := decide_eq_true c9
                clear c9
                by_cases c10 : x18_2 < (y216.length : Int)
                · rw [if_pos c10] at H
                  have c10b0 : decide (x18_2 < (y216.length : Int)) = true := decide_eq_true c10
                  clear c10
                  obtain ⟨y220, hy220⟩ : ∃ y_ : List Int, y_ = (([rd y216 x18_2] : List Int)) := ⟨_, rfl⟩
                  replace H : (if a0.size + (strOfNums y220).size ≤ 9223372036854775807 then ((foolscapref01_whole.f k2 (a0 ++ (strOfNums y220))).bind fun bt223 => (if bt223.2 = true then (foolscapref01_Begins.j2 k2 a0 (a0 ++ (strOfNums y220)) bt223.2 false y216 (y216.length : Int) x18_2 false) else (foolscapref01_Begins.j2 k2 a0 (a0 ++ (strOfNums y220)) bt223.2 false y216 (y216.length : Int) x18_2 (decide (((a0 ++ (strOfNums y220)).size : Int) < 4))))) else (none)) = some r := by first | (rw [hy220]; with_reducible exact H) | (have H2_ := (Option.bind_some _ _).symm.trans H; rw [hy220]; with_reducible exact H2_) | (have H2_ := (Option.bind_some _ _).symm.trans H; with_reducible exact H2_) | with_reducible exact H | (rw [hy220]; exact H) | exact H
                  have Ny220 := Aside0.mk hy220
                  clear hy220
                  by_cases c11 : a0.size + (strOfNums y220).size ≤ 9223372036854775807
                  · rw [if_pos c11] at H
                    have c11b0 := eq_true c11
                    have c11b1 : decide (a0.size + (strOfNums y220).size ≤ 9223372036854775807) = true := decide_eq_true c11
                    try have c11b2 : (9223372036854775807 < a0.size + (strOfNums y220).size) = False := eq_false (Nat.not_lt.2 c11)
                    replace H := Option.bind_eq_some_iff.mp H
                    obtain ⟨⟨t223, t224⟩, A120, H⟩ := H
                    replace H : (if t224 = true then (foolscapref01_Begins.j2 k2 a0 (a0 ++ (strOfNums y220)) t224 false y216 (y216.length : Int) x18_2 false) else (foolscapref01_Begins.j2 k2 a0 (a0 ++ (strOfNums y220)) t224 false y216 (y216.length : Int) x18_2 (decide (((a0 ++ (strOfNums y220)).size : Int) < 4)))) = some r := H
                    have A12 := Aside0.mk A120
                    clear A120
                    have HC13 := Aside0.mk H
                    clear H
                    have p219 : 0 ≤ (x18_2 : Int) := of_decide_eq_true (by first | (with_reducible assumption) | assumption)
                    have q219 : x18_2 < (y216.length : Int) := of_decide_eq_true (by first | (with_reducible assumption) | assumption)
                    obtain ⟨ad219, e219, hx219_0⟩ := Kd.at_int (Kd.R_reads' HO_16.out).2.2 x18_2 p219 q219
                    cases e219
                    replace p219 := eq_true p219
                    replace q219 := eq_true q219
                    go_upto_region 9 with (first | ((with_reducible refine gate_dst (N := 24) rfl ?_); (try (refine gate_guard (by rfl) ?_; dsimp only)); refine Kd.R_lit (Kd.int .u8) _ 5 ?hg (N := 24) ?hd (xs := ([rd y216 x18_2] : List Int)) (inner := [.int .u8 (rd y216 x18_2)]) (ok := fun _ => True) (okp := fun _ => True) ?hr ?hp (fun _ hk => hk) trivial (Below.refl _ _) (Nat.le_refl _) (by simp) ?_; (case hd => rfl); (case hg => rfl); (case hr => first | (go_simp; done) | (go_simp; rfl)); (case hp => exact (Reps.one (show Kd.M (Kd.int .u8) _ _ _ (rd y216 x18_2) [.int .u8 (rd y216 x18_2)] from rfl) (Reps.none _ _))); intro v221 w14 ho15 hb hg_ hnew_; clear hg_ hnew_; (first | rw [← Ny220.out] at ho15 | (simp only [Int.reduceToNat] at ho15; rw [← Ny220.out] at ho15)); have n0_ := Aside0.mk (Kd.R_elder' (by (with_reducible repeat (first | apply Kd.R_alloc | apply Kd.R_drewN | apply Kd.R_drew)); exact HO_16.out) (Kd.R_base ho15) hb); have n1_ := Aside0.mk (Kd.R_lower (Kd.R_new' ho15 (Kd.R_lt (by (with_reducible repeat (first | apply Kd.R_alloc | apply Kd.R_drewN | apply Kd.R_drew)); exact HO_16.out))) (below_size (by repeat (first | (with_reducible first | exact HB.out | apply below_alloc | apply pw_below_drewN | apply below_drew1) | exact HB.out)))); have n2_ := Aside0.mk (below_step (by repeat (first | (with_reducible first | exact HB.out | apply below_alloc | apply pw_below_drewN | apply below_drew1) | exact HB.out)) hb); clear HO_16; clear HB; have HO_16 := n0_; have HO222 := n1_; have HB := n2_; clear n0_ n1_ n2_; clear hb ho15; have hcv16 := own_string (P := Try.prog) Try.underlying23 Try.underlying5 Try.underlying9 (Kd.own_of_R HO222.out)) | ((with_reducible refine gate_callee (f := 26) rfl ?_); refine goesL_ (some 29) rfl rfl Try.func26 (by kernel_rfl) rfl #[.string (a0 ++ (strOfNums y220))] rfl (by (try simp only [List.map_toArray, List.map_cons, List.map_nil]); first | done | rfl | (simp only [List.length_drop, List.length_take]; rfl)) ?_; (with_reducible refine (foolscapref01_whole.calls k2 (a0 ++ (strOfNums y220)) t223 t224 _ A12.out).mono ?_); rintro e w17 ⟨rfl, hb⟩; refine ⟨_, rfl, ?_⟩; have n0_ := Aside0.mk (Kd.R_below (by (with_reducible repeat (first | apply Kd.R_alloc | apply Kd.R_drewN | apply Kd.R_drew)); exact HO_16.out) hb); have n1_ := Aside0.mk (Kd.R_below (by (with_reducible repeat (first | apply Kd.R_alloc | apply Kd.R_drewN | apply Kd.R_drew)); exact HO222.out) hb); have n2_ := Aside0.mk (below_step (by repeat (first | (with_reducible first | exact HB.out | apply below_alloc | apply pw_below_drewN | apply below_drew1) | exact HB.out)) hb); clear HO_16; clear HO222; clear HB; have HO_16 := n0_; have HO222 := n1_; have HB := n2_; clear n0_ n1_ n2_; (try clear hb); (try clear hb2); (try clear hk); (try clear hi)))
                    (try simp only [Act.put, List.setIfInBounds_toArray, List.set_cons_zero, List.set_cons_succ])
                    go_cut [38] (fun v38 wc => ∃ (kq : Nat) (x38_12 : Bool), v38 = .bool x38_12 ∧ Aside0 (foolscapref01_Begins.j2 kq a0 (a0 ++ (strOfNums y220)) t224 false y216 (y216.length : Int) x18_2 x38_12 = some r) ∧ Aside0 (kq ≤ k2) ∧ Aside0 (Kd.R (Kd.int .u8) 5 wc w.heap.size (fun _ => True) (.slice (some ad219) y216.length co7) y216) ∧ Aside0 (Below w.heap.size w wc))
                    case first =>
                      have H := HC13.out
                      clear HC13
                      by_cases c18 : t224 = true
                      · subst c18
                        have H1 : (foolscapref01_Begins.j2 k2 a0 (a0 ++ (strOfNums y220)) true false y216 (y216.length : Int) x18_2 false) = some r := by rw [if_pos rfl] at H; exact H
                        clear H
                        have H := H1
                        clear H1
                        have H' := Aside0.mk H
                        clear H
                        go_wp2
                        go_meet
                        case rel => exact ⟨_, (false), (by first | rfl | (simp; done) | (simp [*]; done)), H', ⟨by have := HJ1.out; have := HK2.out; first | omega | exact Nat.le_refl _⟩, ⟨by (with_reducible repeat (first | apply Kd.R_alloc | apply Kd.R_drewN | apply Kd.R_drew)); exact Kd.R_mono HO_16.out (fun _ hk => trivial)⟩, ⟨by repeat (first | (with_reducible first | exact HB.out | apply below_alloc | apply pw_below_drewN | apply below_drew1) | exact HB.out)⟩⟩
                      · replace c18 := Bool.eq_false_iff.mpr c18
                        subst c18
                        have H1 : (foolscapref01_Begins.j2 k2 a0 (a0 ++ (strOfNums y220)) false false y216 (y216.length : Int) x18_2 (decide (((a0 ++ (strOfNums y220)).size : Int) < 4))) = some r := by rw [if_neg (show ¬ (false = true) by decide)] at H; exact H
                        clear H
                        have H := H1
                        clear H1
                        have H' := Aside0.mk H
                        clear H
                        go_wp2
                        go_meet
                        case rel => exact ⟨_, (decide (((a0 ++ (strOfNums y220)).size : Int) < 4)), (by first | rfl | (simp; done) | (simp [*]; done)), H', ⟨by have := HJ1.out; have := HK2.out; first | omega | exact Nat.le_refl _⟩, ⟨by (with_reducible repeat (first | apply Kd.R_alloc | apply Kd.R_drewN | apply Kd.R_drew)); exact Kd.R_mono HO_16.out (fun _ hk => trivial)⟩, ⟨by repeat (first | (with_reducible first | exact HB.out | apply below_alloc | apply pw_below_drewN | apply below_drew1) | exact HB.out)⟩⟩
                    case rest =>
                      clear HC13
                      try clear c1
                      try clear hcv1
                      try clear c2
                      try clear p2
                      try clear q2
                      try clear hx2
                      try clear c3
                      try clear c3b0
                      try clear c3b1
                      try clear c4
                      try clear c8
                      try clear c8b0
                      try clear c9
                      try clear c9b0
                      try clear c10
                      try clear c10b0
                      try clear c11
                      try clear c11b0
                      try clear c11b1
                      try clear c11b2
                      try clear hcv16
                      try clear c18
                      try clear hx219_0
                      try clear p2
                      try clear p219
                      try clear q219
                      obtain ⟨kq, x38_12, rfl, HA, HJ12, HO_16, HB⟩ := hcut
                      cases kq with
                      | zero => exact absurd HA.out (by simp [foolscapref01_Begins.j2])
                      | succ kj12 =>
                        have H := HA.out
                        clear HA
                        simp only [foolscapref01_Begins.j2] at H
                        by_cases c19 : x38_12 = true
                        · subst c19
                          have H1 : ((foolscapref01_Begins.f kj12 (a0 ++ (strOfNums y220))).bind fun t225 => (if t224 = true then (some true) else (if t225 = true then (some true) else (foolscapref01_Begins.l0 kj12 a0 y216 (y216.length : Int) (wrap64 (x18_2 + 1)))))) = some r := by rw [if_pos rfl] at H; exact H
                          clear H
                          have H := H1
                          clear H1
                          replace H := Option.bind_eq_some_iff.mp H
                          obtain ⟨t225, A200, H⟩ := H
                          replace H : (if t224 = true then (some true) else (if t225 = true then (some true) else (foolscapref01_Begins.l0 kj12 a0 y216 (y216.length : Int) (wrap64 (x18_2 + 1))))) = some r := H
                          have A20 := Aside0.mk A200
                          clear A200
                          by_cases c21 : t224 = true
                          · subst c21
                            have H1 : (some true) = some r := by rw [if_pos rfl] at H; exact H
                            clear H
                            have H := H1
                            clear H1
                            obtain rfl := Option.some.inj H
                            go_wp2_with (first | ((with_reducible refine gate_callee (f := 27) rfl ?_); refine goesL_ (some 40) rfl rfl Try.func27 (by kernel_rfl) rfl #[.string (a0 ++ (strOfNums y220))] rfl (by (try simp only [List.map_toArray, List.map_cons, List.map_nil]); first | done | rfl | (simp only [List.length_drop, List.length_take]; rfl)) ?_; (with_reducible refine (ih kj12 (by have := HJ1.out; have := HK2.out; have := HJ12.out; omega) (a0 ++ (strOfNums y220)) t225 _ A20.out).mono ?_); rintro e w22 ⟨rfl, hb⟩; refine ⟨_, rfl, ?_⟩; have n0_ := Aside0.mk (Kd.R_below (by (with_reducible repeat (first | apply Kd.R_alloc | apply Kd.R_drewN | apply Kd.R_drew)); exact HO_16.out) hb); have n1_ := Aside0.mk (below_step (by repeat (first | (with_reducible first | exact HB.out | apply below_alloc | apply pw_below_drewN | apply below_drew1) | exact HB.out)) hb); clear HO_16; clear HB; have HO_16 := n0_; have HB := n1_; clear n0_ n1_; (try clear hb); (try clear hb2); (try clear hk); (try clear hi)))
                            go_ret
                            exact ⟨by first | rfl | (simp [errW_none, errW_some] <;> rfl) | (simp [*, errW_none, errW_some] <;> rfl), by repeat (first | (with_reducible first | exact HB.out | apply below_alloc | apply pw_below_drewN | apply below_drew1) | exact HB.out)⟩
                          · replace c21 := Bool.eq_false_iff.mpr c21
                            subst c21
                            have H1 : (if t225 = true then (some true) else (foolscapref01_Begins.l0 kj12 a0 y216 (y216.length : Int) (wrap64 (x18_2 + 1)))) = some r := by rw [if_neg (show ¬ (false = true) by decide)] at H; exact H
                            clear H
                            have H := H1
                            clear H1
                            by_cases c23 : t225 = true
                            · subst c23
                              have H1 : (some true) = some r := by rw [if_pos rfl] at H; exact H
                              clear H
                              have H := H1
                              clear H1
                              obtain rfl := Option.some.inj H
                              go_wp2_with (first | ((with_reducible refine gate_callee (f := 27) rfl ?_); refine goesL_ (some 40) rfl rfl Try.func27 (by kernel_rfl) rfl #[.string (a0 ++ (strOfNums y220))] rfl (by (try simp only [List.map_toArray, List.map_cons, List.map_nil]); first | done | rfl | (simp only [List.length_drop, List.length_take]; rfl)) ?_; (with_reducible refine (ih kj12 (by have := HJ1.out; have := HK2.out; have := HJ12.out; omega) (a0 ++ (strOfNums y220)) true _ A20.out).mono ?_); rintro e w24 ⟨rfl, hb⟩; refine ⟨_, rfl, ?_⟩; have n0_ := Aside0.mk (Kd.R_below (by (with_reducible repeat (first | apply Kd.R_alloc | apply Kd.R_drewN | apply Kd.R_drew)); exact HO_16.out) hb); have n1_ := Aside0.mk (below_step (by repeat (first | (with_reducible first | exact HB.out | apply below_alloc | apply pw_below_drewN | apply below_drew1) | exact HB.out)) hb); clear HO_16; clear HB; have HO_16 := n0_; have HB := n1_; clear n0_ n1_; (try clear hb); (try clear hb2); (try clear hk); (try clear hi)))
                              go_ret
                              exact ⟨by first | rfl | (simp [errW_none, errW_some] <;> rfl) | (simp [*, errW_none, errW_some] <;> rfl), by repeat (first | (with_reducible first | exact HB.out | apply below_alloc | apply pw_below_drewN | apply below_drew1) | exact HB.out)⟩
                            · replace c23 := Bool.eq_false_iff.mpr c23
                              subst c23
                              have H1 : (foolscapref01_Begins.l0 kj12 a0 y216 (y216.length : Int) (wrap64 (x18_2 + 1))) = some r := by rw [if_neg (show ¬ (false = true) by decide)] at H; exact H
                              clear H
                              have H := H1
                              clear H1
                              have H' := Aside0.mk H
                              clear H
                              go_wp2_with (first | ((with_reducible refine gate_callee (f := 27) rfl ?_); refine goesL_ (some 40) rfl rfl Try.func27 (by kernel_rfl) rfl #[.string (a0 ++ (strOfNums y220))] rfl (by (try simp only [List.map_toArray, List.map_cons, List.map_nil]); first | done | rfl | (simp only [List.length_drop, List.length_take]; rfl)) ?_; (with_reducible refine (ih kj12 (by have := HJ1.out; have := HK2.out; have := HJ12.out; omega) (a0 ++ (strOfNums y220)) false _ A20.out).mono ?_); rintro e w25 ⟨rfl, hb⟩; refine ⟨_, rfl, ?_⟩; have n0_ := Aside0.mk (Kd.R_below (by (with_reducible repeat (first | apply Kd.R_alloc | apply Kd.R_drewN | apply Kd.R_drew)); exact HO_16.out) hb); have n1_ := Aside0.mk (below_step (by repeat (first | (with_reducible first | exact HB.out | apply below_alloc | apply pw_below_drewN | apply below_drew1) | exact HB.out)) hb); clear HO_16; clear HB; have HO_16 := n0_; have HB := n1_; clear n0_ n1_; (try clear hb); (try clear hb2); (try clear hk); (try clear hi)))
                              go_roundg kj12
                              case measure => have := HJ1.out; have := HK2.out; have := HJ12.out; omega
                              case rel => exact ⟨(wrap64 (x18_2 + 1)), (by first | rfl | (simp; done) | (simp [*]; done)), H', ⟨by have := HJ1.out; have := HK2.out; have := HJ12.out; omega⟩, ⟨by (with_reducible repeat (first | apply Kd.R_alloc | apply Kd.R_drewN | apply Kd.R_drew)); exact HO_16.out⟩, ⟨by repeat (first | (with_reducible first | exact HB.out | apply below_alloc | apply pw_below_drewN | apply below_drew1) | exact HB.out)⟩⟩
                        · replace c19 := Bool.eq_false_iff.mpr c19
                          subst c19
                          have H1 : (if t224 = true then (some true) else (if false = true then (some true) else (foolscapref01_Begins.l0 kj12 a0 y216 (y216.length : Int) (wrap64 (x18_2 + 1))))) = some r := by rw [if_neg (show ¬ (false = true) by decide)] at H; exact H
                          clear H
                          have H := H1
                          clear H1
                          by_cases c26 : t224 = true
                          · subst c26
                            have H1 : (some true) = some r := by rw [if_pos rfl] at H; exact H
                            clear H
                            have H := H1
                            clear H1
                            obtain rfl := Option.some.inj H
                            go_wp2
                            go_ret
                            exact ⟨by first | rfl | (simp [errW_none, errW_some] <;> rfl) | (simp [*, errW_none, errW_some] <;> rfl), by repeat (first | (with_reducible first | exact HB.out | apply below_alloc | apply pw_below_drewN | apply below_drew1) | exact HB.out)⟩
                          · replace c26 := Bool.eq_false_iff.mpr c26
                            subst c26
                            have H1 : (if false = true then (some true) else (foolscapref01_Begins.l0 kj12 a0 y216 (y216.length : Int) (wrap64 (x18_2 + 1)))) = some r := by rw [if_neg (show ¬ (false = true) by decide)] at H; exact H
                            clear H
                            have H := H1
                            clear H1
                            by_cases c27 : false = true
                            · exact absurd c27 (by decide)
                            · clear c27
                              have H1 : (foolscapref01_Begins.l0 kj12 a0 y216 (y216.length : Int) (wrap64 (x18_2 + 1))) = some r := by rw [if_neg (show ¬ (false = true) by decide)] at H; exact H
                              clear H
                              have H := H1
                              clear H1
                              have H' := Aside0.mk H
                              clear H
                              go_wp2
                              go_roundg kj12
                              case measure => have := HJ1.out; have := HK2.out; have := HJ12.out; omega
                              case rel => exact ⟨(wrap64 (x18_2 + 1)), (by first | rfl | (simp; done) | (simp [*]; done)), H', ⟨by have := HJ1.out; have := HK2.out; have := HJ12.out; omega⟩, ⟨by (with_reducible repeat (first | apply Kd.R_alloc | apply Kd.R_drewN | apply Kd.R_drew)); exact HO_16.out⟩, ⟨by repeat (first | (with_reducible first | exact HB.out | apply below_alloc | apply pw_below_drewN | apply below_drew1) | exact HB.out)⟩⟩
                  · rw [if_neg c11] at H
                    exact absurd H (by simp)
                · rw [if_neg c10] at H
                  exact absurd H (by simp)
              · rw [if_neg c9] at H
                exact absurd H (by simp)
            · rw [if_neg c8] at H
              have c8b0 : decide (x18_2 < (y216.length : Int)) = false := decide_eq_false c8
              clear c8
              obtain rfl := Option.some.inj H
              go_wp2
              go_ret
              exact ⟨by first | rfl | (simp [errW_none, errW_some] <;> rfl) | (simp [*, errW_none, errW_some] <;> rfl), by repeat (first | (with_reducible first | exact HB.out | apply below_alloc | apply pw_below_drewN | apply below_drew1) | exact HB.out)⟩

end Go.Proofs.Ytdbpeaadnhiekaa.PU
