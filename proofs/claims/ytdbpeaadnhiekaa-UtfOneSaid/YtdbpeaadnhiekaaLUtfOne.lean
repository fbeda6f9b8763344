/- The law UtfOne comes to the printed function's answer, where it tells one. (The lines of this text began as lines that a program of the kit had written for this statement; the walk of one function is turned.) -/
import Derived.Test.YtdbpeaadnhiekaaU3
import Derived.Test.YtdbpeaadnhiekaaU3b
namespace Go.Proofs.Ytdbpeaadnhiekaa.PU
open Go.RowKit Go.Proofs.YtdbpeaadnhiekaaW.PrintWords Go.Proofs.YtdbpeaadnhiekaaW.PrintLast Go.Proofs.YtdbpeaadnhiekaaW.PrintMore
attribute [local go_sem] max2_int min2_int max_two min_two max_three min_three max_four min_four
set_option linter.unusedVariables false
set_option linter.unusedSimpArgs false

mutual
def foolscaplaw01_UtfOne.j0 : Nat → Int → List Int → Int → Bool → Bool → Option (Bool)
  | 0, _, _, _, _, _ => none
  | k + 1, x0, x1, x2, x7, x8 => (utf_Encode.f k (([x0] : List Int))).bind fun bt205 => (if x8 = true then (if bt205.2 = 0 then (if (bt205.1.length : Int) < 1 then (foolscaplaw01_UtfOne.j1 k x0 x1 x2 x7 bt205.1 true) else (if (bt205.1.length : Int) > 4 then (foolscaplaw01_UtfOne.j1 k x0 x1 x2 x7 bt205.1 true) else ((utf_Size.f k x0).bind fun t210 => (foolscaplaw01_UtfOne.j1 k x0 x1 x2 x7 bt205.1 (t210 != (bt205.1.length : Int)))))) else (foolscaplaw01_UtfOne.j1 k x0 x1 x2 x7 bt205.1 true)) else (if x7 = true then (if bt205.2 = 1 then (if (bt205.1.length : Int) = 0 then ((utf_Size.f k x0).bind fun t209 => (some (t209 == 0))) else (some false)) else (some false)) else (some false)))
def foolscaplaw01_UtfOne.j1 : Nat → Int → List Int → Int → Bool → List Int → Bool → Option (Bool)
  | 0, _, _, _, _, _, _ => none
  | k + 1, x0, x1, x2, x7, x9, x80 => if x80 = true then (some false) else ((some (([] : List Int) : List Int)).bind fun y211 => (if y211.length + x9.length < 140737488355328 then ((some (y211 ++ x9 : List Int)).bind fun y214 => (if y214.length + x1.length < 140737488355328 then ((utf_First.f k (y214 ++ x1)).bind fun bt220 => (if bt220.2.2 = 0 then (if bt220.1 = x0 then (foolscaplaw01_UtfOne.j2 k x2 x7 x9 (bt220.2.1 != (x9.length : Int))) else (foolscaplaw01_UtfOne.j2 k x2 x7 x9 true)) else (foolscaplaw01_UtfOne.j2 k x2 x7 x9 true))) else (none))) else (none)))
def foolscaplaw01_UtfOne.j2 : Nat → Int → Bool → List Int → Bool → Option (Bool)
  | 0, _, _, _, _ => none
  | k + 1, x2, x7, x9, x104 => if x104 = true then (some false) else (if (x9.length : Int) = 0 then (none) else (if 0 ≤ (Int.tmod (Go.bits .and .i64 x2 255) (x9.length : Int)) then (if (Int.tmod (Go.bits .and .i64 x2 255) (x9.length : Int)) ≤ (x9.length : Int) then ((utf_First.f k (x9.take ((Int.tmod (Go.bits .and .i64 x2 255) (x9.length : Int)) : Int).toNat)).bind fun bt227 => (if (Int.tmod (Go.bits .and .i64 x2 255) (x9.length : Int)) = 0 then (if x7 = true then (some (bt227.2.2 == 5)) else (some false)) else (if x7 = true then (if bt227.2.2 = 6 then ((utf_Tail.f k (x9.take ((Int.tmod (Go.bits .and .i64 x2 255) (x9.length : Int)) : Int).toNat)).bind fun t234 => (some (t234 == (Int.tmod (Go.bits .and .i64 x2 255) (x9.length : Int))))) else (some false)) else (some false)))) else (none)) else (none)))
end
def foolscaplaw01_UtfOne.f (k : Nat) (a0 : Int) (l1 : List Int) (a2 : Int) : Option (Bool) := (foolscaplaw01_shown.f k).bind fun t200 => (if 0 ≤ (mn (l1.length : Int) 20) then (if (mn (l1.length : Int) 20) ≤ (l1.length : Int) then (if a0 ≥ 0 then (if a0 ≤ 1114111 then (if a0 < 55296 then (foolscaplaw01_UtfOne.j0 k a0 (l1.take ((mn (l1.length : Int) 20) : Int).toNat) a2 t200 true) else (foolscaplaw01_UtfOne.j0 k a0 (l1.take ((mn (l1.length : Int) 20) : Int).toNat) a2 t200 (decide (a0 > 57343)))) else (foolscaplaw01_UtfOne.j0 k a0 (l1.take ((mn (l1.length : Int) 20) : Int).toNat) a2 t200 false)) else (foolscaplaw01_UtfOne.j0 k a0 (l1.take ((mn (l1.length : Int) 20) : Int).toNat) a2 t200 false)) else (none)) else (none))
theorem foolscaplaw01_UtfOne.mono_l : ∀ k, (∀ y0 y1 y2 y3 y4, LeO (foolscaplaw01_UtfOne.j0 k y0 y1 y2 y3 y4) (foolscaplaw01_UtfOne.j0 (k + 1) y0 y1 y2 y3 y4)) ∧ (∀ y0 y1 y2 y3 y4 y5, LeO (foolscaplaw01_UtfOne.j1 k y0 y1 y2 y3 y4 y5) (foolscaplaw01_UtfOne.j1 (k + 1) y0 y1 y2 y3 y4 y5)) ∧ (∀ y0 y1 y2 y3, LeO (foolscaplaw01_UtfOne.j2 k y0 y1 y2 y3) (foolscaplaw01_UtfOne.j2 (k + 1) y0 y1 y2 y3))
  | 0 => ⟨fun _ _ _ _ _ r h => by simp [foolscaplaw01_UtfOne.j0] at h, fun _ _ _ _ _ _ r h => by simp [foolscaplaw01_UtfOne.j1] at h, fun _ _ _ _ r h => by simp [foolscaplaw01_UtfOne.j2] at h⟩
  | k + 1 => by
    obtain ⟨ih0, ih1, ih2⟩ := foolscaplaw01_UtfOne.mono_l k
    refine ⟨?_, ?_, ?_⟩
    · intro y0 y1 y2 y3 y4
      unfold foolscaplaw01_UtfOne.j0
      repeat' first
      | (with_reducible exact ih0 _ _ _ _ _)
      | (with_reducible exact ih1 _ _ _ _ _ _)
      | (with_reducible exact ih2 _ _ _ _)
      | (with_reducible exact foolscaplaw01_shown.mono _)
      | (with_reducible exact utf_Encode.mono _ _)
      | (with_reducible exact utf_First.mono _ _)
      | (with_reducible exact utf_Size.mono _ _)
      | (with_reducible exact utf_Tail.mono _ _)
      | (with_reducible exact LeO.refl _)
      | (with_reducible exact LeO.none _)
      | (with_reducible refine LeO.ite ?_ ?_)
      | (with_reducible refine LeO.bind ?_ (fun _ => ?_))
      | exact ih0 _ _ _ _ _
      | exact ih1 _ _ _ _ _ _
      | exact ih2 _ _ _ _
      | exact foolscaplaw01_shown.mono _
      | exact utf_Encode.mono _ _
      | exact utf_First.mono _ _
      | exact utf_Size.mono _ _
      | exact utf_Tail.mono _ _
      | exact LeO.none _
      | refine LeO.ite ?_ ?_
      | refine LeO.bind ?_ (fun _ => ?_)
    · intro y0 y1 y2 y3 y4 y5
      unfold foolscaplaw01_UtfOne.j1
      repeat' first
      | (with_reducible exact ih0 _ _ _ _ _)
      | (with_reducible exact ih1 _ _ _ _ _ _)
      | (with_reducible exact ih2 _ _ _ _)
      | (with_reducible exact foolscaplaw01_shown.mono _)
      | (with_reducible exact utf_Encode.mono _ _)
      | (with_reducible exact utf_First.mono _ _)
      | (with_reducible exact utf_Size.mono _ _)
      | (with_reducible exact utf_Tail.mono _ _)
      | (with_reducible exact LeO.refl _)
      | (with_reducible exact LeO.none _)
      | (with_reducible refine LeO.ite ?_ ?_)
      | (with_reducible refine LeO.bind ?_ (fun _ => ?_))
      | exact ih0 _ _ _ _ _
      | exact ih1 _ _ _ _ _ _
      | exact ih2 _ _ _ _
      | exact foolscaplaw01_shown.mono _
      | exact utf_Encode.mono _ _
      | exact utf_First.mono _ _
      | exact utf_Size.mono _ _
      | exact utf_Tail.mono _ _
      | exact LeO.none _
      | refine LeO.ite ?_ ?_
      | refine LeO.bind ?_ (fun _ => ?_)
    · intro y0 y1 y2 y3
      unfold foolscaplaw01_UtfOne.j2
      repeat' first
      | (with_reducible exact ih0 _ _ _ _ _)
      | (with_reducible exact ih1 _ _ _ _ _ _)
      | (with_reducible exact ih2 _ _ _ _)
      | (with_reducible exact foolscaplaw01_shown.mono _)
      | (with_reducible exact utf_Encode.mono _ _)
      | (with_reducible exact utf_First.mono _ _)
      | (with_reducible exact utf_Size.mono _ _)
      | (with_reducible exact utf_Tail.mono _ _)
      | (with_reducible exact LeO.refl _)
      | (with_reducible exact LeO.none _)
      | (with_reducible refine LeO.ite ?_ ?_)
      | (with_reducible refine LeO.bind ?_ (fun _ => ?_))
      | exact ih0 _ _ _ _ _
      | exact ih1 _ _ _ _ _ _
      | exact ih2 _ _ _ _
      | exact foolscaplaw01_shown.mono _
      | exact utf_Encode.mono _ _
      | exact utf_First.mono _ _
      | exact utf_Size.mono _ _
      | exact utf_Tail.mono _ _
      | exact LeO.none _
      | refine LeO.ite ?_ ?_
      | refine LeO.bind ?_ (fun _ => ?_)
theorem foolscaplaw01_UtfOne.mono : ∀ a0 a1 a2 k, LeO (foolscaplaw01_UtfOne.f k a0 a1 a2) (foolscaplaw01_UtfOne.f (k + 1) a0 a1 a2) := by
  intro a0 a1 a2 k
  obtain ⟨ih0, ih1, ih2⟩ := foolscaplaw01_UtfOne.mono_l k
  unfold foolscaplaw01_UtfOne.f
  repeat' first
      | (with_reducible exact ih0 _ _ _ _ _)
      | (with_reducible exact ih1 _ _ _ _ _ _)
      | (with_reducible exact ih2 _ _ _ _)
      | (with_reducible exact foolscaplaw01_shown.mono _)
      | (with_reducible exact utf_Encode.mono _ _)
      | (with_reducible exact utf_First.mono _ _)
      | (with_reducible exact utf_Size.mono _ _)
      | (with_reducible exact utf_Tail.mono _ _)
      | (with_reducible exact LeO.refl _)
      | (with_reducible exact LeO.none _)
      | (with_reducible refine LeO.ite ?_ ?_)
      | (with_reducible refine LeO.bind ?_ (fun _ => ?_))
      | exact ih0 _ _ _ _ _
      | exact ih1 _ _ _ _ _ _
      | exact ih2 _ _ _ _
      | exact foolscaplaw01_shown.mono _
      | exact utf_Encode.mono _ _
      | exact utf_First.mono _ _
      | exact utf_Size.mono _ _
      | exact utf_Tail.mono _ _
      | exact LeO.none _
      | refine LeO.ite ?_ ?_
      | refine LeO.bind ?_ (fun _ => ?_)
set_option maxHeartbeats 8000000 in
set_option maxRecDepth 100000 in
theorem foolscaplaw01_UtfOne.calls (k : Nat) (a0 : Int) (A1 : Option Addr) (c1 : Nat) (l1 : List Int) (a2 : Int) (r : Bool) (w : World) (hr1 : Kd.C (Kd.int .u8) w A1 l1.length l1) (hc1 : l1.length ≤ c1) (h : foolscaplaw01_UtfOne.f k a0 l1 a2 = some r) :
    Calls Try.prog 6 #[.int .i32 a0, .slice A1 l1.length c1, .int .i64 a2] w fun e w' => e = .returned (.bool r) ∧ Below w.heap.size w w' := by
  have HR1 := Aside0.mk hr1
  have HC1 := Aside0.mk hc1
  clear hr1 hc1
  have HB := Aside0.mk (Below.refl w.heap.size w)
  have H : ((foolscaplaw01_shown.f k).bind fun t200 => (if 0 ≤ (mn (l1.length : Int) 20) then (if (mn (l1.length : Int) 20) ≤ (l1.length : Int) then (if a0 ≥ 0 then (if a0 ≤ 1114111 then (if a0 < 55296 then (foolscaplaw01_UtfOne.j0 k a0 (l1.take ((mn (l1.length : Int) 20) : Int).toNat) a2 t200 true) else (foolscaplaw01_UtfOne.j0 k a0 (l1.take ((mn (l1.length : Int) 20) : Int).toNat) a2 t200 (decide (a0 > 57343)))) else (foolscaplaw01_UtfOne.j0 k a0 (l1.take ((mn (l1.length : Int) 20) : Int).toNat) a2 t200 false)) else (foolscaplaw01_UtfOne.j0 k a0 (l1.take ((mn (l1.length : Int) 20) : Int).toNat) a2 t200 false)) else (none)) else (none))) = some r := h
  clear h
  replace H := Option.bind_eq_some_iff.mp H
  obtain ⟨t200, A40, H⟩ := H
  replace H : (if 0 ≤ (mn (l1.length : Int) 20) then (if (mn (l1.length : Int) 20) ≤ (l1.length : Int) then (if a0 ≥ 0 then (if a0 ≤ 1114111 then (if a0 < 55296 then (foolscaplaw01_UtfOne.j0 k a0 (l1.take ((mn (l1.length : Int) 20) : Int).toNat) a2 t200 true) else (foolscaplaw01_UtfOne.j0 k a0 (l1.take ((mn (l1.length : Int) 20) : Int).toNat) a2 t200 (decide (a0 > 57343)))) else (foolscaplaw01_UtfOne.j0 k a0 (l1.take ((mn (l1.length : Int) 20) : Int).toNat) a2 t200 false)) else (foolscaplaw01_UtfOne.j0 k a0 (l1.take ((mn (l1.length : Int) 20) : Int).toNat) a2 t200 false)) else (none)) else (none)) = some r := H
  have A4 := Aside0.mk A40
  clear A40
  obtain ⟨ji5, hji5⟩ : ∃ j_ : Int, (mn (l1.length : Int) 20) = j_ := ⟨_, rfl⟩
  replace H : (if 0 ≤ (ji5) then (if (ji5) ≤ (l1.length : Int) then (if a0 ≥ 0 then (if a0 ≤ 1114111 then (if a0 < 55296 then (foolscaplaw01_UtfOne.j0 k a0 (l1.take ((ji5) : Int).toNat) a2 t200 true) else (foolscaplaw01_UtfOne.j0 k a0 (l1.take ((ji5) : Int).toNat) a2 t200 (decide (a0 > 57343)))) else (foolscaplaw01_UtfOne.j0 k a0 (l1.take ((ji5) : Int).toNat) a2 t200 false)) else (foolscaplaw01_UtfOne.j0 k a0 (l1.take ((ji5) : Int).toNat) a2 t200 false)) else (none)) else (none)) = some r := by first | (rw [hji5] at H; exact H) | (simp only [hji5] at H ⊢; exact H)
  (try rw [hji5] at A4)
  (try (have hji5h : ji5 ≤ 20 := by (rw [← hji5]; unfold mn; (repeat' split) <;> omega)))
  (try (have hji5g : ji5 ≤ 64 := by omega))
  (try (have hji5l : 0 ≤ ji5 := by (rw [← hji5]; unfold mn; (repeat' split) <;> omega)))
  (try (have hji5m : 0 ≤ ji5 := by omega))
  have hji5_ : (if 20 < (l1.length : Int) then 20 else (l1.length : Int)) = ji5 := hji5
  by_cases c6 : 0 ≤ (ji5)
  · rw [if_pos c6] at H
    have c6b0 := eq_true c6
    have c6b1 : decide (0 ≤ (ji5)) = true := decide_eq_true c6
    clear c6
    by_cases c7 : (ji5) ≤ (l1.length : Int)
    · rw [if_pos c7] at H
      have c7b0 := eq_true c7
      have c7b1 : decide ((ji5) ≤ (l1.length : Int)) = true := decide_eq_true c7
      clear c7
      obtain ⟨z_ji5, hz_⟩ : ∃ z_ : List Int, (l1.take ((ji5) : Int).toNat) = z_ := ⟨_, rfl⟩
      rw [hz_] at H
      have HZ_ji5 := Aside0.mk hz_
      clear hz_
      have HC8 := Aside0.mk H
      clear H
      go_enter Try.func6, Try.ntmps6
      go_upto_region 3 with (first | ((with_reducible refine gate_callee (f := 11) rfl ?_); refine goesL_ (some 19) rfl rfl Try.func11 (by kernel_rfl) rfl #[] rfl (by (try simp only [List.map_toArray, List.map_cons, List.map_nil]); first | done | rfl | (simp only [List.length_drop, List.length_take]; rfl)) ?_; (with_reducible refine (foolscaplaw01_shown.calls k  t200 _ A4.out).mono ?_); rintro e w9 ⟨rfl, hb⟩; refine ⟨_, rfl, ?_⟩; have n0_ := Aside0.mk (below_step (by repeat (first | (with_reducible first | exact HB.out | apply below_alloc | apply pw_below_drewN | apply below_drew1) | exact HB.out)) hb); clear HB; have HB := n0_; clear n0_; (try clear hb); (try clear hb2); (try clear hk); (try clear hi); obtain ⟨i010, hi010, _, hsz10, _⟩ := info_parts info5; obtain ⟨hcut10, hA10, hC10⟩ := print_take_of (P := Try.prog) (Value.int .u8) 0 23 5 .i64 Try.underlying23 hi010 hsz10 A1 c1 l1 (ji5) (of_decide_eq_true (by first | (with_reducible assumption) | assumption)) (of_decide_eq_true (by first | (with_reducible assumption) | assumption)) HC1.out; rw [HZ_ji5.out] at hcut10 hA10 hC10; have HR201 := Aside0.mk (Kd.C_of_reads (h1 := fun _ => rfl) (hA10 _ (Kd.reads_of_C HR1.out))); have HC201 := Aside0.mk hC10; clear hA10 hC10 hi010 hsz10))
      (try simp only [Act.put, List.setIfInBounds_toArray, List.set_cons_zero, List.set_cons_succ])
      go_cut [8] (fun v8 wc => ∃ (kq : Nat) (x8_7 : Bool), v8 = .bool x8_7 ∧ Aside0 (foolscaplaw01_UtfOne.j0 kq a0 z_ji5 a2 t200 x8_7 = some r) ∧ Aside0 (kq ≤ k) ∧ Aside0 (Below w.heap.size w wc))
      case first =>
        have H := HC8.out
        clear HC8
        by_cases c11 : a0 ≥ 0
        · rw [if_pos c11] at H
          have c11b0 : decide (0 ≤ a0) = true := decide_eq_true c11
          clear c11
          (first | rw [c11b0] | (simp only [i64_w, i32_w]; rw [c11b0]) | skip)
          by_cases c12 : a0 ≤ 1114111
          · rw [if_pos c12] at H
            have c12b0 : decide (a0 ≤ 1114111) = true := decide_eq_true c12
            clear c12
            by_cases c13 : a0 < 55296
            · rw [if_pos c13] at H
              have c13b0 : decide (a0 < 55296) = true := decide_eq_true c13
              clear c13
              have H' := Aside0.mk H
              clear H
              go_wp2
              go_meet
              case rel => exact ⟨_, (true), (by first | rfl | (simp; done) | (simp [*]; done)), H', ⟨by first | omega | exact Nat.le_refl _⟩, ⟨by repeat (first | (with_reducible first | exact HB.out | apply below_alloc | apply pw_below_drewN | apply below_drew1) | exact HB.out)⟩⟩
            · rw [if_neg c13] at H
              have c13b0 : decide (a0 < 55296) = false := decide_eq_false c13
              clear c13
              have H' := Aside0.mk H
              clear H
              go_wp2
              go_meet
              case rel => exact ⟨_, (decide (a0 > 57343)), (by first | rfl | (simp; done) | (simp [*]; done)), H', ⟨by first | omega | exact Nat.le_refl _⟩, ⟨by repeat (first | (with_reducible first | exact HB.out | apply below_alloc | apply pw_below_drewN | apply below_drew1) | exact HB.out)⟩⟩
          · rw [if_neg c12] at H
            have c12b0 : decide (a0 ≤ 1114111) = false := decide_eq_false c12
            clear c12
            have H' := Aside0.mk H
            clear H
            go_wp2
            go_meet
            case rel => exact ⟨_, (false), (by first | rfl | (simp; done) | (simp [*]; done)), H', ⟨by first | omega | exact Nat.le_refl _⟩, ⟨by repeat (first | (with_reducible first | exact HB.out | apply below_alloc | apply pw_below_drewN | apply below_drew1) | exact HB.out)⟩⟩
        · rw [if_neg c11] at H
          have c11b0 : decide (0 ≤ a0) = false := decide_eq_false c11
          clear c11
          (first | rw [c11b0] | (simp only [i64_w, i32_w]; rw [c11b0]) | skip)
          have H' := Aside0.mk H
          clear H
          go_wp2
          go_meet
          case rel => exact ⟨_, (false), (by first | rfl | (simp; done) | (simp [*]; done)), H', ⟨by first | omega | exact Nat.le_refl _⟩, ⟨by repeat (first | (with_reducible first | exact HB.out | apply below_alloc | apply pw_below_drewN | apply below_drew1) | exact HB.out)⟩⟩
      case rest =>
        clear HC8
        try clear c1
        try clear p2
        try clear c6
        try clear c6b0
        try clear c6b1
        try clear c7
        try clear c7b0
        try clear c7b1
        try clear c11
        try clear c11b0
        try clear c12
        try clear c12b0
        try clear c13
        try clear c13b0
        obtain ⟨kq, x8_7, rfl, HA, HJ7, HB⟩ := hcut
        cases kq with
        | zero => exact absurd HA.out (by simp [foolscaplaw01_UtfOne.j0])
        | succ kj7 =>
          have H := HA.out
          clear HA
          simp only [foolscaplaw01_UtfOne.j0] at H
          obtain ⟨y202, hy202⟩ : ∃ y_ : List Int, y_ = (([a0] : List Int)) := ⟨_, rfl⟩
          replace H : ((utf_Encode.f kj7 y202).bind fun bt205 => (if x8_7 = true then (if bt205.2 = 0 then (if (bt205.1.length : Int) < 1 then (foolscaplaw01_UtfOne.j1 kj7 a0 z_ji5 a2 t200 bt205.1 true) else (if (bt205.1.length : Int) > 4 then (foolscaplaw01_UtfOne.j1 kj7 a0 z_ji5 a2 t200 bt205.1 true) else ((utf_Size.f kj7 a0).bind fun t210 => (foolscaplaw01_UtfOne.j1 kj7 a0 z_ji5 a2 t200 bt205.1 (t210 != (bt205.1.length : Int)))))) else (foolscaplaw01_UtfOne.j1 kj7 a0 z_ji5 a2 t200 bt205.1 true)) else (if t200 = true then (if bt205.2 = 1 then (if (bt205.1.length : Int) = 0 then ((utf_Size.f kj7 a0).bind fun t209 => (some (t209 == 0))) else (some false)) else (some false)) else (some false)))) = some r := by first | (rw [hy202]; with_reducible exact H) | (have H2_ := (Option.bind_some _ _).symm.trans H; rw [hy202]; with_reducible exact H2_) | (have H2_ := (Option.bind_some _ _).symm.trans H; with_reducible exact H2_) | with_reducible exact H | (rw [hy202]; exact H) | exact H
          have Ny202 := Aside0.mk hy202
          clear hy202
          replace H := Option.bind_eq_some_iff.mp H
          obtain ⟨⟨t205, t206⟩, A140, H⟩ := H
          replace H : (if x8_7 = true then (if t206 = 0 then (if (t205.length : Int) < 1 then (foolscaplaw01_UtfOne.j1 kj7 a0 z_ji5 a2 t200 t205 true) else (if (t205.length : Int) > 4 then (foolscaplaw01_UtfOne.j1 kj7 a0 z_ji5 a2 t200 t205 true) else ((utf_Size.f kj7 a0).bind fun t210 => (foolscaplaw01_UtfOne.j1 kj7 a0 z_ji5 a2 t200 t205 (t210 != (t205.length : Int)))))) else (foolscaplaw01_UtfOne.j1 kj7 a0 z_ji5 a2 t200 t205 true)) else (if t200 = true then (if t206 = 1 then (if (t205.length : Int) = 0 then ((utf_Size.f kj7 a0).bind fun t209 => (some (t209 == 0))) else (some false)) else (some false)) else (some false))) = some r := H
          have A14 := Aside0.mk A140
          clear A140
          by_cases c15 : x8_7 = true
          · subst c15
            have H1 : (if t206 = 0 then (if (t205.length : Int) < 1 then (foolscaplaw01_UtfOne.j1 kj7 a0 z_ji5 a2 t200 t205 true) else (if (t205.length : Int) > 4 then (foolscaplaw01_UtfOne.j1 kj7 a0 z_ji5 a2 t200 t205 true) else ((utf_Size.f kj7 a0).bind fun t210 => (foolscaplaw01_UtfOne.j1 kj7 a0 z_ji5 a2 t200 t205 (t210 != (t205.length : Int)))))) else (foolscaplaw01_UtfOne.j1 kj7 a0 z_ji5 a2 t200 t205 true)) = some r := by rw [if_pos rfl] at H; exact H
            clear H
            have H := H1
            clear H1
            have HC16 := Aside0.mk H
            clear H
            go_upto_region 7 with (first | ((with_reducible refine gate_dst (N := 41) rfl ?_); (try (refine gate_guard (by rfl) ?_; dsimp only)); refine Kd.R_lit (Kd.int .i32) _ 21 ?hg (N := 41) ?hd (xs := ([a0] : List Int)) (inner := [.int .i32 a0]) (ok := fun _ => True) (okp := fun _ => True) ?hr ?hp (fun _ hk => hk) trivial (Below.refl _ _) (Nat.le_refl _) (by simp) ?_; (case hd => rfl); (case hg => rfl); (case hr => first | (go_simp; done) | (go_simp; rfl)); (case hp => exact (Reps.one (show Kd.M (Kd.int .i32) _ _ _ a0 [.int .i32 a0] from rfl) (Reps.none _ _))); intro v203 w17 ho18 hb hg_ hnew_; clear hg_ hnew_; (first | rw [← Ny202.out] at ho18 | (simp only [Int.reduceToNat] at ho18; rw [← Ny202.out] at ho18)); have n0_ := Aside0.mk (Kd.R_lower ho18 (below_size (by repeat (first | (with_reducible first | exact HB.out | apply below_alloc | apply pw_below_drewN | apply below_drew1) | exact HB.out)))); have n1_ := Aside0.mk (below_step (by repeat (first | (with_reducible first | exact HB.out | apply below_alloc | apply pw_below_drewN | apply below_drew1) | exact HB.out)) hb); clear HB; have HO204 := n0_; have HB := n1_; clear n0_ n1_; clear hb ho18; obtain ⟨Ao19, co19, eo19⟩ := Kd.R_slice HO204.out; subst eo19) | ((with_reducible refine gate_callee (f := 12) rfl ?_); refine goesL_ (some 42) rfl rfl Try.func12 (by kernel_rfl) rfl #[.slice Ao19 y202.length co19] rfl (by (try simp only [List.map_toArray, List.map_cons, List.map_nil]); first | done | rfl | (simp only [List.length_drop, List.length_take]; rfl)) ?_; (with_reducible refine (utf_Encode.calls kj7 _ _ y202 t205 t206 _ ?side1 ?side2 A14.out).mono ?_); (case side1 => repeat (first | exact (Kd.R_reads' HO204.out).2.2 | (with_reducible refine Kd.C_alloc ?_ _) | (with_reducible refine Kd.C_drewN ?_ _) | (with_reducible refine Kd.C_drew ?_))); (case side2 => exact (Kd.R_reads' HO204.out).2.1); rintro e w20 ⟨v207, rfl, ho0, hb⟩; refine ⟨_, rfl, ?_⟩; have n0_ := Aside0.mk (Kd.R_below (by (with_reducible repeat (first | apply Kd.R_alloc | apply Kd.R_drewN | apply Kd.R_drew)); exact HO204.out) hb); have n1_ := Aside0.mk (Kd.R_lower ho0 (below_size (by repeat (first | (with_reducible first | exact HB.out | apply below_alloc | apply pw_below_drewN | apply below_drew1) | exact HB.out)))); have n2_ := Aside0.mk (below_step (by repeat (first | (with_reducible first | exact HB.out | apply below_alloc | apply pw_below_drewN | apply below_drew1) | exact HB.out)) hb); clear HO204; clear HB; have HO204 := n0_; have HO208 := n1_; have HB := n2_; clear n0_ n1_ n2_; (try clear hb); (try clear hb2); (try clear hk); (try clear hi); (try clear ho0)))
            (try simp only [Act.put, List.setIfInBounds_toArray, List.set_cons_zero, List.set_cons_succ])
            go_cut [80] (fun v80 wc => ∃ (kq : Nat) (x80_15 : Bool), v80 = .bool x80_15 ∧ Aside0 (foolscaplaw01_UtfOne.j1 kq a0 z_ji5 a2 t200 t205 x80_15 = some r) ∧ Aside0 (kq ≤ kj7) ∧ Aside0 (Kd.R (Kd.int .u8) 5 wc w.heap.size (fun _ => True) v207 t205) ∧ Aside0 (Below w.heap.size w wc))
            case first =>
              have H := HC16.out
              clear HC16
              by_cases c21 : t206 = 0
              · rw [if_pos c21] at H
                have c21b0 : (t206 == 0) = true := beq_iff_eq.mpr c21
                have c21b1 : (t206 != 0) = false := bne_eq_false_iff_eq.mpr c21
                clear c21
                (first | rw [c21b0] | (simp only [i64_w, i32_w]; rw [c21b0]) | skip)
                by_cases c22 : (t205.length : Int) < 1
                · rw [if_pos c22] at H
                  have c22b0 : decide ((t205.length : Int) < 1) = true := decide_eq_true c22
                  have c22b1 : decide (t205.length < 1) = true := decide_eq_true (by omega)
                  clear c22
                  have H' := Aside0.mk H
                  clear H
                  obtain ⟨Ao23, co23, eo23⟩ := Kd.R_slice HO208.out
                  subst eo23
                  go_wp2
                  go_meet
                  case rel => exact ⟨_, (true), (by first | rfl | (simp; done) | (simp [*]; done)), H', ⟨by have := HJ7.out; first | omega | exact Nat.le_refl _⟩, ⟨by (with_reducible repeat (first | apply Kd.R_alloc | apply Kd.R_drewN | apply Kd.R_drew)); exact HO208.out⟩, ⟨by repeat (first | (with_reducible first | exact HB.out | apply below_alloc | apply pw_below_drewN | apply below_drew1) | exact HB.out)⟩⟩
                · rw [if_neg c22] at H
                  have c22b0 : decide ((t205.length : Int) < 1) = false := decide_eq_false c22
                  have c22b1 : decide (t205.length < 1) = false := decide_eq_false (by omega)
                  clear c22
                  by_cases c24 : (t205.length : Int) > 4
                  · rw [if_pos c24] at H
                    have c24b0 : decide (4 < (t205.length : Int)) = true := decide_eq_true c24
                    have c24b1 : decide (4 < t205.length) = true := decide_eq_true (by omega)
                    clear c24
                    have H' := Aside0.mk H
                    clear H
                    obtain ⟨Ao25, co25, eo25⟩ := Kd.R_slice HO208.out
                    subst eo25
                    go_wp2
                    go_meet
                    case rel => exact ⟨_, (true), (by first | rfl | (simp; done) | (simp [*]; done)), H', ⟨by have := HJ7.out; first | omega | exact Nat.le_refl _⟩, ⟨by (with_reducible repeat (first | apply Kd.R_alloc | apply Kd.R_drewN | apply Kd.R_drew)); exact HO208.out⟩, ⟨by repeat (first | (with_reducible first | exact HB.out | apply below_alloc | apply pw_below_drewN | apply below_drew1) | exact HB.out)⟩⟩
                  · rw [if_neg c24] at H
                    have c24b0 : decide (4 < (t205.length : Int)) = false := decide_eq_false c24
                    have c24b1 : decide (4 < t205.length) = false := decide_eq_false (by omega)
                    clear c24
                    replace H := Option.bind_eq_some_iff.mp H
                    obtain ⟨t210, A260, H⟩ := H
                    replace H : (foolscaplaw01_UtfOne.j1 kj7 a0 z_ji5 a2 t200 t205 (t210 != (t205.length : Int))) = some r := H
                    have A26 := Aside0.mk A260
                    clear A260
                    have H' := Aside0.mk H
                    clear H
                    obtain ⟨Ao27, co27, eo27⟩ := Kd.R_slice HO208.out
                    subst eo27
                    go_wp2_with (first | (go_at_call 19; (with_reducible refine (utf_Size.calls kj7 a0 t210 _ A26.out).mono ?_); rintro e w' ⟨rfl, ⟨nd, rfl⟩⟩))
                    go_meet
                    case rel => exact ⟨_, ((t210 != (t205.length : Int))), (by first | rfl | (simp; done) | (simp [*]; done)), H', ⟨by have := HJ7.out; first | omega | exact Nat.le_refl _⟩, ⟨by (with_reducible repeat (first | apply Kd.R_alloc | apply Kd.R_drewN | apply Kd.R_drew)); exact HO208.out⟩, ⟨by repeat (first | (with_reducible first | exact HB.out | apply below_alloc | apply pw_below_drewN | apply below_drew1) | exact HB.out)⟩⟩
              · rw [if_neg c21] at H
                have c21b0 : (t206 == 0) = false := beq_eq_false_iff_ne.mpr c21
                have c21b1 : (t206 != 0) = true := bne_iff_ne.mpr c21
                (first | rw [c21b0] | (simp only [i64_w, i32_w]; rw [c21b0]) | skip)
                have H' := Aside0.mk H
                clear H
                go_wp2
                go_meet
                case rel => exact ⟨_, (true), (by first | rfl | (simp; done) | (simp [*]; done)), H', ⟨by have := HJ7.out; first | omega | exact Nat.le_refl _⟩, ⟨by (with_reducible repeat (first | apply Kd.R_alloc | apply Kd.R_drewN | apply Kd.R_drew)); exact HO208.out⟩, ⟨by repeat (first | (with_reducible first | exact HB.out | apply below_alloc | apply pw_below_drewN | apply below_drew1) | exact HB.out)⟩⟩
            case rest =>
              clear HC16
              try clear c1
              try clear c2
              try clear p2
              try clear c6
              try clear c6b0
              try clear c6b1
              try clear c7
              try clear c7b0
              try clear c7b1
              try clear c11
              try clear c11b0
              try clear c12
              try clear c12b0
              try clear c13
              try clear c13b0
              try clear c15
              try clear c21
              try clear c21b0
              try clear c21b1
              try clear c22
              try clear c22b0
              try clear c22b1
              try clear c24
              try clear c24b0
              try clear c24b1
              try clear p2
              obtain ⟨kq, x80_15, rfl, HA, HJ15, HO_9, HB⟩ := hcut
              cases kq with
              | zero => exact absurd HA.out (by simp [foolscaplaw01_UtfOne.j1])
              | succ kj15 =>
                have H := HA.out
                clear HA
                simp only [foolscaplaw01_UtfOne.j1] at H
                by_cases c28 : x80_15 = true
                · subst c28
                  have H1 : (some false) = some r := by rw [if_pos rfl] at H; exact H
                  clear H
                  have H := H1
                  clear H1
                  obtain rfl := Option.some.inj H
                  go_wp2
                  go_ret
                  exact ⟨by first | rfl | (simp [errW_none, errW_some] <;> rfl) | (simp only [← hji5]; first | rfl | (simp [errW_none, errW_some] <;> rfl)) | (simp [*, errW_none, errW_some] <;> rfl), by repeat (first | (with_reducible first | exact HB.out | apply below_alloc | apply pw_below_drewN | apply below_drew1) | exact HB.out)⟩
                · replace c28 := Bool.eq_false_iff.mpr c28
                  subst c28
                  have H1 : ((some (([] : List Int) : List Int)).bind fun y211 => (if y211.length + t205.length < 140737488355328 then ((some (y211 ++ t205 : List Int)).bind fun y214 => (if y214.length + z_ji5.length < 140737488355328 then ((utf_First.f kj15 (y214 ++ z_ji5)).bind fun bt220 => (if bt220.2.2 = 0 then (if bt220.1 = a0 then (foolscaplaw01_UtfOne.j2 kj15 a2 t200 t205 (bt220.2.1 != (t205.length : Int))) else (foolscaplaw01_UtfOne.j2 kj15 a2 t200 t205 true)) else (foolscaplaw01_UtfOne.j2 kj15 a2 t200 t205 true))) else (none))) else (none))) = some r := by rw [if_neg (show ¬ (false = true) by decide)] at H; exact H
                  clear H
                  have H := H1
                  clear H1
                  obtain ⟨y211, hy211⟩ : ∃ y_ : List Int, y_ = (([] : List Int)) := ⟨_, rfl⟩
                  replace H : (if y211.length + t205.length < 140737488355328 then ((some (y211 ++ t205 : List Int)).bind fun y214 => (if y214.length + z_ji5.length < 140737488355328 then ((utf_First.f kj15 (y214 ++ z_ji5)).bind fun bt220 => (if bt220.2.2 = 0 then (if bt220.1 = a0 then (foolscaplaw01_UtfOne.j2 kj15 a2 t200 t205 (bt220.2.1 != (t205.length : Int))) else (foolscaplaw01_UtfOne.j2 kj15 a2 t200 t205 true)) else (foolscaplaw01_UtfOne.j2 kj15 a2 t200 t205 true))) else (none))) else (none)) = some r := by first | (rw [hy211]; with_reducible exact H) | (have H2_ := (Option.bind_some _ _).symm.trans H; rw [hy211]; with_reducible exact H2_) | (have H2_ := (Option.bind_some _ _).symm.trans H; with_reducible exact H2_) | with_reducible exact H | (rw [hy211]; exact H) | exact H
                  have Ny211 := Aside0.mk hy211
                  clear hy211
                  by_cases c29 : y211.length + t205.length < 140737488355328
                  · rw [if_pos c29] at H
                    have LMc29 := Aside0.mk c29
                    clear c29
                    obtain ⟨y214, hy214⟩ : ∃ y_ : List Int, y_ = (y211 ++ t205) := ⟨_, rfl⟩
                    replace H : (if y214.length + z_ji5.length < 140737488355328 then ((utf_First.f kj15 (y214 ++ z_ji5)).bind fun bt220 => (if bt220.2.2 = 0 then (if bt220.1 = a0 then (foolscaplaw01_UtfOne.j2 kj15 a2 t200 t205 (bt220.2.1 != (t205.length : Int))) else (foolscaplaw01_UtfOne.j2 kj15 a2 t200 t205 true)) else (foolscaplaw01_UtfOne.j2 kj15 a2 t200 t205 true))) else (none)) = some r := by first | (rw [hy214]; with_reducible exact H) | (have H2_ := (Option.bind_some _ _).symm.trans H; rw [hy214]; with_reducible exact H2_) | (have H2_ := (Option.bind_some _ _).symm.trans H; with_reducible exact H2_) | with_reducible exact H | (rw [hy214]; exact H) | exact H
                    have Ny214 := Aside0.mk hy214
                    clear hy214
                    by_cases c30 : y214.length + z_ji5.length < 140737488355328
                    · rw [if_pos c30] at H
                      have LMc30 := Aside0.mk c30
                      clear c30
                      obtain ⟨y217, hy217⟩ : ∃ y_ : List Int, y_ = (y214 ++ z_ji5) := ⟨_, rfl⟩
                      replace H : ((utf_First.f kj15 y217).bind fun bt220 => (if bt220.2.2 = 0 then (if bt220.1 = a0 then (foolscaplaw01_UtfOne.j2 kj15 a2 t200 t205 (bt220.2.1 != (t205.length : Int))) else (foolscaplaw01_UtfOne.j2 kj15 a2 t200 t205 true)) else (foolscaplaw01_UtfOne.j2 kj15 a2 t200 t205 true))) = some r := by first | (rw [hy217]; with_reducible exact H) | (have H2_ := (Option.bind_some _ _).symm.trans H; rw [hy217]; with_reducible exact H2_) | (have H2_ := (Option.bind_some _ _).symm.trans H; with_reducible exact H2_) | with_reducible exact H | (rw [hy217]; exact H) | exact H
                      have Ny217 := Aside0.mk hy217
                      clear hy217
                      replace H := Option.bind_eq_some_iff.mp H
                      obtain ⟨⟨t220, t221, t222⟩, A310, H⟩ := H
                      replace H : (if t222 = 0 then (if t220 = a0 then (foolscaplaw01_UtfOne.j2 kj15 a2 t200 t205 (t221 != (t205.length : Int))) else (foolscaplaw01_UtfOne.j2 kj15 a2 t200 t205 true)) else (foolscaplaw01_UtfOne.j2 kj15 a2 t200 t205 true)) = some r := H
                      have A31 := Aside0.mk A310
                      clear A310
                      have HC32 := Aside0.mk H
                      clear H
                      go_upto_region 11 with (first | ((with_reducible refine gate_dst (N := 81) rfl ?_); (try (refine gate_guard (by rfl) ?_; dsimp only)); refine Kd.R_lit (Kd.int .u8) _ 5 ?hg (N := 81) ?hd (xs := ([] : List Int)) (inner := []) (ok := fun _ => True) (okp := fun _ => True) ?hr ?hp (fun _ hk => hk) trivial (Below.refl _ _) (Nat.le_refl _) (by simp) ?_; (case hd => rfl); (case hg => rfl); (case hr => first | (go_simp; done) | (go_simp; rfl)); (case hp => exact (Reps.none _ _)); intro v212 w33 ho34 hb hg_ hnew_; clear hg_ hnew_; (first | rw [← Ny211.out] at ho34 | (simp only [Int.reduceToNat] at ho34; rw [← Ny211.out] at ho34)); have n0_ := Aside0.mk (Kd.R_elder' (by (with_reducible repeat (first | apply Kd.R_alloc | apply Kd.R_drewN | apply Kd.R_drew)); exact HO_9.out) (Kd.R_base ho34) hb); have n1_ := Aside0.mk (Kd.R_lower (Kd.R_new' ho34 (Kd.R_lt (by (with_reducible repeat (first | apply Kd.R_alloc | apply Kd.R_drewN | apply Kd.R_drew)); exact HO_9.out))) (below_size (by repeat (first | (with_reducible first | exact HB.out | apply below_alloc | apply pw_below_drewN | apply below_drew1) | exact HB.out)))); have n2_ := Aside0.mk (below_step (by repeat (first | (with_reducible first | exact HB.out | apply below_alloc | apply pw_below_drewN | apply below_drew1) | exact HB.out)) hb); clear HO_9; clear HB; have HO_9 := n0_; have HO213 := n1_; have HB := n2_; clear n0_ n1_ n2_; clear hb ho34; obtain ⟨Ao36, co36, eo36⟩ := Kd.R_slice HO_9.out; subst eo36) | ((with_reducible refine gate_builtin (b := .append) (xs := #[.tmp 81, .tmp 82]) rfl ?_); (try (refine gate_guard (by rfl) ?_; dsimp only)); at_builtin; refine Kd.R_append_rows (Kd.int .u8) (w0 := w) w.heap.size rfl (.tmp 81) (.tmp 82) 23 5 (.int .u8 0) 1 rfl Try.underlying23 info5 rfl (by decide) (by omega) v212 y211 t205 _ _ _ (fun k_ => some k_ ≠ (.slice Ao36 t205.length co36 : Value).ownBlock) (fun _ => False) rfl rfl ?aO ?aR (fun _ _ h => h) (fun _ h => h.elim) ?aF ?aB ?aS ?aL ?_; (case aR => repeat (first | exact (Kd.R_reads' HO_9.out).2.2 | (with_reducible refine Kd.C_alloc ?_ _) | (with_reducible refine Kd.C_drewN ?_ _) | (with_reducible refine Kd.C_drew ?_))); (case aB => exact (by repeat (first | (with_reducible first | exact HB.out | apply below_alloc | apply pw_below_drewN | apply below_drew1) | exact HB.out))); (case aF => exact (fun k_ hk => Kd.fresh' (Kd.R_lt (by (with_reducible repeat (first | apply Kd.R_alloc | apply Kd.R_drewN | apply Kd.R_drew)); exact HO_9.out)) k_ hk)); (case aO => exact (by (with_reducible repeat (first | apply Kd.R_alloc | apply Kd.R_drewN | apply Kd.R_drew)); exact Kd.R_mono HO213.out (fun _ hk => hk.2))); (case aS => exact (below_size (by repeat (first | (with_reducible first | exact HB.out | apply below_alloc | apply pw_below_drewN | apply below_drew1) | exact HB.out)))); (case aL => have := LMc29.out; omega); intro v215 w35 ho hb hg hat; rw [← Ny214.out] at ho; have n0_ := Aside0.mk (Kd.R_after (ok := (fun _ => True)) (by (with_reducible repeat (first | apply Kd.R_alloc | apply Kd.R_drewN | apply Kd.R_drew)); exact HO_9.out) hg hat); have n1_ := Aside0.mk (hb); have n2_ := Aside0.mk (ho); clear HO_9; clear HB; clear HO213; have HO_9 := n0_; have HB := n1_; have HO216 := n2_; clear n0_ n1_ n2_; clear ho hb hg hat) | ((with_reducible refine gate_builtin (b := .append) (xs := #[.tmp 83, .tmp 84]) rfl ?_); (try (refine gate_guard (by rfl) ?_; dsimp only)); at_builtin; refine Kd.R_append_rows (Kd.int .u8) (w0 := w) w.heap.size rfl (.tmp 83) (.tmp 84) 23 5 (.int .u8 0) 1 rfl Try.underlying23 info5 rfl (by decide) (by omega) v215 y214 z_ji5 _ _ _ (fun k_ => some k_ ≠ (.slice Ao36 t205.length co36 : Value).ownBlock) (fun _ => False) rfl rfl ?aO ?aR (fun _ _ h => h) (fun _ h => h.elim) ?aF ?aB ?aS ?aL ?_; (case aR => first | (rw [← show z_ji5.length = (ji5).toNat from (by rw [← HZ_ji5.out, List.length_take]; have h_ : ((ji5) : Int) ≤ (l1.length : Int) := of_decide_eq_true (by first | (with_reducible assumption) | assumption); omega)]; repeat (first | exact (Kd.C_below HR201.out HB.out) | (with_reducible refine Kd.C_alloc ?_ _) | (with_reducible refine Kd.C_drewN ?_ _) | (with_reducible refine Kd.C_drew ?_))) | (repeat (first | exact (Kd.C_below HR201.out HB.out) | (with_reducible refine Kd.C_alloc ?_ _) | (with_reducible refine Kd.C_drewN ?_ _) | (with_reducible refine Kd.C_drew ?_)))); (case aB => exact (by repeat (first | (with_reducible first | exact HB.out | apply below_alloc | apply pw_below_drewN | apply below_drew1) | exact HB.out))); (case aF => exact (fun k_ hk => Kd.fresh' (Kd.R_lt (by (with_reducible repeat (first | apply Kd.R_alloc | apply Kd.R_drewN | apply Kd.R_drew)); exact HO_9.out)) k_ hk)); (case aO => exact (by (with_reducible repeat (first | apply Kd.R_alloc | apply Kd.R_drewN | apply Kd.R_drew)); exact HO216.out)); (case aS => exact (below_size (by repeat (first | (with_reducible first | exact HB.out | apply below_alloc | apply pw_below_drewN | apply below_drew1) | exact HB.out)))); (case aL => have := LMc30.out; omega); intro v218 w37 ho hb hg hat; rw [← Ny217.out] at ho; have n0_ := Aside0.mk (Kd.R_after (ok := (fun _ => True)) (by (with_reducible repeat (first | apply Kd.R_alloc | apply Kd.R_drewN | apply Kd.R_drew)); exact HO_9.out) hg hat); have n1_ := Aside0.mk (hb); have n2_ := Aside0.mk (ho); clear HO_9; clear HB; clear HO216; have HO_9 := n0_; have HB := n1_; have HO219 := n2_; clear n0_ n1_ n2_; clear ho hb hg hat; obtain ⟨Ao38, co38, eo38⟩ := Kd.R_slice HO219.out; subst eo38) | ((with_reducible refine gate_callee (f := 14) rfl ?_); refine goesL_ (some 88) rfl rfl Try.func14 (by kernel_rfl) rfl #[.slice Ao38 y217.length co38] rfl (by (try simp only [List.map_toArray, List.map_cons, List.map_nil]); first | done | rfl | (simp only [List.length_drop, List.length_take]; rfl)) ?_; (with_reducible refine (utf_First.calls kj15 _ _ y217 t220 t221 t222 _ ?side1 ?side2 A31.out).mono ?_); (case side1 => repeat (first | exact (Kd.R_reads' HO219.out).2.2 | (with_reducible refine Kd.C_alloc ?_ _) | (with_reducible refine Kd.C_drewN ?_ _) | (with_reducible refine Kd.C_drew ?_))); (case side2 => exact (Kd.R_reads' HO219.out).2.1); rintro e w' ⟨rfl, ⟨nd, rfl⟩⟩; refine ⟨_, rfl, ?_⟩))
                      (try simp only [Act.put, List.setIfInBounds_toArray, List.set_cons_zero, List.set_cons_succ])
                      go_cut [104] (fun v104 wc => ∃ (kq : Nat) (x104_31 : Bool), v104 = .bool x104_31 ∧ Aside0 (foolscaplaw01_UtfOne.j2 kq a2 t200 t205 x104_31 = some r) ∧ Aside0 (kq ≤ kj15) ∧ Aside0 (Kd.R (Kd.int .u8) 5 wc w.heap.size (fun _ => True) (.slice Ao36 t205.length co36) t205) ∧ Aside0 (Below w.heap.size w wc))
                      case first =>
                        have H := HC32.out
                        clear HC32
                        by_cases c39 : t222 = 0
                        · rw [if_pos c39] at H
                          have c39b0 : (t222 == 0) = true := beq_iff_eq.mpr c39
                          have c39b1 : (t222 != 0) = false := bne_eq_false_iff_eq.mpr c39
                          clear c39
                          (first | rw [c39b0] | (simp only [i64_w, i32_w]; rw [c39b0]) | skip)
                          by_cases c40 : t220 = a0
                          · rw [if_pos c40] at H
                            have c40b0 : (t220 == a0) = true := beq_iff_eq.mpr c40
                            have c40b1 : (t220 != a0) = false := bne_eq_false_iff_eq.mpr c40
                            clear c40
                            have H' := Aside0.mk H
                            clear H
                            go_wp2
                            go_meet
                            case rel => exact ⟨_, ((t221 != (t205.length : Int))), (by first | rfl | (simp; done) | (simp [*]; done)), H', ⟨by have := HJ7.out; have := HJ15.out; first | omega | exact Nat.le_refl _⟩, ⟨by (with_reducible repeat (first | apply Kd.R_alloc | apply Kd.R_drewN | apply Kd.R_drew)); exact Kd.R_mono HO_9.out (fun _ hk => trivial)⟩, ⟨by repeat (first | (with_reducible first | exact HB.out | apply below_alloc | apply pw_below_drewN | apply below_drew1) | exact HB.out)⟩⟩
                          · rw [if_neg c40] at H
                            have c40b0 : (t220 == a0) = false := beq_eq_false_iff_ne.mpr c40
                            have c40b1 : (t220 != a0) = true := bne_iff_ne.mpr c40
                            have H' := Aside0.mk H
                            clear H
                            go_wp2
                            go_meet
                            case rel => exact ⟨_, (true), (by first | rfl | (simp; done) | (simp [*]; done)), H', ⟨by have := HJ7.out; have := HJ15.out; first | omega | exact Nat.le_refl _⟩, ⟨by (with_reducible repeat (first | apply Kd.R_alloc | apply Kd.R_drewN | apply Kd.R_drew)); exact Kd.R_mono HO_9.out (fun _ hk => trivial)⟩, ⟨by repeat (first | (with_reducible first | exact HB.out | apply below_alloc | apply pw_below_drewN | apply below_drew1) | exact HB.out)⟩⟩
                        · rw [if_neg c39] at H
                          have c39b0 : (t222 == 0) = false := beq_eq_false_iff_ne.mpr c39
                          have c39b1 : (t222 != 0) = true := bne_iff_ne.mpr c39
                          (first | rw [c39b0] | (simp only [i64_w, i32_w]; rw [c39b0]) | skip)
                          have H' := Aside0.mk H
                          clear H
                          go_wp2
                          go_meet
                          case rel => exact ⟨_, (true), (by first | rfl | (simp; done) | (simp [*]; done)), H', ⟨by have := HJ7.out; have := HJ15.out; first | omega | exact Nat.le_refl _⟩, ⟨by (with_reducible repeat (first | apply Kd.R_alloc | apply Kd.R_drewN | apply Kd.R_drew)); exact Kd.R_mono HO_9.out (fun _ hk => trivial)⟩, ⟨by repeat (first | (with_reducible first | exact HB.out | apply below_alloc | apply pw_below_drewN | apply below_drew1) | exact HB.out)⟩⟩
                      case rest =>
                        clear HC32
                        try clear c1
                        try clear c2
                        try clear p2
                        try clear c3
                        try clear c4
                        try clear c6
                        try clear c6b0
                        try clear c6b1
                        try clear c7
                        try clear c7b0
                        try clear c7b1
                        try clear c11
                        try clear c11b0
                        try clear c12
                        try clear c12b0
                        try clear c13
                        try clear c13b0
                        try clear c14
                        try clear c15
                        try clear c21
                        try clear c21b0
                        try clear c21b1
                        try clear c22
                        try clear c22b0
                        try clear c22b1
                        try clear c24
                        try clear c24b0
                        try clear c24b1
                        try clear c28
                        try clear c29
                        try clear c30
                        try clear c39
                        try clear c39b0
                        try clear c39b1
                        try clear c40
                        try clear c40b0
                        try clear c40b1
                        try clear p2
                        obtain ⟨kq, x104_31, rfl, HA, HJ31, HO_9, HB⟩ := hcut
                        cases kq with
                        | zero => exact absurd HA.out (by simp [foolscaplaw01_UtfOne.j2])
                        | succ kj31 =>
                          have H := HA.out
                          clear HA
                          simp only [foolscaplaw01_UtfOne.j2] at H
                          by_cases c41 : x104_31 = true
                          · subst c41
                            have H1 : (some false) = some r := by rw [if_pos rfl] at H; exact H
                            clear H
                            have H := H1
                            clear H1
                            obtain rfl := Option.some.inj H
                            go_wp2
                            go_ret
                            exact ⟨by first | rfl | (simp [errW_none, errW_some] <;> rfl) | (simp only [← hji5]; first | rfl | (simp [errW_none, errW_some] <;> rfl)) | (simp [*, errW_none, errW_some] <;> rfl), by repeat (first | (with_reducible first | exact HB.out | apply below_alloc | apply pw_below_drewN | apply below_drew1) | exact HB.out)⟩
                          · replace c41 := Bool.eq_false_iff.mpr c41
                            subst c41
                            have H1 : (if (t205.length : Int) = 0 then (none) else (if 0 ≤ (Int.tmod (Go.bits .and .i64 a2 255) (t205.length : Int)) then (if (Int.tmod (Go.bits .and .i64 a2 255) (t205.length : Int)) ≤ (t205.length : Int) then ((utf_First.f kj31 (t205.take ((Int.tmod (Go.bits .and .i64 a2 255) (t205.length : Int)) : Int).toNat)).bind fun bt227 => (if (Int.tmod (Go.bits .and .i64 a2 255) (t205.length : Int)) = 0 then (if t200 = true then (some (bt227.2.2 == 5)) else (some false)) else (if t200 = true then (if bt227.2.2 = 6 then ((utf_Tail.f kj31 (t205.take ((Int.tmod (Go.bits .and .i64 a2 255) (t205.length : Int)) : Int).toNat)).bind fun t234 => (some (t234 == (Int.tmod (Go.bits .and .i64 a2 255) (t205.length : Int))))) else (some false)) else (some false)))) else (none)) else (none))) = some r := by rw [if_neg (show ¬ (false = true) by decide)] at H; exact H
                            clear H
                            have H := H1
                            clear H1
                            by_cases c42 : (t205.length : Int) = 0
                            · rw [if_pos c42] at H
                              exact absurd H (by simp)
                            · rw [if_neg c42] at H
                              have c42b0 : ((t205.length : Int) == 0) = false := beq_eq_false_iff_ne.mpr c42
                              have c42b1 : ((t205.length : Int) != 0) = true := bne_iff_ne.mpr c42
                              have c42b2 : ¬ (t205 = []) := fun h_ => c42 (by rw [h_]; rfl)
                              obtain ⟨ji43, hji43⟩ : ∃ j_ : Int, (Int.tmod (Go.bits .and .i64 a2 255) (t205.length : Int)) = j_ := ⟨_, rfl⟩
                              replace H : (if 0 ≤ (ji43) then (if (ji43) ≤ (t205.length : Int) then ((utf_First.f kj31 (t205.take ((ji43) : Int).toNat)).bind fun bt227 => (if (ji43) = 0 then (if t200 = true then (some (bt227.2.2 == 5)) else (some false)) else (if t200 = true then (if bt227.2.2 = 6 then ((utf_Tail.f kj31 (t205.take ((ji43) : Int).toNat)).bind fun t234 => (some (t234 == (ji43)))) else (some false)) else (some false)))) else (none)) else (none)) = some r := by first | (rw [hji43] at H; exact H) | (simp only [hji43] at H ⊢; exact H)
                              by_cases c44 : 0 ≤ (ji43)
                              · rw [if_pos c44] at H
                                have c44b0 := eq_true c44
                                have c44b1 : decide (0 ≤ (ji43)) = true := decide_eq_true c44
                                clear c44
                                by_cases c45 : (ji43) ≤ (t205.length : Int)
                                · rw [if_pos c45] at H
                                  have c45b0 := eq_true c45
                                  have c45b1 : decide ((ji43) ≤ (t205.length : Int)) = true := decide_eq_true c45
                                  clear c45
                                  obtain ⟨y223, hy223⟩ : ∃ y_ : List Int, y_ = (t205.take ((ji43) : Int).toNat) := ⟨_, rfl⟩
                                  replace H : ((utf_First.f kj31 y223).bind fun bt227 => (if (ji43) = 0 then (if t200 = true then (some (bt227.2.2 == 5)) else (some false)) else (if t200 = true then (if bt227.2.2 = 6 then ((utf_Tail.f kj31 (t205.take ((ji43) : Int).toNat)).bind fun t234 => (some (t234 == (ji43)))) else (some false)) else (some false)))) = some r := by first | (rw [hy223]; with_reducible exact H) | (have H2_ := (Option.bind_some _ _).symm.trans H; rw [hy223]; with_reducible exact H2_) | (have H2_ := (Option.bind_some _ _).symm.trans H; with_reducible exact H2_) | with_reducible exact H | (rw [hy223]; exact H) | exact H
                                  have Ny223 := Aside0.mk hy223
                                  clear hy223
                                  replace H := Option.bind_eq_some_iff.mp H
                                  obtain ⟨⟨t227, t228, t229⟩, A460, H⟩ := H
                                  replace H : (if (ji43) = 0 then (if t200 = true then (some (t229 == 5)) else (some false)) else (if t200 = true then (if t229 = 6 then ((utf_Tail.f kj31 (t205.take ((ji43) : Int).toNat)).bind fun t234 => (some (t234 == (ji43)))) else (some false)) else (some false))) = some r := H
                                  have A46 := Aside0.mk A460
                                  clear A460
                                  by_cases c47 : (ji43) = 0
                                  · rw [if_pos c47] at H
                                    have c47b0 : ((ji43) == 0) = true := beq_iff_eq.mpr c47
                                    have c47b1 : ((ji43) != 0) = false := bne_eq_false_iff_eq.mpr c47
                                    clear c47
                                    by_cases c48 : t200 = true
                                    · subst c48
                                      have H1 : (some (t229 == 5)) = some r := by rw [if_pos rfl] at H; exact H
                                      clear H
                                      have H := H1
                                      clear H1
                                      obtain rfl := Option.some.inj H
                                      have q49 : ((ji43) : Int) ≤ ((t205.length : Int) : Int) := of_decide_eq_true (by first | (with_reducible assumption) | assumption)
                                      obtain ⟨i049, hi049, _, hsz49, _⟩ := info_parts info5
                                      have hroom49 : t205.length ≤ co36 := (Kd.R_reads' HO_9.out).2.1
                                      have hC49 : Kd.C (Kd.int .u8) _ Ao36 t205.length t205 := (Kd.R_reads' HO_9.out).2.2
                                      have hcut49 := cut_to (P := Try.prog) 23 5 .i64 Try.underlying23 hi049 Ao36 t205.length co36 (ji43) (of_decide_eq_true (by first | (with_reducible assumption) | assumption)) q49 hroom49
                                      have hr49 := Kd.C_take (m := ((ji43) : Int).toNat) hC49 (by omega)
                                      have hy49 : y223.length = ((ji43) : Int).toNat := (by rw [Ny223.out, List.length_take]; omega)
                                      rw [← Ny223.out] at hr49
                                      rw [← hy49] at hcut49
                                      have HR226 := Aside0.mk hr49
                                      have HC226 := Aside0.mk (show y223.length ≤ co36 from by omega)
                                      clear hr49 hC49 hroom49 hi049 hsz49
                                      have KY49 := Aside0.mk hy49
                                      clear hy49
                                      have KL49 := Aside0.mk (show ((ji43) : Int).toNat ≤ t205.length from by omega)
                                      replace q49 := eq_true q49
                                      go_wp2_with (first | ((with_reducible refine gate_callee (f := 14) rfl ?_); refine goesL_ (some 114) rfl rfl Try.func14 (by kernel_rfl) rfl #[.slice Ao36 y223.length co36] rfl (by (try simp only [List.map_toArray, List.map_cons, List.map_nil]); first | done | rfl | (simp only [List.length_drop, List.length_take]; rfl)) ?_; (with_reducible refine (utf_First.calls kj31 _ _ y223 t227 t228 t229 _ ?side1 ?side2 A46.out).mono ?_); (case side1 => repeat (first | exact (by repeat (first | (with_reducible exact HR226.out) | (with_reducible refine Kd.C_alloc ?_ _) | (with_reducible refine Kd.C_drewN ?_ _) | (with_reducible refine Kd.C_drew ?_) | exact HR226.out)) | (with_reducible refine Kd.C_alloc ?_ _) | (with_reducible refine Kd.C_drewN ?_ _) | (with_reducible refine Kd.C_drew ?_))); (case side2 => exact HC226.out); rintro e w' ⟨rfl, ⟨nd, rfl⟩⟩; refine ⟨_, rfl, ?_⟩))
                                      go_ret
                                      exact ⟨by first | rfl | (simp [errW_none, errW_some] <;> rfl) | (simp only [← hji5, ← hji43]; first | rfl | (simp [errW_none, errW_some] <;> rfl)) | (simp [*, errW_none, errW_some] <;> rfl), by repeat (first | (with_reducible first | exact HB.out | apply below_alloc | apply pw_below_drewN | apply below_drew1) | exact HB.out)⟩
                                    · replace c48 := Bool.eq_false_iff.mpr c48
                                      subst c48
                                      have H1 : (some false) = some r := by rw [if_neg (show ¬ (false = true) by decide)] at H; exact H
                                      clear H
                                      have H := H1
                                      clear H1
                                      obtain rfl := Option.some.inj H
                                      have q50 : ((ji43) : Int) ≤ ((t205.length : Int) : Int) := of_decide_eq_true (by first | (with_reducible assumption) | assumption)
                                      obtain ⟨i050, hi050, _, hsz50, _⟩ := info_parts info5
                                      have hroom50 : t205.length ≤ co36 := (Kd.R_reads' HO_9.out).2.1
                                      have hC50 : Kd.C (Kd.int .u8) _ Ao36 t205.length t205 := (Kd.R_reads' HO_9.out).2.2
                                      have hcut50 := cut_to (P := Try.prog) 23 5 .i64 Try.underlying23 hi050 Ao36 t205.length co36 (ji43) (of_decide_eq_true (by first | (with_reducible assumption) | assumption)) q50 hroom50
                                      have hr50 := Kd.C_take (m := ((ji43) : Int).toNat) hC50 (by omega)
                                      have hy50 : y223.length = ((ji43) : Int).toNat := (by rw [Ny223.out, List.length_take]; omega)
                                      rw [← Ny223.out] at hr50
                                      rw [← hy50] at hcut50
                                      have HR226 := Aside0.mk hr50
                                      have HC226 := Aside0.mk (show y223.length ≤ co36 from by omega)
                                      clear hr50 hC50 hroom50 hi050 hsz50
                                      have KY50 := Aside0.mk hy50
                                      clear hy50
                                      have KL50 := Aside0.mk (show ((ji43) : Int).toNat ≤ t205.length from by omega)
                                      replace q50 := eq_true q50
                                      go_wp2_with (first | ((with_reducible refine gate_callee (f := 14) rfl ?_); refine goesL_ (some 114) rfl rfl Try.func14 (by kernel_rfl) rfl #[.slice Ao36 y223.length co36] rfl (by (try simp only [List.map_toArray, List.map_cons, List.map_nil]); first | done | rfl | (simp only [List.length_drop, List.length_take]; rfl)) ?_; (with_reducible refine (utf_First.calls kj31 _ _ y223 t227 t228 t229 _ ?side1 ?side2 A46.out).mono ?_); (case side1 => repeat (first | exact (by repeat (first | (with_reducible exact HR226.out) | (with_reducible refine Kd.C_alloc ?_ _) | (with_reducible refine Kd.C_drewN ?_ _) | (with_reducible refine Kd.C_drew ?_) | exact HR226.out)) | (with_reducible refine Kd.C_alloc ?_ _) | (with_reducible refine Kd.C_drewN ?_ _) | (with_reducible refine Kd.C_drew ?_))); (case side2 => exact HC226.out); rintro e w' ⟨rfl, ⟨nd, rfl⟩⟩; refine ⟨_, rfl, ?_⟩))
                                      go_ret
                                      exact ⟨by first | rfl | (simp [errW_none, errW_some] <;> rfl) | (simp only [← hji5, ← hji43]; first | rfl | (simp [errW_none, errW_some] <;> rfl)) | (simp [*, errW_none, errW_some] <;> rfl), by repeat (first | (with_reducible first | exact HB.out | apply below_alloc | apply pw_below_drewN | apply below_drew1) | exact HB.out)⟩
                                  · rw [if_neg c47] at H
                                    have c47b0 : ((ji43) == 0) = false := beq_eq_false_iff_ne.mpr c47
                                    have c47b1 : ((ji43) != 0) = true := bne_iff_ne.mpr c47
                                    by_cases c51 : t200 = true
                                    · subst c51
                                      have H1 : (if t229 = 6 then ((utf_Tail.f kj31 (t205.take ((ji43) : Int).toNat)).bind fun t234 => (some (t234 == (ji43)))) else (some false)) = some r := by rw [if_pos rfl] at H; exact H
                                      clear H
                                      have H := H1
                                      clear H1
                                      by_cases c52 : t229 = 6
                                      · rw [if_pos c52] at H
                                        have c52b0 : (t229 == 6) = true := beq_iff_eq.mpr c52
                                        have c52b1 : (t229 != 6) = false := bne_eq_false_iff_eq.mpr c52
                                        clear c52
                                        have c53b0 := eq_true (of_decide_eq_true (by first | (with_reducible assumption) | assumption) : 0 ≤ (ji43))
                                        have c54b0 := eq_true (of_decide_eq_true (by first | (with_reducible assumption) | assumption) : (ji43) ≤ (t205.length : Int))
                                        obtain ⟨y230, hy230⟩ : ∃ y_ : List Int, y_ = (t205.take ((ji43) : Int).toNat) := ⟨_, rfl⟩
                                        replace H : ((utf_Tail.f kj31 y230).bind fun t234 => (some (t234 == (ji43)))) = some r := by first | (rw [hy230]; with_reducible exact H) | (have H2_ := (Option.bind_some _ _).symm.trans H; rw [hy230]; with_reducible exact H2_) | (have H2_ := (Option.bind_some _ _).symm.trans H; with_reducible exact H2_) | with_reducible exact H | (rw [hy230]; exact H) | exact H
                                        have Ny230 := Aside0.mk hy230
                                        clear hy230
                                        replace H := Option.bind_eq_some_iff.mp H
                                        obtain ⟨t234, A550, H⟩ := H
                                        replace H : (some (t234 == (ji43))) = some r := H
                                        have A55 := Aside0.mk A550
                                        clear A550
                                        obtain rfl := Option.some.inj H
                                        have q56 : ((ji43) : Int) ≤ ((t205.length : Int) : Int) := of_decide_eq_true (by first | (with_reducible assumption) | assumption)
                                        obtain ⟨i056, hi056, _, hsz56, _⟩ := info_parts info5
                                        have hroom56 : t205.length ≤ co36 := (Kd.R_reads' HO_9.out).2.1
                                        have hC56 : Kd.C (Kd.int .u8) _ Ao36 t205.length t205 := (Kd.R_reads' HO_9.out).2.2
                                        have hcut56 := cut_to (P := Try.prog) 23 5 .i64 Try.underlying23 hi056 Ao36 t205.length co36 (ji43) (of_decide_eq_true (by first | (with_reducible assumption) | assumption)) q56 hroom56
                                        have hr56 := Kd.C_take (m := ((ji43) : Int).toNat) hC56 (by omega)
                                        have hy56 : y223.length = ((ji43) : Int).toNat := (by rw [Ny223.out, List.length_take]; omega)
                                        rw [← Ny223.out] at hr56
                                        rw [← hy56] at hcut56
                                        have HR226 := Aside0.mk hr56
                                        have HC226 := Aside0.mk (show y223.length ≤ co36 from by omega)
                                        clear hr56 hC56 hroom56 hi056 hsz56
                                        have KY56 := Aside0.mk hy56
                                        clear hy56
                                        have KL56 := Aside0.mk (show ((ji43) : Int).toNat ≤ t205.length from by omega)
                                        replace q56 := eq_true q56
                                        go_wp2_with (first | ((with_reducible refine gate_callee (f := 14) rfl ?_); refine goesL_ (some 114) rfl rfl Try.func14 (by kernel_rfl) rfl #[.slice Ao36 y223.length co36] rfl (by (try simp only [List.map_toArray, List.map_cons, List.map_nil]); first | done | rfl | (simp only [List.length_drop, List.length_take]; rfl)) ?_; (with_reducible refine (utf_First.calls kj31 _ _ y223 t227 t228 t229 _ ?side1 ?side2 A46.out).mono ?_); (case side1 => repeat (first | exact (by repeat (first | (with_reducible exact HR226.out) | (with_reducible refine Kd.C_alloc ?_ _) | (with_reducible refine Kd.C_drewN ?_ _) | (with_reducible refine Kd.C_drew ?_) | exact HR226.out)) | (with_reducible refine Kd.C_alloc ?_ _) | (with_reducible refine Kd.C_drewN ?_ _) | (with_reducible refine Kd.C_drew ?_))); (case side2 => exact HC226.out); rintro e w' ⟨rfl, ⟨nd, rfl⟩⟩; refine ⟨_, rfl, ?_⟩; have q57 : ((ji43) : Int) ≤ ((t205.length : Int) : Int) := of_decide_eq_true (by first | (with_reducible assumption) | assumption); obtain ⟨i057, hi057, _, hsz57, _⟩ := info_parts info5; have hroom57 : t205.length ≤ co36 := (Kd.R_reads' HO_9.out).2.1; have hC57 : Kd.C (Kd.int .u8) _ Ao36 t205.length t205 := (Kd.R_reads' HO_9.out).2.2; clear hcut56; have hcut57 := cut_to (P := Try.prog) 23 5 .i64 Try.underlying23 hi057 Ao36 t205.length co36 (ji43) (of_decide_eq_true (by first | (with_reducible assumption) | assumption)) q57 hroom57; have hr57 := Kd.C_take (m := ((ji43) : Int).toNat) hC57 (by omega); have hy57 : y230.length = ((ji43) : Int).toNat := (by rw [Ny230.out, List.length_take]; omega); rw [← Ny230.out] at hr57; rw [← hy57] at hcut57; have HR233 := Aside0.mk hr57; have HC233 := Aside0.mk (show y230.length ≤ co36 from by omega); clear hr57 hC57 hroom57 hi057 hsz57; have KY57 := Aside0.mk hy57; clear hy57; have KL57 := Aside0.mk (show ((ji43) : Int).toNat ≤ t205.length from by omega); replace q57 := eq_true q57) | (go_at_call 21; (with_reducible refine (utf_Tail.calls kj31 _ _ y230 t234 _ ?side1 ?side2 A55.out).mono ?_); (case side1 => repeat (first | exact (by repeat (first | (with_reducible exact HR233.out) | (with_reducible refine Kd.C_alloc ?_ _) | (with_reducible refine Kd.C_drewN ?_ _) | (with_reducible refine Kd.C_drew ?_) | exact HR233.out)) | (with_reducible refine Kd.C_alloc ?_ _) | (with_reducible refine Kd.C_drewN ?_ _) | (with_reducible refine Kd.C_drew ?_))); (case side2 => exact HC233.out); rintro e w58 ⟨rfl, hb⟩; have n0_ := Aside0.mk (Kd.R_below (by (with_reducible repeat (first | apply Kd.R_alloc | apply Kd.R_drewN | apply Kd.R_drew)); exact HO_9.out) hb); have n1_ := Aside0.mk (Kd.C_below (by repeat (first | (with_reducible exact HR226.out) | (with_reducible refine Kd.C_alloc ?_ _) | (with_reducible refine Kd.C_drewN ?_ _) | (with_reducible refine Kd.C_drew ?_) | exact HR226.out)) hb); have n2_ := Aside0.mk (Kd.C_below (by repeat (first | (with_reducible exact HR233.out) | (with_reducible refine Kd.C_alloc ?_ _) | (with_reducible refine Kd.C_drewN ?_ _) | (with_reducible refine Kd.C_drew ?_) | exact HR233.out)) hb); have n3_ := Aside0.mk (below_step (by repeat (first | (with_reducible first | exact HB.out | apply below_alloc | apply pw_below_drewN | apply below_drew1) | exact HB.out)) hb); clear HO_9; clear HR226; clear HR233; clear HB; have HO_9 := n0_; have HR226 := n1_; have HR233 := n2_; have HB := n3_; clear n0_ n1_ n2_ n3_; (try clear hb); (try clear hb2); (try clear hk); (try clear hi)))
                                        go_ret
                                        exact ⟨by first | rfl | (simp [errW_none, errW_some] <;> rfl) | (simp only [← hji5, ← hji43]; first | rfl | (simp [errW_none, errW_some] <;> rfl)) | (simp [*, errW_none, errW_some] <;> rfl), by repeat (first | (with_reducible first | exact HB.out | apply below_alloc | apply pw_below_drewN | apply below_drew1) | exact HB.out)⟩
                                      · rw [if_neg c52] at H
                                        have c52b0 : (t229 == 6) = false := beq_eq_false_iff_ne.mpr c52
                                        have c52b1 : (t229 != 6) = true := bne_iff_ne.mpr c52
                                        obtain rfl := Option.some.inj H
                                        have q59 : ((ji43) : Int) ≤ ((t205.length : Int) : Int) := of_decide_eq_true (by first | (with_reducible assumption) | assumption)
                                        obtain ⟨i059, hi059, _, hsz59, _⟩ := info_parts info5
                                        have hroom59 : t205.length ≤ co36 := (Kd.R_reads' HO_9.out).2.1
                                        have hC59 : Kd.C (Kd.int .u8) _ Ao36 t205.length t205 := (Kd.R_reads' HO_9.out).2.2
                                        have hcut59 := cut_to (P := Try.prog) 23 5 .i64 Try.underlying23 hi059 Ao36 t205.length co36 (ji43) (of_decide_eq_true (by first | (with_reducible assumption) | assumption)) q59 hroom59
                                        have hr59 := Kd.C_take (m := ((ji43) : Int).toNat) hC59 (by omega)
                                        have hy59 : y223.length = ((ji43) : Int).toNat := (by rw [Ny223.out, List.length_take]; omega)
                                        rw [← Ny223.out] at hr59
                                        rw [← hy59] at hcut59
                                        have HR226 := Aside0.mk hr59
                                        have HC226 := Aside0.mk (show y223.length ≤ co36 from by omega)
                                        clear hr59 hC59 hroom59 hi059 hsz59
                                        have KY59 := Aside0.mk hy59
                                        clear hy59
                                        have KL59 := Aside0.mk (show ((ji43) : Int).toNat ≤ t205.length from by omega)
                                        replace q59 := eq_true q59
                                        go_wp2_with (first | ((with_reducible refine gate_callee (f := 14) rfl ?_); refine goesL_ (some 114) rfl rfl Try.func14 (by kernel_rfl) rfl #[.slice Ao36 y223.length co36] rfl (by (try simp only [List.map_toArray, List.map_cons, List.map_nil]); first | done | rfl | (simp only [List.length_drop, List.length_take]; rfl)) ?_; (with_reducible refine (utf_First.calls kj31 _ _ y223 t227 t228 t229 _ ?side1 ?side2 A46.out).mono ?_); (case side1 => repeat (first | exact (by repeat (first | (with_reducible exact HR226.out) | (with_reducible refine Kd.C_alloc ?_ _) | (with_reducible refine Kd.C_drewN ?_ _) | (with_reducible refine Kd.C_drew ?_) | exact HR226.out)) | (with_reducible refine Kd.C_alloc ?_ _) | (with_reducible refine Kd.C_drewN ?_ _) | (with_reducible refine Kd.C_drew ?_))); (case side2 => exact HC226.out); rintro e w' ⟨rfl, ⟨nd, rfl⟩⟩; refine ⟨_, rfl, ?_⟩))
                                        go_ret
                                        exact ⟨by first | rfl | (simp [errW_none, errW_some] <;> rfl) | (simp only [← hji5, ← hji43]; first | rfl | (simp [errW_none, errW_some] <;> rfl)) | (simp [*, errW_none, errW_some] <;> rfl), by repeat (first | (with_reducible first | exact HB.out | apply below_alloc | apply pw_below_drewN | apply below_drew1) | exact HB.out)⟩
                                    · replace c51 := Bool.eq_false_iff.mpr c51
                                      subst c51
                                      have H1 : (some false) = some r := by rw [if_neg (show ¬ (false = true) by decide)] at H; exact H
                                      clear H
                                      have H := H1
                                      clear H1
                                      obtain rfl := Option.some.inj H
                                      have q60 : ((ji43) : Int) ≤ ((t205.length : Int) : Int) := of_decide_eq_true (by first | (with_reducible assumption) | assumption)
                                      obtain ⟨i060, hi060, _, hsz60, _⟩ := info_parts info5
                                      have hroom60 : t205.length ≤ co36 := (Kd.R_reads' HO_9.out).2.1
                                      have hC60 : Kd.C (Kd.int .u8) _ Ao36 t205.length t205 := (Kd.R_reads' HO_9.out).2.2
                                      have hcut60 := cut_to (P := Try.prog) 23 5 .i64 Try.underlying23 hi060 Ao36 t205.length co36 (ji43) (of_decide_eq_true (by first | (with_reducible assumption) | assumption)) q60 hroom60
                                      have hr60 := Kd.C_take (m := ((ji43) : Int).toNat) hC60 (by omega)
                                      have hy60 : y223.length = ((ji43) : Int).toNat := (by rw [Ny223.out, List.length_take]; omega)
                                      rw [← Ny223.out] at hr60
                                      rw [← hy60] at hcut60
                                      have HR226 := Aside0.mk hr60
                                      have HC226 := Aside0.mk (show y223.length ≤ co36 from by omega)
                                      clear hr60 hC60 hroom60 hi060 hsz60
                                      have KY60 := Aside0.mk hy60
                                      clear hy60
                                      have KL60 := Aside0.mk (show ((ji43) : Int).toNat ≤ t205.length from by omega)
                                      replace q60 := eq_true q60
                                      go_wp2_with (first | ((with_reducible refine gate_callee (f := 14) rfl ?_); refine goesL_ (some 114) rfl rfl Try.func14 (by kernel_rfl) rfl #[.slice Ao36 y223.length co36] rfl (by (try simp only [List.map_toArray, List.map_cons, List.map_nil]); first | done | rfl | (simp only [List.length_drop, List.length_take]; rfl)) ?_; (with_reducible refine (utf_First.calls kj31 _ _ y223 t227 t228 t229 _ ?side1 ?side2 A46.out).mono ?_); (case side1 => repeat (first | exact (by repeat (first | (with_reducible exact HR226.out) | (with_reducible refine Kd.C_alloc ?_ _) | (with_reducible refine Kd.C_drewN ?_ _) | (with_reducible refine Kd.C_drew ?_) | exact HR226.out)) | (with_reducible refine Kd.C_alloc ?_ _) | (with_reducible refine Kd.C_drewN ?_ _) | (with_reducible refine Kd.C_drew ?_))); (case side2 => exact HC226.out); rintro e w' ⟨rfl, ⟨nd, rfl⟩⟩; refine ⟨_, rfl, ?_⟩))
                                      go_ret
                                      exact ⟨by first | rfl | (simp [errW_none, errW_some] <;> rfl) | (simp only [← hji5, ← hji43]; first | rfl | (simp [errW_none, errW_some] <;> rfl)) | (simp [*, errW_none, errW_some] <;> rfl), by repeat (first | (with_reducible first | exact HB.out | apply below_alloc | apply pw_below_drewN | apply below_drew1) | exact HB.out)⟩
                                · rw [if_neg c45] at H
                                  exact absurd H (by simp)
                              · rw [if_neg c44] at H
                                exact absurd H (by simp)
                    · rw [if_neg c30] at H
                      exact absurd H (by simp)
                  · rw [if_neg c29] at H
                    exact absurd H (by simp)
          · replace c15 := Bool.eq_false_iff.mpr c15
            subst c15
            have H1 : (if t200 = true then (if t206 = 1 then (if (t205.length : Int) = 0 then ((utf_Size.f kj7 a0).bind fun t209 => (some (t209 == 0))) else (some false)) else (some false)) else (some false)) = some r := by rw [if_neg (show ¬ (false = true) by decide)] at H; exact H
            clear H
            have H := H1
            clear H1
            by_cases c61 : t200 = true
            · subst c61
              have H1 : (if t206 = 1 then (if (t205.length : Int) = 0 then ((utf_Size.f kj7 a0).bind fun t209 => (some (t209 == 0))) else (some false)) else (some false)) = some r := by rw [if_pos rfl] at H; exact H
              clear H
              have H := H1
              clear H1
              by_cases c62 : t206 = 1
              · rw [if_pos c62] at H
                have c62b0 : (t206 == 1) = true := beq_iff_eq.mpr c62
                have c62b1 : (t206 != 1) = false := bne_eq_false_iff_eq.mpr c62
                clear c62
                by_cases c63 : (t205.length : Int) = 0
                · rw [if_pos c63] at H
                  have c63b0 : ((t205.length : Int) == 0) = true := beq_iff_eq.mpr c63
                  have c63b1 : ((t205.length : Int) != 0) = false := bne_eq_false_iff_eq.mpr c63
                  clear c63
                  replace H := Option.bind_eq_some_iff.mp H
                  obtain ⟨t209, A640, H⟩ := H
                  replace H : (some (t209 == 0)) = some r := H
                  have A64 := Aside0.mk A640
                  clear A640
                  obtain rfl := Option.some.inj H
                  go_wp2_with (first | ((with_reducible refine gate_dst (N := 41) rfl ?_); (try (refine gate_guard (by rfl) ?_; dsimp only)); refine Kd.R_lit (Kd.int .i32) _ 21 ?hg (N := 41) ?hd (xs := ([a0] : List Int)) (inner := [.int .i32 a0]) (ok := fun _ => True) (okp := fun _ => True) ?hr ?hp (fun _ hk => hk) trivial (Below.refl _ _) (Nat.le_refl _) (by simp) ?_; (case hd => rfl); (case hg => rfl); (case hr => first | (go_simp; done) | (go_simp; rfl)); (case hp => exact (Reps.one (show Kd.M (Kd.int .i32) _ _ _ a0 [.int .i32 a0] from rfl) (Reps.none _ _))); intro v203 w65 ho66 hb hg_ hnew_; clear hg_ hnew_; (first | rw [← Ny202.out] at ho66 | (simp only [Int.reduceToNat] at ho66; rw [← Ny202.out] at ho66)); have n0_ := Aside0.mk (Kd.R_lower ho66 (below_size (by repeat (first | (with_reducible first | exact HB.out | apply below_alloc | apply pw_below_drewN | apply below_drew1) | exact HB.out)))); have n1_ := Aside0.mk (below_step (by repeat (first | (with_reducible first | exact HB.out | apply below_alloc | apply pw_below_drewN | apply below_drew1) | exact HB.out)) hb); clear HB; have HO204 := n0_; have HB := n1_; clear n0_ n1_; clear hb ho66; obtain ⟨Ao67, co67, eo67⟩ := Kd.R_slice HO204.out; subst eo67) | ((with_reducible refine gate_callee (f := 12) rfl ?_); refine goesL_ (some 42) rfl rfl Try.func12 (by kernel_rfl) rfl #[.slice Ao67 y202.length co67] rfl (by (try simp only [List.map_toArray, List.map_cons, List.map_nil]); first | done | rfl | (simp only [List.length_drop, List.length_take]; rfl)) ?_; (with_reducible refine (utf_Encode.calls kj7 _ _ y202 t205 t206 _ ?side1 ?side2 A14.out).mono ?_); (case side1 => repeat (first | exact (Kd.R_reads' HO204.out).2.2 | (with_reducible refine Kd.C_alloc ?_ _) | (with_reducible refine Kd.C_drewN ?_ _) | (with_reducible refine Kd.C_drew ?_))); (case side2 => exact (Kd.R_reads' HO204.out).2.1); rintro e w68 ⟨v207, rfl, ho0, hb⟩; refine ⟨_, rfl, ?_⟩; have n0_ := Aside0.mk (Kd.R_below (by (with_reducible repeat (first | apply Kd.R_alloc | apply Kd.R_drewN | apply Kd.R_drew)); exact HO204.out) hb); have n1_ := Aside0.mk (Kd.R_lower ho0 (below_size (by repeat (first | (with_reducible first | exact HB.out | apply below_alloc | apply pw_below_drewN | apply below_drew1) | exact HB.out)))); have n2_ := Aside0.mk (below_step (by repeat (first | (with_reducible first | exact HB.out | apply below_alloc | apply pw_below_drewN | apply below_drew1) | exact HB.out)) hb); clear HO204; clear HB; have HO204 := n0_; have HO208 := n1_; have HB := n2_; clear n0_ n1_ n2_; (try clear hb); (try clear hb2); (try clear hk); (try clear hi); (try clear ho0); obtain ⟨Ao69, co69, eo69⟩ := Kd.R_slice HO208.out; subst eo69) | (go_at_call 19; (with_reducible refine (utf_Size.calls kj7 a0 t209 _ A64.out).mono ?_); rintro e w' ⟨rfl, ⟨nd, rfl⟩⟩))
                  go_ret
                  exact ⟨by first | rfl | (simp [errW_none, errW_some] <;> rfl) | (simp only [← hji5]; first | rfl | (simp [errW_none, errW_some] <;> rfl)) | (simp [*, errW_none, errW_some] <;> rfl), by repeat (first | (with_reducible first | exact HB.out | apply below_alloc | apply pw_below_drewN | apply below_drew1) | exact HB.out)⟩
                · rw [if_neg c63] at H
                  have c63b0 : ((t205.length : Int) == 0) = false := beq_eq_false_iff_ne.mpr c63
                  have c63b1 : ((t205.length : Int) != 0) = true := bne_iff_ne.mpr c63
                  have c63b2 : ¬ (t205 = []) := fun h_ => c63 (by rw [h_]; rfl)
                  obtain rfl := Option.some.inj H
                  go_wp2_with (first | ((with_reducible refine gate_dst (N := 41) rfl ?_); (try (refine gate_guard (by rfl) ?_; dsimp only)); refine Kd.R_lit (Kd.int .i32) _ 21 ?hg (N := 41) ?hd (xs := ([a0] : List Int)) (inner := [.int .i32 a0]) (ok := fun _ => True) (okp := fun _ => True) ?hr ?hp (fun _ hk => hk) trivial (Below.refl _ _) (Nat.le_refl _) (by simp) ?_; (case hd => rfl); (case hg => rfl); (case hr => first | (go_simp; done) | (go_simp; rfl)); (case hp => exact (Reps.one (show Kd.M (Kd.int .i32) _ _ _ a0 [.int .i32 a0] from rfl) (Reps.none _ _))); intro v203 w70 ho71 hb hg_ hnew_; clear hg_ hnew_; (first | rw [← Ny202.out] at ho71 | (simp only [Int.reduceToNat] at ho71; rw [← Ny202.out] at ho71)); have n0_ := Aside0.mk (Kd.R_lower ho71 (below_size (by repeat (first | (with_reducible first | exact HB.out | apply below_alloc | apply pw_below_drewN | apply below_drew1) | exact HB.out)))); have n1_ := Aside0.mk (below_step (by repeat (first | (with_reducible first | exact HB.out | apply below_alloc | apply pw_below_drewN | apply below_drew1) | exact HB.out)) hb); clear HB; have HO204 := n0_; have HB := n1_; clear n0_ n1_; clear hb ho71; obtain ⟨Ao72, co72, eo72⟩ := Kd.R_slice HO204.out; subst eo72) | ((with_reducible refine gate_callee (f := 12) rfl ?_); refine goesL_ (some 42) rfl rfl Try.func12 (by kernel_rfl) rfl #[.slice Ao72 y202.length co72] rfl (by (try simp only [List.map_toArray, List.map_cons, List.map_nil]); first | done | rfl | (simp only [List.length_drop, List.length_take]; rfl)) ?_; (with_reducible refine (utf_Encode.calls kj7 _ _ y202 t205 t206 _ ?side1 ?side2 A14.out).mono ?_); (case side1 => repeat (first | exact (Kd.R_reads' HO204.out).2.2 | (with_reducible refine Kd.C_alloc ?_ _) | (with_reducible refine Kd.C_drewN ?_ _) | (with_reducible refine Kd.C_drew ?_))); (case side2 => exact (Kd.R_reads' HO204.out).2.1); rintro e w73 ⟨v207, rfl, ho0, hb⟩; refine ⟨_, rfl, ?_⟩; have n0_ := Aside0.mk (Kd.R_below (by (with_reducible repeat (first | apply Kd.R_alloc | apply Kd.R_drewN | apply Kd.R_drew)); exact HO204.out) hb); have n1_ := Aside0.mk (Kd.R_lower ho0 (below_size (by repeat (first | (with_reducible first | exact HB.out | apply below_alloc | apply pw_below_drewN | apply below_drew1) | exact HB.out)))); have n2_ := Aside0.mk (below_step (by repeat (first | (with_reducible first | exact HB.out | apply below_alloc | apply pw_below_drewN | apply below_drew1) | exact HB.out)) hb); clear HO204; clear HB; have HO204 := n0_; have HO208 := n1_; have HB := n2_; clear n0_ n1_ n2_; (try clear hb); (try clear hb2); (try clear hk); (try clear hi); (try clear ho0); obtain ⟨Ao74, co74, eo74⟩ := Kd.R_slice HO208.out; subst eo74))
                  go_ret
                  exact ⟨by first | rfl | (simp [errW_none, errW_some] <;> rfl) | (simp only [← hji5]; first | rfl | (simp [errW_none, errW_some] <;> rfl)) | (simp [*, errW_none, errW_some] <;> rfl), by repeat (first | (with_reducible first | exact HB.out | apply below_alloc | apply pw_below_drewN | apply below_drew1) | exact HB.out)⟩
              · rw [if_neg c62] at H
                have c62b0 : (t206 == 1) = false := beq_eq_false_iff_ne.mpr c62
                have c62b1 : (t206 != 1) = true := bne_iff_ne.mpr c62
                obtain rfl := Option.some.inj H
                go_wp2_with (first | ((with_reducible refine gate_dst (N := 41) rfl ?_); (try (refine gate_guard (by rfl) ?_; dsimp only)); refine Kd.R_lit (Kd.int .i32) _ 21 ?hg (N := 41) ?hd (xs := ([a0] : List Int)) (inner := [.int .i32 a0]) (ok := fun _ => True) (okp := fun _ => True) ?hr ?hp (fun _ hk => hk) trivial (Below.refl _ _) (Nat.le_refl _) (by simp) ?_; (case hd => rfl); (case hg => rfl); (case hr => first | (go_simp; done) | (go_simp; rfl)); (case hp => exact (Reps.one (show Kd.M (Kd.int .i32) _ _ _ a0 [.int .i32 a0] from rfl) (Reps.none _ _))); intro v203 w75 ho76 hb hg_ hnew_; clear hg_ hnew_; (first | rw [← Ny202.out] at ho76 | (simp only [Int.reduceToNat] at ho76; rw [← Ny202.out] at ho76)); have n0_ := Aside0.mk (Kd.R_lower ho76 (below_size (by repeat (first | (with_reducible first | exact HB.out | apply below_alloc | apply pw_below_drewN | apply below_drew1) | exact HB.out)))); have n1_ := Aside0.mk (below_step (by repeat (first | (with_reducible first | exact HB.out | apply below_alloc | apply pw_below_drewN | apply below_drew1) | exact HB.out)) hb); clear HB; have HO204 := n0_; have HB := n1_; clear n0_ n1_; clear hb ho76; obtain ⟨Ao77, co77, eo77⟩ := Kd.R_slice HO204.out; subst eo77) | ((with_reducible refine gate_callee (f := 12) rfl ?_); refine goesL_ (some 42) rfl rfl Try.func12 (by kernel_rfl) rfl #[.slice Ao77 y202.length co77] rfl (by (try simp only [List.map_toArray, List.map_cons, List.map_nil]); first | done | rfl | (simp only [List.length_drop, List.length_take]; rfl)) ?_; (with_reducible refine (utf_Encode.calls kj7 _ _ y202 t205 t206 _ ?side1 ?side2 A14.out).mono ?_); (case side1 => repeat (first | exact (Kd.R_reads' HO204.out).2.2 | (with_reducible refine Kd.C_alloc ?_ _) | (with_reducible refine Kd.C_drewN ?_ _) | (with_reducible refine Kd.C_drew ?_))); (case side2 => exact (Kd.R_reads' HO204.out).2.1); rintro e w78 ⟨v207, rfl, ho0, hb⟩; refine ⟨_, rfl, ?_⟩; have n0_ := Aside0.mk (Kd.R_below (by (with_reducible repeat (first | apply Kd.R_alloc | apply Kd.R_drewN | apply Kd.R_drew)); exact HO204.out) hb); have n1_ := Aside0.mk (Kd.R_lower ho0 (below_size (by repeat (first | (with_reducible first | exact HB.out | apply below_alloc | apply pw_below_drewN | apply below_drew1) | exact HB.out)))); have n2_ := Aside0.mk (below_step (by repeat (first | (with_reducible first | exact HB.out | apply below_alloc | apply pw_below_drewN | apply below_drew1) | exact HB.out)) hb); clear HO204; clear HB; have HO204 := n0_; have HO208 := n1_; have HB := n2_; clear n0_ n1_ n2_; (try clear hb); (try clear hb2); (try clear hk); (try clear hi); (try clear ho0)))
                go_ret
                exact ⟨by first | rfl | (simp [errW_none, errW_some] <;> rfl) | (simp only [← hji5]; first | rfl | (simp [errW_none, errW_some] <;> rfl)) | (simp [*, errW_none, errW_some] <;> rfl), by repeat (first | (with_reducible first | exact HB.out | apply below_alloc | apply pw_below_drewN | apply below_drew1) | exact HB.out)⟩
            · replace c61 := Bool.eq_false_iff.mpr c61
              subst c61
              have H1 : (some false) = some r := by rw [if_neg (show ¬ (false = true) by decide)] at H; exact H
              clear H
              have H := H1
              clear H1
              obtain rfl := Option.some.inj H
              go_wp2_with (first | ((with_reducible refine gate_dst (N := 41) rfl ?_); (try (refine gate_guard (by rfl) ?_; dsimp only)); refine Kd.R_lit (Kd.int .i32) _ 21 ?hg (N := 41) ?hd (xs := ([a0] : List Int)) (inner := [.int .i32 a0]) (ok := fun _ => True) (okp := fun _ => True) ?hr ?hp (fun _ hk => hk) trivial (Below.refl _ _) (Nat.le_refl _) (by simp) ?_; (case hd => rfl); (case hg => rfl); (case hr => first | (go_simp; done) | (go_simp; rfl)); (case hp => exact (Reps.one (show Kd.M (Kd.int .i32) _ _ _ a0 [.int .i32 a0] from rfl) (Reps.none _ _))); intro v203 w79 ho80 hb hg_ hnew_; clear hg_ hnew_; (first | rw [← Ny202.out] at ho80 | (simp only [Int.reduceToNat] at ho80; rw [← Ny202.out] at ho80)); have n0_ := Aside0.mk (Kd.R_lower ho80 (below_size (by repeat (first | (with_reducible first | exact HB.out | apply below_alloc | apply pw_below_drewN | apply below_drew1) | exact HB.out)))); have n1_ := Aside0.mk (below_step (by repeat (first | (with_reducible first | exact HB.out | apply below_alloc | apply pw_below_drewN | apply below_drew1) | exact HB.out)) hb); clear HB; have HO204 := n0_; have HB := n1_; clear n0_ n1_; clear hb ho80; obtain ⟨Ao81, co81, eo81⟩ := Kd.R_slice HO204.out; subst eo81) | ((with_reducible refine gate_callee (f := 12) rfl ?_); refine goesL_ (some 42) rfl rfl Try.func12 (by kernel_rfl) rfl #[.slice Ao81 y202.length co81] rfl (by (try simp only [List.map_toArray, List.map_cons, List.map_nil]); first | done | rfl | (simp only [List.length_drop, List.length_take]; rfl)) ?_; (with_reducible refine (utf_Encode.calls kj7 _ _ y202 t205 t206 _ ?side1 ?side2 A14.out).mono ?_); (case side1 => repeat (first | exact (Kd.R_reads' HO204.out).2.2 | (with_reducible refine Kd.C_alloc ?_ _) | (with_reducible refine Kd.C_drewN ?_ _) | (with_reducible refine Kd.C_drew ?_))); (case side2 => exact (Kd.R_reads' HO204.out).2.1); rintro e w82 ⟨v207, rfl, ho0, hb⟩; refine ⟨_, rfl, ?_⟩; have n0_ := Aside0.mk (Kd.R_below (by (with_reducible repeat (first | apply Kd.R_alloc | apply Kd.R_drewN | apply Kd.R_drew)); exact HO204.out) hb); have n1_ := Aside0.mk (Kd.R_lower ho0 (below_size (by repeat (first | (with_reducible first | exact HB.out | apply below_alloc | apply pw_below_drewN | apply below_drew1) | exact HB.out)))); have n2_ := Aside0.mk (below_step (by repeat (first | (with_reducible first | exact HB.out | apply below_alloc | apply pw_below_drewN | apply below_drew1) | exact HB.out)) hb); clear HO204; clear HB; have HO204 := n0_; have HO208 := n1_; have HB := n2_; clear n0_ n1_ n2_; (try clear hb); (try clear hb2); (try clear hk); (try clear hi); (try clear ho0)))
              go_ret
              exact ⟨by first | rfl | (simp [errW_none, errW_some] <;> rfl) | (simp only [← hji5]; first | rfl | (simp [errW_none, errW_some] <;> rfl)) | (simp [*, errW_none, errW_some] <;> rfl), by repeat (first | (with_reducible first | exact HB.out | apply below_alloc | apply pw_below_drewN | apply below_drew1) | exact HB.out)⟩
    · rw [if_neg c7] at H
      exact absurd H (by simp)
  · rw [if_neg c6] at H
    exact absurd H (by simp)

/-- THE ONE PURE STATEMENT of foolscaplaw01_UtfOne: yours. -/
def foolscaplaw01_UtfOne.Pure : Prop := ∀ (a0 : Int) (l1 : List Int) (a2 : Int), (Lit.int .i32 a0).wf = true → l1.length ≤ maxLen → l1.length * 1 ≤ 140737488351232 → (∀ x ∈ l1, (Lit.int .u8 x).wf = true) → (Lit.int .i64 a2).wf = true → ∃ k, foolscaplaw01_UtfOne.f k a0 l1 a2 = some true
theorem foolscaplaw01_UtfOne.walk (P : foolscaplaw01_UtfOne.Pure) (a0 : Int) (a1 : Option Addr) (len1 cap1 : Nat) (z1 : List Int) (a2 : Int) (w : World) (w0 : (Lit.int .i32 a0).wf = true) (w1 : (a1 = none ∧ len1 = 0 ∧ cap1 = 0 ∧ z1 = []) ∨ ∃ x, a1 = some x ∧ len1 ≤ cap1 ∧ cap1 ≤ maxLen ∧ z1.length = cap1 ∧ (∀ i, i < z1.length → w.cell? (x.add i) = some (.int .u8 (z1.getD i 0))) ∧ ∀ n ∈ z1, (Lit.int .u8 n).wf = true) (y1 : len1 * 1 ≤ 140737488351232) (w2 : (Lit.int .i64 a2).wf = true) :
    Calls Try.prog 6 #[.int .i32 a0, .slice a1 len1 cap1, .int .i64 a2] w fun e w' => e = .returned (.bool true) ∧ Below w.heap.size w w' := by
  obtain ⟨l1, rfl, hr1, hm1, hw1, hc1⟩ := ReadsInt.ofRowC w1
  obtain ⟨k, h⟩ := P a0 l1 a2 w0 hm1 y1 hw1 w2
  refine (foolscaplaw01_UtfOne.calls k a0 _ _ l1 a2 true w (Kd.C_of_reads (d := (0 : Int)) (h1 := fun _ => rfl) hr1) hc1 h).mono ?_
  rintro e w' ⟨rfl, hd⟩
  exact ⟨rfl, hd⟩

end Go.Proofs.Ytdbpeaadnhiekaa.PU
