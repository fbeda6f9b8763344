/- utf.First comes to the printed function's answer, where it tells one. (The lines of this text began as lines that a program of the kit had written for this statement; the walk of one function is turned.) -/
import Derived.Test.YtdbpeaadnhiekaaU1b
namespace Go.Proofs.Ytdbpeaadnhiekaa.PU
open Go.RowKit Go.Proofs.YtdbpeaadnhiekaaW.PrintWords Go.Proofs.YtdbpeaadnhiekaaW.PrintLast Go.Proofs.YtdbpeaadnhiekaaW.PrintMore
attribute [local go_sem] max2_int min2_int max_two min_two max_three min_three max_four min_four
set_option linter.unusedVariables false
set_option linter.unusedSimpArgs false

mutual
def utf_First.j0 : Nat → List Int → Int → Int → Int → Int → Option (Int × Int × Int)
  | 0, _, _, _, _, _ => none
  | k + 1, x0, x5, x6, x7, x8 => utf_First.l0 k x0 x5 x6 x7 x8 1
def utf_First.l0 : Nat → List Int → Int → Int → Int → Int → Int → Option (Int × Int × Int)
  | 0, _, _, _, _, _, _ => none
  | k + 1, x0, x5, x6, x7, x8, x9 => if x9 < x5 then (if x9 = (x0.length : Int) then (some (0, 0, 6)) else (if 0 ≤ x9 then (if x9 < (x0.length : Int) then (if (rd x0 x9) < x6 then (some (0, 0, 2)) else (if (rd x0 x9) > x7 then (some (0, 0, 2)) else (utf_First.l0 k x0 x5 128 191 (Go.bits .or .i32 (wrap32 (x8 * 64)) (wrap32 (Go.bits .and .u8 (rd x0 x9) 63))) (wrap64 (x9 + 1))))) else (none)) else (none))) else (some (x8, x5, 0))
end
def utf_First.f (k : Nat) (l0 : List Int) : Option (Int × Int × Int) := if (l0.length : Int) = 0 then (some (0, 0, 5)) else (if 0 < (l0.length : Int) then ((utf_head.f (rd l0 0)).bind fun bt150 => (if bt150.1 = 0 then (some (0, 0, 2)) else (if bt150.1 > 1 then (if 0 ≤ (wrap64 (7 - bt150.1)) then (utf_First.j0 k l0 bt150.1 bt150.2.1 bt150.2.2 (Go.bits .and .i32 (wrap32 (rd l0 0)) (wrap32 ((shl .i32 1 (wrap64 (7 - bt150.1))) - 1)))) else (none)) else (utf_First.j0 k l0 bt150.1 bt150.2.1 bt150.2.2 (wrap32 (rd l0 0)))))) else (none))
theorem utf_First.mono_l : ∀ k, (∀ y0 y1 y2 y3 y4, LeO (utf_First.j0 k y0 y1 y2 y3 y4) (utf_First.j0 (k + 1) y0 y1 y2 y3 y4)) ∧ (∀ y0 y1 y2 y3 y4 y5, LeO (utf_First.l0 k y0 y1 y2 y3 y4 y5) (utf_First.l0 (k + 1) y0 y1 y2 y3 y4 y5))
  | 0 => ⟨fun _ _ _ _ _ r h => by simp [utf_First.j0] at h, fun _ _ _ _ _ _ r h => by simp [utf_First.l0] at h⟩
  | k + 1 => by
    obtain ⟨ih0, ih1⟩ := utf_First.mono_l k
    refine ⟨?_, ?_⟩
    · intro y0 y1 y2 y3 y4
      unfold utf_First.j0
      repeat' first
      | (with_reducible exact ih0 _ _ _ _ _)
      | (with_reducible exact ih1 _ _ _ _ _ _)
      | (with_reducible exact LeO.refl _)
      | (with_reducible exact LeO.none _)
      | (with_reducible refine LeO.ite ?_ ?_)
      | (with_reducible refine LeO.bind ?_ (fun _ => ?_))
      | exact ih0 _ _ _ _ _
      | exact ih1 _ _ _ _ _ _
      | exact LeO.none _
      | refine LeO.ite ?_ ?_
      | refine LeO.bind ?_ (fun _ => ?_)
    · intro y0 y1 y2 y3 y4 y5
      unfold utf_First.l0
      repeat' first
      | (with_reducible exact ih0 _ _ _ _ _)
      | (with_reducible exact ih1 _ _ _ _ _ _)
      | (with_reducible exact LeO.refl _)
      | (with_reducible exact LeO.none _)
      | (with_reducible refine LeO.ite ?_ ?_)
      | (with_reducible refine LeO.bind ?_ (fun _ => ?_))
      | exact ih0 _ _ _ _ _
      | exact ih1 _ _ _ _ _ _
      | exact LeO.none _
      | refine LeO.ite ?_ ?_
      | refine LeO.bind ?_ (fun _ => ?_)
theorem utf_First.mono : ∀ a0 k, LeO (utf_First.f k a0) (utf_First.f (k + 1) a0) := by
  intro a0 k
  obtain ⟨ih0, ih1⟩ := utf_First.mono_l k
  unfold utf_First.f
  repeat' first
      | (with_reducible exact ih0 _ _ _ _ _)
      | (with_reducible exact ih1 _ _ _ _ _ _)
      | (with_reducible exact LeO.refl _)
      | (with_reducible exact LeO.none _)
      | (with_reducible refine LeO.ite ?_ ?_)
      | (with_reducible refine LeO.bind ?_ (fun _ => ?_))
      | exact ih0 _ _ _ _ _
      | exact ih1 _ _ _ _ _ _
      | exact LeO.none _
      | refine LeO.ite ?_ ?_
      | refine LeO.bind ?_ (fun _ => ?_)
set_option maxHeartbeats 8000000 in
set_option maxRecDepth 100000 in
theorem utf_First.calls (k : Nat) (A0 : Option Addr) (c0 : Nat) (l0 : List Int) (r1 : Int) (r2 : Int) (r3 : Int) (w : World) (hr0 : Kd.C (Kd.int .u8) w A0 l0.length l0) (hc0 : l0.length ≤ c0) (h : utf_First.f k l0 = some (r1, r2, r3)) :
    Calls Try.prog 14 #[.slice A0 l0.length c0] w fun e w' => e = .returned (.tuple #[.int .i32 r1, .int .i64 r2, .int .i64 r3]) ∧ Drawn0 w w' := by
  have HR0 := Aside0.mk hr0
  have HC0 := Aside0.mk hc0
  clear hr0 hc0
  have H : (if (l0.length : Int) = 0 then (some (0, 0, 5)) else (if 0 < (l0.length : Int) then ((utf_head.f (rd l0 0)).bind fun bt150 => (if bt150.1 = 0 then (some (0, 0, 2)) else (if bt150.1 > 1 then (if 0 ≤ (wrap64 (7 - bt150.1)) then (utf_First.j0 k l0 bt150.1 bt150.2.1 bt150.2.2 (Go.bits .and .i32 (wrap32 (rd l0 0)) (wrap32 ((shl .i32 1 (wrap64 (7 - bt150.1))) - 1)))) else (none)) else (utf_First.j0 k l0 bt150.1 bt150.2.1 bt150.2.2 (wrap32 (rd l0 0)))))) else (none))) = some (r1, r2, r3) := h
  clear h
  by_cases c2 : (l0.length : Int) = 0
  · rw [if_pos c2] at H
    have c2b0 : ((l0.length : Int) == 0) = true := beq_iff_eq.mpr c2
    have c2b1 : ((l0.length : Int) != 0) = false := bne_eq_false_iff_eq.mpr c2
    clear c2
    simp only [Option.some.injEq, Prod.mk.injEq] at H
    obtain ⟨rfl, rfl, rfl⟩ := H
    go_enter Try.func14, Try.ntmps14
    go_wp2
    go_ret3
    exact ⟨by first | rfl | (simp; done) | (simp [*]; done), by repeat (first | exact Drawn0.refl _ | apply Drawn0.step)⟩
  · rw [if_neg c2] at H
    have c2b0 : ((l0.length : Int) == 0) = false := beq_eq_false_iff_ne.mpr c2
    have c2b1 : ((l0.length : Int) != 0) = true := bne_iff_ne.mpr c2
    have c2b2 : ¬ (l0 = []) := fun h_ => c2 (by rw [h_]; rfl)
    by_cases c3 : 0 < (l0.length : Int)
    · rw [if_pos c3] at H
      have c3b0 : decide (0 < (l0.length : Int)) = true := decide_eq_true c3
      have c3b1 : decide (0 < l0.length) = true := decide_eq_true (by omega)
      clear c3
      replace H := Option.bind_eq_some_iff.mp H
      obtain ⟨⟨t150, t151, t152⟩, A40, H⟩ := H
      replace H : (if t150 = 0 then (some (0, 0, 2)) else (if t150 > 1 then (if 0 ≤ (wrap64 (7 - t150)) then (utf_First.j0 k l0 t150 t151 t152 (Go.bits .and .i32 (wrap32 (rd l0 0)) (wrap32 ((shl .i32 1 (wrap64 (7 - t150))) - 1)))) else (none)) else (utf_First.j0 k l0 t150 t151 t152 (wrap32 (rd l0 0))))) = some (r1, r2, r3) := H
      have A4 := Aside0.mk A40
      clear A40
      by_cases c5 : t150 = 0
      · rw [if_pos c5] at H
        have c5b0 : (t150 == 0) = true := beq_iff_eq.mpr c5
        have c5b1 : (t150 != 0) = false := bne_eq_false_iff_eq.mpr c5
        clear c5
        simp only [Option.some.injEq, Prod.mk.injEq] at H
        obtain ⟨rfl, rfl, rfl⟩ := H
        have p149 : 0 ≤ (0 : Int) := (by omega)
        have q149 : 0 < (l0.length : Int) := of_decide_eq_true (by first | (with_reducible assumption) | assumption)
        obtain ⟨ad149, e149, hx149_0⟩ := Kd.at_int HR0.out 0 p149 q149
        cases e149
        have qi149 : (0 < l0.length) = True := eq_true (by omega)
        (try rw [show ((0 : Int)).toNat = 0 from rfl] at hx149_0)
        (try rw [Addr.add_zero'] at hx149_0)
        replace p149 := eq_true p149
        replace q149 := eq_true q149
        go_enter Try.func14, Try.ntmps14
        go_wp2_with (first | ((with_reducible refine gate_callee (f := 25) rfl ?_); refine goesL_ (some 17) rfl rfl Try.func25 (by kernel_rfl) rfl #[.int .u8 (rd l0 0)] rfl (by (try simp only [List.map_toArray, List.map_cons, List.map_nil]); first | done | rfl | (simp only [List.length_drop, List.length_take]; rfl)) ?_; (with_reducible refine (utf_head.calls (rd l0 0) t150 t151 t152 _ A4.out).mono ?_); rintro e w' ⟨rfl, ⟨nd, rfl⟩⟩; refine ⟨_, rfl, ?_⟩))
        go_ret3
        exact ⟨by first | rfl | (simp; done) | (simp [*]; done), by repeat (first | exact Drawn0.refl _ | apply Drawn0.step)⟩
      · rw [if_neg c5] at H
        have c5b0 : (t150 == 0) = false := beq_eq_false_iff_ne.mpr c5
        have c5b1 : (t150 != 0) = true := bne_iff_ne.mpr c5
        have HC6 := Aside0.mk H
        clear H
        have p149 : 0 ≤ (0 : Int) := (by omega)
        have q149 : 0 < (l0.length : Int) := of_decide_eq_true (by first | (with_reducible assumption) | assumption)
        obtain ⟨ad149, e149, hx149_0⟩ := Kd.at_int HR0.out 0 p149 q149
        cases e149
        have qi149 : (0 < l0.length) = True := eq_true (by omega)
        (try rw [show ((0 : Int)).toNat = 0 from rfl] at hx149_0)
        (try rw [Addr.add_zero'] at hx149_0)
        replace p149 := eq_true p149
        replace q149 := eq_true q149
        go_enter Try.func14, Try.ntmps14
        go_upto_if 28 with (first | ((with_reducible refine gate_callee (f := 25) rfl ?_); refine goesL_ (some 17) rfl rfl Try.func25 (by kernel_rfl) rfl #[.int .u8 (rd l0 0)] rfl (by (try simp only [List.map_toArray, List.map_cons, List.map_nil]); first | done | rfl | (simp only [List.length_drop, List.length_take]; rfl)) ?_; (with_reducible refine (utf_head.calls (rd l0 0) t150 t151 t152 _ A4.out).mono ?_); rintro e w' ⟨rfl, ⟨nd, rfl⟩⟩; refine ⟨_, rfl, ?_⟩; have p153 : 0 ≤ (0 : Int) := (by omega); have q153 : 0 < (l0.length : Int) := of_decide_eq_true (by first | (with_reducible assumption) | assumption); obtain ⟨ad153, e153, hx153_0⟩ := Kd.at_int HR0.out 0 p153 q153; obtain rfl : ad149 = ad153 := (by injection e153); have qi153 : (0 < l0.length) = True := eq_true (by omega); (try rw [show ((0 : Int)).toNat = 0 from rfl] at hx153_0); (try rw [Addr.add_zero'] at hx153_0); replace p153 := eq_true p153; replace q153 := eq_true q153))
        (try simp only [Act.put, List.setIfInBounds_toArray, List.set_cons_zero, List.set_cons_succ])
        go_cut [8] (fun v8 wc => ∃ (kq : Nat) (x8_5 : Int), v8 = .int .i32 x8_5 ∧ Aside0 (utf_First.j0 kq l0 t150 t151 t152 x8_5 = some (r1, r2, r3)) ∧ Aside0 (kq ≤ k) ∧ Drawn0 w wc)
        case first =>
          have H := HC6.out
          clear HC6
          by_cases c7 : t150 > 1
          · rw [if_pos c7] at H
            have c7b0 : decide (1 < t150) = true := decide_eq_true c7
            clear c7
            (first | rw [c7b0] | (simp only [i64_w, i32_w]; rw [c7b0]) | skip)
            obtain ⟨ji8, hji8⟩ : ∃ j_ : Int, (wrap64 (7 - t150)) = j_ := ⟨_, rfl⟩
            replace H : (if 0 ≤ (ji8) then (utf_First.j0 k l0 t150 t151 t152 (Go.bits .and .i32 (wrap32 (rd l0 0)) (wrap32 ((shl .i32 1 (ji8)) - 1)))) else (none)) = some (r1, r2, r3) := by first | (rw [hji8] at H; exact H) | (simp only [hji8] at H ⊢; exact H)
            have hji8w : (IntKind.i64.wrap (7 - t150)) = ji8 := (i64_w _).trans hji8
            by_cases c9 : 0 ≤ (ji8)
            · rw [if_pos c9] at H
              have c9b0 := eq_true c9
              have c9b1 : decide (0 ≤ (ji8)) = true := decide_eq_true c9
              clear c9
              obtain ⟨ji10, hji10⟩ : ∃ j_ : Int, (shl .i32 1 (ji8)) = j_ := ⟨_, rfl⟩
              replace H : (utf_First.j0 k l0 t150 t151 t152 (Go.bits .and .i32 (wrap32 (rd l0 0)) (wrap32 ((ji10) - 1)))) = some (r1, r2, r3) := by first | (rw [hji10] at H; exact H) | (simp only [hji10] at H ⊢; exact H)
              have hji10_ : (IntKind.i32.wrap (1 * 2 ^ min (ji8).toNat 32)) = ji10 := hji10
              have hji10z : (ji8) ≤ 32 → (IntKind.i32.wrap (1 * 2 ^ (ji8).toNat)) = ji10 := shl_small hji10
              have hji10u : (IntKind.i32.wrap (2 ^ min (ji8).toNat 32)) = ji10 := by have h_ := hji10_; rw [Int.one_mul] at h_; exact h_
              have hji10v : (ji8) ≤ 32 → (IntKind.i32.wrap (2 ^ (ji8).toNat)) = ji10 := fun hle_ => by have h_ := hji10z hle_; rw [Int.one_mul] at h_; exact h_
              have hji10y : (wrap32 (1 * 2 ^ min (ji8).toNat 32)) = ji10 := (i32_w _).symm.trans hji10_
              have hji10x : (ji8) ≤ 32 → (wrap32 (1 * 2 ^ (ji8).toNat)) = ji10 := fun h_ => (i32_w _).symm.trans (hji10z h_)
              have H' := Aside0.mk H
              clear H
              go_wp2
              go_meet
              case rel => exact ⟨_, (Go.bits .and .i32 (wrap32 (rd l0 0)) (wrap32 ((ji10) - 1))), (by first | rfl | (simp; done) | (simp only [← hji10] <;> (first | rfl | simp)) | (simp [*]; done)), H', ⟨by first | omega | exact Nat.le_refl _⟩, by repeat (first | exact Drawn0.refl _ | apply Drawn0.step)⟩
            · rw [if_neg c9] at H
              exact absurd H (by simp)
          · rw [if_neg c7] at H
            have c7b0 : decide (1 < t150) = false := decide_eq_false c7
            clear c7
            (first | rw [c7b0] | (simp only [i64_w, i32_w]; rw [c7b0]) | skip)
            have H' := Aside0.mk H
            clear H
            go_wp2
            go_meet
            case rel => exact ⟨_, (wrap32 (rd l0 0)), (by first | rfl | (simp; done) | (simp [*]; done)), H', ⟨by first | omega | exact Nat.le_refl _⟩, by repeat (first | exact Drawn0.refl _ | apply Drawn0.step)⟩
        case rest =>
          clear HC6
          try clear c1
          try clear p1
          try clear q1
          try clear hx1
          try clear qi1
          try clear c2
          try clear c2b0
          try clear c2b1
          try clear c2b2
          try clear p2
          try clear c3
          try clear c3b0
          try clear c3b1
          try clear p3
          try clear c5
          try clear c5b0
          try clear c5b1
          try clear p6
          try clear c7
          try clear c7b0
          try clear c9
          try clear c9b0
          try clear c9b1
          try clear hx149_0
          try clear hx153_0
          try clear p149
          try clear p153
          try clear q149
          try clear q153
          obtain ⟨kq, x8_5, rfl, HA, HJ5, ⟨mc5, rfl⟩⟩ := hcut
          cases kq with
          | zero => exact absurd HA.out (by simp [utf_First.j0])
          | succ kj5 =>
            have H := HA.out
            clear HA
            simp only [utf_First.j0] at H
            have H' := Aside0.mk H
            clear H
            go_wp2
            go_loopg [6, 7, 8, 9] kj5 (fun kq v6 v7 v8 v9 w' => ∃ (x6_2 : Int) (x7_2 : Int) (x8_2 : Int) (x9_2 : Int), v6 = .int .u8 x6_2 ∧ v7 = .int .u8 x7_2 ∧ v8 = .int .i32 x8_2 ∧ v9 = .int .i64 x9_2 ∧ Aside0 (utf_First.l0 kq l0 t150 x6_2 x7_2 x8_2 x9_2 = some (r1, r2, r3)) ∧ Aside0 (kq ≤ kj5) ∧ Drawn0 w w')
            case atStart => exact ⟨(t151), (t152), (x8_5), (1), (by first | rfl | (simp; done) | (simp [*]; done)), (by first | rfl | (simp; done) | (simp [*]; done)), (by first | rfl | (simp; done) | (simp [*]; done)), (by first | rfl | (simp; done) | (simp [*]; done)), H', ⟨Nat.le_refl _⟩, by repeat (first | exact Drawn0.refl _ | apply Drawn0.step)⟩
            case round =>
              clear H'
              try clear c1
              try clear p1
              try clear q1
              try clear hx1
              try clear qi1
              try clear c2
              try clear c2b0
              try clear c2b1
              try clear c2b2
              try clear p2
              try clear c3
              try clear c3b0
              try clear c3b1
              try clear p3
              try clear c5
              try clear c5b0
              try clear c5b1
              try clear p6
              try clear c7
              try clear c7b0
              try clear c9
              try clear c9b0
              try clear c9b1
              try clear hx149_0
              try clear hx153_0
              try clear p1
              try clear p149
              try clear p153
              try clear p2
              try clear p3
              try clear p6
              try clear q1
              try clear q149
              try clear q153
              obtain ⟨x6_2, x7_2, x8_2, x9_2, rfl, rfl, rfl, rfl, HA, HK2, ⟨m2, rfl⟩⟩ := hrel
              cases gk with
              | zero => exact absurd HA.out (by simp [utf_First.l0])
              | succ k2 =>
                have H := HA.out
                clear HA
                simp only [utf_First.l0] at H
                by_cases c11 : x9_2 < t150
                · rw [if_pos c11] at H
                  have c11b0 : decide (x9_2 < t150) = true := decide_eq_true c11
                  clear c11
                  by_cases c12 : x9_2 = (l0.length : Int)
                  · rw [if_pos c12] at H
                    have c12b0 : (x9_2 == (l0.length : Int)) = true := beq_iff_eq.mpr c12
                    have c12b1 : (x9_2 != (l0.length : Int)) = false := bne_eq_false_iff_eq.mpr c12
                    clear c12
                    simp only [Option.some.injEq, Prod.mk.injEq] at H
                    obtain ⟨rfl, rfl, rfl⟩ := H
                    go_wp2
                    go_ret3
                    exact ⟨by first | rfl | (simp; done) | (simp [*]; done), by repeat (first | exact Drawn0.refl _ | apply Drawn0.step)⟩
                  · rw [if_neg c12] at H
                    have c12b0 : (x9_2 == (l0.length : Int)) = false := beq_eq_false_iff_ne.mpr c12
                    have c12b1 : (x9_2 != (l0.length : Int)) = true := bne_iff_ne.mpr c12
                    by_cases c13 : 0 ≤ x9_2
                    · rw [if_pos c13] at H
                      have c13b0 : decide (0 ≤ x9_2) = true := decide_eq_true c13
                      clear c13
                      by_cases c14 : x9_2 < (l0.length : Int)
                      · rw [if_pos c14] at H
                        have c14b0 : decide (x9_2 < (l0.length : Int)) = true := decide_eq_true c14
                        clear c14
                        by_cases c15 : (rd l0 x9_2) < x6_2
                        · rw [if_pos c15] at H
                          have c15b0 : decide ((rd l0 x9_2) < x6_2) = true := decide_eq_true c15
                          clear c15
                          simp only [Option.some.injEq, Prod.mk.injEq] at H
                          obtain ⟨rfl, rfl, rfl⟩ := H
                          have p154 : 0 ≤ (x9_2 : Int) := of_decide_eq_true (by first | (with_reducible assumption) | assumption)
                          have q154 : x9_2 < (l0.length : Int) := of_decide_eq_true (by first | (with_reducible assumption) | assumption)
                          obtain ⟨ad154, e154, hx154_0⟩ := Kd.at_int HR0.out x9_2 p154 q154
                          obtain rfl : ad149 = ad154 := (by injection e154)
                          replace p154 := eq_true p154
                          replace q154 := eq_true q154
                          go_wp2
                          go_ret3
                          exact ⟨by first | rfl | (simp; done) | (simp [*]; done), by repeat (first | exact Drawn0.refl _ | apply Drawn0.step)⟩
                        · rw [if_neg c15] at H
                          have c15b0 : decide ((rd l0 x9_2) < x6_2) = false := decide_eq_false c15
                          clear c15
                          by_cases c16 : (rd l0 x9_2) > x7_2
                          · rw [if_pos c16] at H
                            have c16b0 : decide (x7_2 < (rd l0 x9_2)) = true := decide_eq_true c16
                            clear c16
                            simp only [Option.some.injEq, Prod.mk.injEq] at H
                            obtain ⟨rfl, rfl, rfl⟩ := H
                            have p154 : 0 ≤ (x9_2 : Int) := of_decide_eq_true (by first | (with_reducible assumption) | assumption)
                            have q154 : x9_2 < (l0.length : Int) := of_decide_eq_true (by first | (with_reducible assumption) | assumption)
                            obtain ⟨ad154, e154, hx154_0⟩ := Kd.at_int HR0.out x9_2 p154 q154
                            obtain rfl : ad149 = ad154 := (by injection e154)
                            replace p154 := eq_true p154
                            replace q154 := eq_true q154
                            have p155 : 0 ≤ (x9_2 : Int) := of_decide_eq_true (by first | (with_reducible assumption) | assumption)
                            have q155 : x9_2 < (l0.length : Int) := of_decide_eq_true (by first | (with_reducible assumption) | assumption)
                            obtain ⟨ad155, e155, hx155_0⟩ := Kd.at_int HR0.out x9_2 p155 q155
                            obtain rfl : ad149 = ad155 := (by injection e155)
                            replace p155 := eq_true p155
                            replace q155 := eq_true q155
                            go_wp2
                            go_ret3
                            exact ⟨by first | rfl | (simp; done) | (simp [*]; done), by repeat (first | exact Drawn0.refl _ | apply Drawn0.step)⟩
                          · rw [if_neg c16] at H
                            have c16b0 : decide (x7_2 < (rd l0 x9_2)) = false := decide_eq_false c16
                            clear c16
                            have H' := Aside0.mk H
                            clear H
                            have p154 : 0 ≤ (x9_2 : Int) := of_decide_eq_true (by first | (with_reducible assumption) | assumption)
                            have q154 : x9_2 < (l0.length : Int) := of_decide_eq_true (by first | (with_reducible assumption) | assumption)
                            obtain ⟨ad154, e154, hx154_0⟩ := Kd.at_int HR0.out x9_2 p154 q154
                            obtain rfl : ad149 = ad154 := (by injection e154)
                            replace p154 := eq_true p154
                            replace q154 := eq_true q154
                            have p155 : 0 ≤ (x9_2 : Int) := of_decide_eq_true (by first | (with_reducible assumption) | assumption)
                            have q155 : x9_2 < (l0.length : Int) := of_decide_eq_true (by first | (with_reducible assumption) | assumption)
                            obtain ⟨ad155, e155, hx155_0⟩ := Kd.at_int HR0.out x9_2 p155 q155
                            obtain rfl : ad149 = ad155 := (by injection e155)
                            replace p155 := eq_true p155
                            replace q155 := eq_true q155
                            have p156 : 0 ≤ (x9_2 : Int) := of_decide_eq_true (by first | (with_reducible assumption) | assumption)
                            have q156 : x9_2 < (l0.length : Int) := of_decide_eq_true (by first | (with_reducible assumption) | assumption)
                            obtain ⟨ad156, e156, hx156_0⟩ := Kd.at_int HR0.out x9_2 p156 q156
                            obtain rfl : ad149 = ad156 := (by injection e156)
                            replace p156 := eq_true p156
                            replace q156 := eq_true q156
                            go_wp2
                            go_roundg k2
                            case measure => have := HJ5.out; have := HK2.out; omega
                            case rel => exact ⟨(128), (191), (Go.bits .or .i32 (wrap32 (x8_2 * 64)) (wrap32 (Go.bits .and .u8 (rd l0 x9_2) 63))), (wrap64 (x9_2 + 1)), (by first | rfl | (simp; done) | (simp [*]; done)), (by first | rfl | (simp; done) | (simp [*]; done)), (by first | rfl | (simp; done) | (simp [*]; done)), (by first | rfl | (simp; done) | (simp [*]; done)), H', ⟨by have := HJ5.out; have := HK2.out; omega⟩, by repeat (first | exact Drawn0.refl _ | apply Drawn0.step)⟩
                      · rw [if_neg c14] at H
                        exact absurd H (by simp)
                    · rw [if_neg c13] at H
                      exact absurd H (by simp)
                · rw [if_neg c11] at H
                  have c11b0 : decide (x9_2 < t150) = false := decide_eq_false c11
                  clear c11
                  simp only [Option.some.injEq, Prod.mk.injEq] at H
                  obtain ⟨rfl, rfl, rfl⟩ := H
                  go_wp2
                  go_ret3
                  exact ⟨by first | rfl | (simp; done) | (simp [*]; done), by repeat (first | exact Drawn0.refl _ | apply Drawn0.step)⟩
    · rw [if_neg c3] at H
      exact absurd H (by simp)

/-! ### utf_Decode: function 16 -/
end Go.Proofs.Ytdbpeaadnhiekaa.PU
