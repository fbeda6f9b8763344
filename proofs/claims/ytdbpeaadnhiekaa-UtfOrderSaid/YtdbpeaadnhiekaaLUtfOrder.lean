/- The law UtfOrder comes to the printed function's answer, where it tells one. (The lines of this text began as lines that a program of the kit had written for this statement; the walk of one function is turned.) -/
import Derived.Test.YtdbpeaadnhiekaaU3
import Derived.Test.YtdbpeaadnhiekaaU3b
namespace Go.Proofs.Ytdbpeaadnhiekaa.PU
open Go.RowKit Go.Proofs.YtdbpeaadnhiekaaW.PrintWords Go.Proofs.YtdbpeaadnhiekaaW.PrintLast Go.Proofs.YtdbpeaadnhiekaaW.PrintMore
attribute [local go_sem] max2_int min2_int max_two min_two max_three min_three max_four min_four
set_option linter.unusedVariables false
set_option linter.unusedSimpArgs false

mutual
def foolscaplaw01_UtfOrder.j0 : Nat → List Int → List Int → Bool → List Int → List Int → Bool → Option (Bool)
  | 0, _, _, _, _, _, _ => none
  | k + 1, x0, x1, x5, x6, x8, x38 => if x38 = true then (some x5) else (foolscaplaw01_UtfOrder.l0 k x0 x1 x5 x6 x8 (decide ((x0.length : Int) < (x1.length : Int))) 0)
def foolscaplaw01_UtfOrder.l0 : Nat → List Int → List Int → Bool → List Int → List Int → Bool → Int → Option (Bool)
  | 0, _, _, _, _, _, _, _ => none
  | k + 1, x0, x1, x5, x6, x8, x10, x11 => if x11 < (x0.length : Int) then (foolscaplaw01_UtfOrder.j2 k x0 x1 x5 x6 x8 x10 x11 (decide (x11 < (x1.length : Int)))) else (foolscaplaw01_UtfOrder.j2 k x0 x1 x5 x6 x8 x10 x11 false)
def foolscaplaw01_UtfOrder.j2 : Nat → List Int → List Int → Bool → List Int → List Int → Bool → Int → Bool → Option (Bool)
  | 0, _, _, _, _, _, _, _, _ => none
  | k + 1, x0, x1, x5, x6, x8, x10, x11, x54 => if x54 = true then (if 0 ≤ x11 then (if x11 < (x0.length : Int) then (if x11 < (x1.length : Int) then (if (rd x0 x11) = (rd x1 x11) then (foolscaplaw01_UtfOrder.l0 k x0 x1 x5 x6 x8 x10 (wrap64 (x11 + 1))) else (if x5 = true then (some ((Op.bytesLess ((strOfNums x6).toList) ((strOfNums x8).toList)) == (decide ((rd x0 x11) < (rd x1 x11))))) else (some false))) else (none)) else (none)) else (none)) else (if x5 = true then (some ((Op.bytesLess ((strOfNums x6).toList) ((strOfNums x8).toList)) == x10)) else (some false))
end
def foolscaplaw01_UtfOrder.f (k : Nat) (l0 : List Int) (l1 : List Int) : Option (Bool) := (foolscaplaw01_shown.f k).bind fun t200 => (if 0 ≤ (mn (l0.length : Int) 50) then (if (mn (l0.length : Int) 50) ≤ (l0.length : Int) then (if 0 ≤ (mn (l1.length : Int) 50) then (if (mn (l1.length : Int) 50) ≤ (l1.length : Int) then ((utf_Encode.f k (l0.take ((mn (l0.length : Int) 50) : Int).toNat)).bind fun bt203 => ((utf_Encode.f k (l1.take ((mn (l1.length : Int) 50) : Int).toNat)).bind fun bt207 => (if bt203.2 = 0 then (foolscaplaw01_UtfOrder.j0 k (l0.take ((mn (l0.length : Int) 50) : Int).toNat) (l1.take ((mn (l1.length : Int) 50) : Int).toNat) t200 bt203.1 bt207.1 (bt207.2 != 0)) else (foolscaplaw01_UtfOrder.j0 k (l0.take ((mn (l0.length : Int) 50) : Int).toNat) (l1.take ((mn (l1.length : Int) 50) : Int).toNat) t200 bt203.1 bt207.1 true)))) else (none)) else (none)) else (none)) else (none))
theorem foolscaplaw01_UtfOrder.mono_l : ∀ k, (∀ y0 y1 y2 y3 y4 y5, LeO (foolscaplaw01_UtfOrder.j0 k y0 y1 y2 y3 y4 y5) (foolscaplaw01_UtfOrder.j0 (k + 1) y0 y1 y2 y3 y4 y5)) ∧ (∀ y0 y1 y2 y3 y4 y5 y6, LeO (foolscaplaw01_UtfOrder.l0 k y0 y1 y2 y3 y4 y5 y6) (foolscaplaw01_UtfOrder.l0 (k + 1) y0 y1 y2 y3 y4 y5 y6)) ∧ (∀ y0 y1 y2 y3 y4 y5 y6 y7, LeO (foolscaplaw01_UtfOrder.j2 k y0 y1 y2 y3 y4 y5 y6 y7) (foolscaplaw01_UtfOrder.j2 (k + 1) y0 y1 y2 y3 y4 y5 y6 y7))
  | 0 => ⟨fun _ _ _ _ _ _ r h => by simp [foolscaplaw01_UtfOrder.j0] at h, fun _ _ _ _ _ _ _ r h => by simp [foolscaplaw01_UtfOrder.l0] at h, fun _ _ _ _ _ _ _ _ r h => by simp [foolscaplaw01_UtfOrder.j2] at h⟩
  | k + 1 => by
    obtain ⟨ih0, ih1, ih2⟩ := foolscaplaw01_UtfOrder.mono_l k
    refine ⟨?_, ?_, ?_⟩
    · intro y0 y1 y2 y3 y4 y5
      unfold foolscaplaw01_UtfOrder.j0
      repeat' first
      | (with_reducible exact ih0 _ _ _ _ _ _)
      | (with_reducible exact ih1 _ _ _ _ _ _ _)
      | (with_reducible exact ih2 _ _ _ _ _ _ _ _)
      | (with_reducible exact foolscaplaw01_shown.mono _)
      | (with_reducible exact utf_Encode.mono _ _)
      | (with_reducible exact LeO.refl _)
      | (with_reducible exact LeO.none _)
      | (with_reducible refine LeO.ite ?_ ?_)
      | (with_reducible refine LeO.bind ?_ (fun _ => ?_))
      | exact ih0 _ _ _ _ _ _
      | exact ih1 _ _ _ _ _ _ _
      | exact ih2 _ _ _ _ _ _ _ _
      | exact foolscaplaw01_shown.mono _
      | exact utf_Encode.mono _ _
      | exact LeO.none _
      | refine LeO.ite ?_ ?_
      | refine LeO.bind ?_ (fun _ => ?_)
    · intro y0 y1 y2 y3 y4 y5 y6
      unfold foolscaplaw01_UtfOrder.l0
      repeat' first
      | (with_reducible exact ih0 _ _ _ _ _ _)
      | (with_reducible exact ih1 _ _ _ _ _ _ _)
      | (with_reducible exact ih2 _ _ _ _ _ _ _ _)
      | (with_reducible exact foolscaplaw01_shown.mono _)
      | (with_reducible exact utf_Encode.mono _ _)
      | (with_reducible exact LeO.refl _)
      | (with_reducible exact LeO.none _)
      | (with_reducible refine LeO.ite ?_ ?_)
      | (with_reducible refine LeO.bind ?_ (fun _ => ?_))
      | exact ih0 _ _ _ _ _ _
      | exact ih1 _ _ _ _ _ _ _
      | exact ih2 _ _ _ _ _ _ _ _
      | exact foolscaplaw01_shown.mono _
      | exact utf_Encode.mono _ _
      | exact LeO.none _
      | refine LeO.ite ?_ ?_
      | refine LeO.bind ?_ (fun _ => ?_)
    · intro y0 y1 y2 y3 y4 y5 y6 y7
      unfold foolscaplaw01_UtfOrder.j2
      repeat' first
      | (with_reducible exact ih0 _ _ _ _ _ _)
      | (with_reducible exact ih1 _ _ _ _ _ _ _)
      | (with_reducible exact ih2 _ _ _ _ _ _ _ _)
      | (with_reducible exact foolscaplaw01_shown.mono _)
      | (with_reducible exact utf_Encode.mono _ _)
      | (with_reducible exact LeO.refl _)
      | (with_reducible exact LeO.none _)
      | (with_reducible refine LeO.ite ?_ ?_)
      | (with_reducible refine LeO.bind ?_ (fun _ => ?_))
      | exact ih0 _ _ _ _ _ _
      | exact ih1 _ _ _ _ _ _ _
      | exact ih2 _ _ _ _ _ _ _ _
      | exact foolscaplaw01_shown.mono _
      | exact utf_Encode.mono _ _
      | exact LeO.none _
      | refine LeO.ite ?_ ?_
      | refine LeO.bind ?_ (fun _ => ?_)
theorem foolscaplaw01_UtfOrder.mono : ∀ a0 a1 k, LeO (foolscaplaw01_UtfOrder.f k a0 a1) (foolscaplaw01_UtfOrder.f (k + 1) a0 a1) := by
  intro a0 a1 k
  obtain ⟨ih0, ih1, ih2⟩ := foolscaplaw01_UtfOrder.mono_l k
  unfold foolscaplaw01_UtfOrder.f
  repeat' first
      | (with_reducible exact ih0 _ _ _ _ _ _)
      | (with_reducible exact ih1 _ _ _ _ _ _ _)
      | (with_reducible exact ih2 _ _ _ _ _ _ _ _)
      | (with_reducible exact foolscaplaw01_shown.mono _)
      | (with_reducible exact utf_Encode.mono _ _)
      | (with_reducible exact LeO.refl _)
      | (with_reducible exact LeO.none _)
      | (with_reducible refine LeO.ite ?_ ?_)
      | (with_reducible refine LeO.bind ?_ (fun _ => ?_))
      | exact ih0 _ _ _ _ _ _
      | exact ih1 _ _ _ _ _ _ _
      | exact ih2 _ _ _ _ _ _ _ _
      | exact foolscaplaw01_shown.mono _
      | exact utf_Encode.mono _ _
      | exact LeO.none _
      | refine LeO.ite ?_ ?_
      | refine LeO.bind ?_ (fun _ => ?_)
set_option maxHeartbeats 8000000 in
set_option maxRecDepth 100000 in
theorem foolscaplaw01_UtfOrder.calls (k : Nat) (A0 : Option Addr) (c0 : Nat) (l0 : List Int) (A1 : Option Addr) (c1 : Nat) (l1 : List Int) (r : Bool) (w : World) (hr0 : Kd.C (Kd.int .i32) w A0 l0.length l0) (hc0 : l0.length ≤ c0) (hr1 : Kd.C (Kd.int .i32) w A1 l1.length l1) (hc1 : l1.length ≤ c1) (h : foolscaplaw01_UtfOrder.f k l0 l1 = some r) :
    Calls Try.prog 7 #[.slice A0 l0.length c0, .slice A1 l1.length c1] w fun e w' => e = .returned (.bool r) ∧ Below w.heap.size w w' := by
  have HR0 := Aside0.mk hr0
  have HC0 := Aside0.mk hc0
  clear hr0 hc0
  have HR1 := Aside0.mk hr1
  have HC1 := Aside0.mk hc1
  clear hr1 hc1
  have HB := Aside0.mk (Below.refl w.heap.size w)
  have H : ((foolscaplaw01_shown.f k).bind fun t200 => (if 0 ≤ (mn (l0.length : Int) 50) then (if (mn (l0.length : Int) 50) ≤ (l0.length : Int) then (if 0 ≤ (mn (l1.length : Int) 50) then (if (mn (l1.length : Int) 50) ≤ (l1.length : Int) then ((utf_Encode.f k (l0.take ((mn (l0.length : Int) 50) : Int).toNat)).bind fun bt203 => ((utf_Encode.f k (l1.take ((mn (l1.length : Int) 50) : Int).toNat)).bind fun bt207 => (if bt203.2 = 0 then (foolscaplaw01_UtfOrder.j0 k (l0.take ((mn (l0.length : Int) 50) : Int).toNat) (l1.take ((mn (l1.length : Int) 50) : Int).toNat) t200 bt203.1 bt207.1 (bt207.2 != 0)) else (foolscaplaw01_UtfOrder.j0 k (l0.take ((mn (l0.length : Int) 50) : Int).toNat) (l1.take ((mn (l1.length : Int) 50) : Int).toNat) t200 bt203.1 bt207.1 true)))) else (none)) else (none)) else (none)) else (none))) = some r := h
  clear h
  replace H := Option.bind_eq_some_iff.mp H
  obtain ⟨t200, A30, H⟩ := H
  replace H : (if 0 ≤ (mn (l0.length : Int) 50) then (if (mn (l0.length : Int) 50) ≤ (l0.length : Int) then (if 0 ≤ (mn (l1.length : Int) 50) then (if (mn (l1.length : Int) 50) ≤ (l1.length : Int) then ((utf_Encode.f k (l0.take ((mn (l0.length : Int) 50) : Int).toNat)).bind fun bt203 => ((utf_Encode.f k (l1.take ((mn (l1.length : Int) 50) : Int).toNat)).bind fun bt207 => (if bt203.2 = 0 then (foolscaplaw01_UtfOrder.j0 k (l0.take ((mn (l0.length : Int) 50) : Int).toNat) (l1.take ((mn (l1.length : Int) 50) : Int).toNat) t200 bt203.1 bt207.1 (bt207.2 != 0)) else (foolscaplaw01_UtfOrder.j0 k (l0.take ((mn (l0.length : Int) 50) : Int).toNat) (l1.take ((mn (l1.length : Int) 50) : Int).toNat) t200 bt203.1 bt207.1 true)))) else (none)) else (none)) else (none)) else (none)) = some r := H
  have A3 := Aside0.mk A30
  clear A30
  obtain ⟨ji4, hji4⟩ : ∃ j_ : Int, (mn (l0.length : Int) 50) = j_ := ⟨_, rfl⟩
  replace H : (if 0 ≤ (ji4) then (if (ji4) ≤ (l0.length : Int) then (if 0 ≤ (mn (l1.length : Int) 50) then (if (mn (l1.length : Int) 50) ≤ (l1.length : Int) then ((utf_Encode.f k (l0.take ((ji4) : Int).toNat)).bind fun bt203 => ((utf_Encode.f k (l1.take ((mn (l1.length : Int) 50) : Int).toNat)).bind fun bt207 => (if bt203.2 = 0 then (foolscaplaw01_UtfOrder.j0 k (l0.take ((ji4) : Int).toNat) (l1.take ((mn (l1.length : Int) 50) : Int).toNat) t200 bt203.1 bt207.1 (bt207.2 != 0)) else (foolscaplaw01_UtfOrder.j0 k (l0.take ((ji4) : Int).toNat) (l1.take ((mn (l1.length : Int) 50) : Int).toNat) t200 bt203.1 bt207.1 true)))) else (none)) else (none)) else (none)) else (none)) = some r := by first | (rw [hji4] at H; exact H) | (simp only [hji4] at H ⊢; exact H)
  (try rw [hji4] at A3)
  (try (have hji4h : ji4 ≤ 50 := by (rw [← hji4]; unfold mn; (repeat' split) <;> omega)))
  (try (have hji4g : ji4 ≤ 64 := by omega))
  (try (have hji4l : 0 ≤ ji4 := by (rw [← hji4]; unfold mn; (repeat' split) <;> omega)))
  (try (have hji4m : 0 ≤ ji4 := by omega))
  have hji4_ : (if 50 < (l0.length : Int) then 50 else (l0.length : Int)) = ji4 := hji4
  by_cases c5 : 0 ≤ (ji4)
  · rw [if_pos c5] at H
    have c5b0 := eq_true c5
    have c5b1 : decide (0 ≤ (ji4)) = true := decide_eq_true c5
    clear c5
    by_cases c6 : (ji4) ≤ (l0.length : Int)
    · rw [if_pos c6] at H
      have c6b0 := eq_true c6
      have c6b1 : decide ((ji4) ≤ (l0.length : Int)) = true := decide_eq_true c6
      clear c6
      obtain ⟨z_ji4, hz_⟩ : ∃ z_ : List Int, (l0.take ((ji4) : Int).toNat) = z_ := ⟨_, rfl⟩
      rw [hz_] at H
      have HZ_ji4 := Aside0.mk hz_
      clear hz_
      obtain ⟨ji7, hji7⟩ : ∃ j_ : Int, (mn (l1.length : Int) 50) = j_ := ⟨_, rfl⟩
      replace H : (if 0 ≤ (ji7) then (if (ji7) ≤ (l1.length : Int) then ((utf_Encode.f k z_ji4).bind fun bt203 => ((utf_Encode.f k (l1.take ((ji7) : Int).toNat)).bind fun bt207 => (if bt203.2 = 0 then (foolscaplaw01_UtfOrder.j0 k z_ji4 (l1.take ((ji7) : Int).toNat) t200 bt203.1 bt207.1 (bt207.2 != 0)) else (foolscaplaw01_UtfOrder.j0 k z_ji4 (l1.take ((ji7) : Int).toNat) t200 bt203.1 bt207.1 true)))) else (none)) else (none)) = some r := by first | (rw [hji7] at H; exact H) | (simp only [hji7] at H ⊢; exact H)
      (try rw [hji7] at A3)
      (try (have hji7h : ji7 ≤ 50 := by (rw [← hji7]; unfold mn; (repeat' split) <;> omega)))
      (try (have hji7g : ji7 ≤ 64 := by omega))
      (try (have hji7l : 0 ≤ ji7 := by (rw [← hji7]; unfold mn; (repeat' split) <;> omega)))
      (try (have hji7m : 0 ≤ ji7 := by omega))
      have hji7_ : (if 50 < (l1.length : Int) then 50 else (l1.length : Int)) = ji7 := hji7
      by_cases c8 : 0 ≤ (ji7)
      · rw [if_pos c8] at H
        have c8b0 := eq_true c8
        have c8b1 : decide (0 ≤ (ji7)) = true := decide_eq_true c8
        clear c8
        by_cases c9 : (ji7) ≤ (l1.length : Int)
        · rw [if_pos c9] at H
          have c9b0 := eq_true c9
          have c9b1 : decide ((ji7) ≤ (l1.length : Int)) = true := decide_eq_true c9
          clear c9
          obtain ⟨z_ji7, hz_⟩ : ∃ z_ : List Int, (l1.take ((ji7) : Int).toNat) = z_ := ⟨_, rfl⟩
          rw [hz_] at H
          have HZ_ji7 := Aside0.mk hz_
          clear hz_
          replace H := Option.bind_eq_some_iff.mp H
          obtain ⟨⟨t203, t204⟩, A100, H⟩ := H
          replace H : ((utf_Encode.f k z_ji7).bind fun bt207 => (if t204 = 0 then (foolscaplaw01_UtfOrder.j0 k z_ji4 z_ji7 t200 t203 bt207.1 (bt207.2 != 0)) else (foolscaplaw01_UtfOrder.j0 k z_ji4 z_ji7 t200 t203 bt207.1 true))) = some r := H
          have A10 := Aside0.mk A100
          clear A100
          replace H := Option.bind_eq_some_iff.mp H
          obtain ⟨⟨t207, t208⟩, A110, H⟩ := H
          replace H : (if t204 = 0 then (foolscaplaw01_UtfOrder.j0 k z_ji4 z_ji7 t200 t203 t207 (t208 != 0)) else (foolscaplaw01_UtfOrder.j0 k z_ji4 z_ji7 t200 t203 t207 true)) = some r := H
          have A11 := Aside0.mk A110
          clear A110
          have HC12 := Aside0.mk H
          clear H
          go_enter Try.func7, Try.ntmps7
          go_upto_region 6 with (first | (go_at_call 11; (with_reducible refine (foolscaplaw01_shown.calls k  t200 _ A3.out).mono ?_); rintro e w13 ⟨rfl, hb⟩; have n0_ := Aside0.mk (below_step (by repeat (first | (with_reducible first | exact HB.out | apply below_alloc | apply pw_below_drewN | apply below_drew1) | exact HB.out)) hb); clear HB; have HB := n0_; clear n0_; (try clear hb); (try clear hb2); (try clear hk); (try clear hi); obtain ⟨i014, hi014, _, hsz14, _⟩ := info_parts info21; obtain ⟨hcut14, hA14, hC14⟩ := print_take_of (P := Try.prog) (Value.int .i32) 0 22 21 .i64 Try.underlying22 hi014 hsz14 A0 c0 l0 (ji4) (of_decide_eq_true (by first | (with_reducible assumption) | assumption)) (of_decide_eq_true (by first | (with_reducible assumption) | assumption)) HC0.out; rw [HZ_ji4.out] at hcut14 hA14 hC14; have HR201 := Aside0.mk (Kd.C_of_reads (h1 := fun _ => rfl) (hA14 _ (Kd.reads_of_C HR0.out))); have HC201 := Aside0.mk hC14; clear hA14 hC14 hi014 hsz14; obtain ⟨i015, hi015, _, hsz15, _⟩ := info_parts info21; obtain ⟨hcut15, hA15, hC15⟩ := print_take_of (P := Try.prog) (Value.int .i32) 0 22 21 .i64 Try.underlying22 hi015 hsz15 A1 c1 l1 (ji7) (of_decide_eq_true (by first | (with_reducible assumption) | assumption)) (of_decide_eq_true (by first | (with_reducible assumption) | assumption)) HC1.out; rw [HZ_ji7.out] at hcut15 hA15 hC15; have HR202 := Aside0.mk (Kd.C_of_reads (h1 := fun _ => rfl) (hA15 _ (Kd.reads_of_C HR1.out))); have HC202 := Aside0.mk hC15; clear hA15 hC15 hi015 hsz15) | (go_at_call 12; (with_reducible refine (utf_Encode.calls k _ _ z_ji4 t203 t204 _ ?side1 ?side2 A10.out).mono ?_); (case side1 => repeat (first | exact (Kd.C_below HR201.out HB.out) | (with_reducible refine Kd.C_alloc ?_ _) | (with_reducible refine Kd.C_drewN ?_ _) | (with_reducible refine Kd.C_drew ?_))); (case side2 => exact HC201.out); rintro e w16 ⟨v205, rfl, ho0, hb⟩; have n0_ := Aside0.mk (Kd.R_lower ho0 (below_size (by repeat (first | (with_reducible first | exact HB.out | apply below_alloc | apply pw_below_drewN | apply below_drew1) | exact HB.out)))); have n1_ := Aside0.mk (below_step (by repeat (first | (with_reducible first | exact HB.out | apply below_alloc | apply pw_below_drewN | apply below_drew1) | exact HB.out)) hb); clear HB; have HO206 := n0_; have HB := n1_; clear n0_ n1_; (try clear hb); (try clear hb2); (try clear hk); (try clear hi); (try clear ho0)) | (go_at_call 12; (with_reducible refine (utf_Encode.calls k _ _ z_ji7 t207 t208 _ ?side1 ?side2 A11.out).mono ?_); (case side1 => repeat (first | exact (Kd.C_below HR202.out HB.out) | (with_reducible refine Kd.C_alloc ?_ _) | (with_reducible refine Kd.C_drewN ?_ _) | (with_reducible refine Kd.C_drew ?_))); (case side2 => exact HC202.out); rintro e w17 ⟨v209, rfl, ho0, hb⟩; have n0_ := Aside0.mk (Kd.R_elder' (by (with_reducible repeat (first | apply Kd.R_alloc | apply Kd.R_drewN | apply Kd.R_drew)); exact HO206.out) (Kd.R_base ho0) hb); have n1_ := Aside0.mk (Kd.R_lower (Kd.R_new' ho0 (Kd.R_lt (by (with_reducible repeat (first | apply Kd.R_alloc | apply Kd.R_drewN | apply Kd.R_drew)); exact HO206.out))) (below_size (by repeat (first | (with_reducible first | exact HB.out | apply below_alloc | apply pw_below_drewN | apply below_drew1) | exact HB.out)))); have n2_ := Aside0.mk (below_step (by repeat (first | (with_reducible first | exact HB.out | apply below_alloc | apply pw_below_drewN | apply below_drew1) | exact HB.out)) hb); clear HO206; clear HB; have HO206 := n0_; have HO210 := n1_; have HB := n2_; clear n0_ n1_ n2_; (try clear hb); (try clear hb2); (try clear hk); (try clear hi); (try clear ho0)))
          repeat (go_quiet (first | (go_at_call 11; (with_reducible refine (foolscaplaw01_shown.calls k  t200 _ A3.out).mono ?_); rintro e w13 ⟨rfl, hb⟩; have n0_ := Aside0.mk (below_step (by repeat (first | (with_reducible first | exact HB.out | apply below_alloc | apply pw_below_drewN | apply below_drew1) | exact HB.out)) hb); clear HB; have HB := n0_; clear n0_; (try clear hb); (try clear hb2); (try clear hk); (try clear hi); obtain ⟨i014, hi014, _, hsz14, _⟩ := info_parts info21; obtain ⟨hcut14, hA14, hC14⟩ := print_take_of (P := Try.prog) (Value.int .i32) 0 22 21 .i64 Try.underlying22 hi014 hsz14 A0 c0 l0 (ji4) (of_decide_eq_true (by first | (with_reducible assumption) | assumption)) (of_decide_eq_true (by first | (with_reducible assumption) | assumption)) HC0.out; rw [HZ_ji4.out] at hcut14 hA14 hC14; have HR201 := Aside0.mk (Kd.C_of_reads (h1 := fun _ => rfl) (hA14 _ (Kd.reads_of_C HR0.out))); have HC201 := Aside0.mk hC14; clear hA14 hC14 hi014 hsz14; obtain ⟨i015, hi015, _, hsz15, _⟩ := info_parts info21; obtain ⟨hcut15, hA15, hC15⟩ := print_take_of (P := Try.prog) (Value.int .i32) 0 22 21 .i64 Try.underlying22 hi015 hsz15 A1 c1 l1 (ji7) (of_decide_eq_true (by first | (with_reducible assumption) | assumption)) (of_decide_eq_true (by first | (with_reducible assumption) | assumption)) HC1.out; rw [HZ_ji7.out] at hcut15 hA15 hC15; have HR202 := Aside0.mk (Kd.C_of_reads (h1 := fun _ => rfl) (hA15 _ (Kd.reads_of_C HR1.out))); have HC202 := Aside0.mk hC15; clear hA15 hC15 hi015 hsz15) | (go_at_call 12; (with_reducible refine (utf_Encode.calls k _ _ z_ji4 t203 t204 _ ?side1 ?side2 A10.out).mono ?_); (case side1 => repeat (first | exact (Kd.C_below HR201.out HB.out) | (with_reducible refine Kd.C_alloc ?_ _) | (with_reducible refine Kd.C_drewN ?_ _) | (with_reducible refine Kd.C_drew ?_))); (case side2 => exact HC201.out); rintro e w16 ⟨v205, rfl, ho0, hb⟩; have n0_ := Aside0.mk (Kd.R_lower ho0 (below_size (by repeat (first | (with_reducible first | exact HB.out | apply below_alloc | apply pw_below_drewN | apply below_drew1) | exact HB.out)))); have n1_ := Aside0.mk (below_step (by repeat (first | (with_reducible first | exact HB.out | apply below_alloc | apply pw_below_drewN | apply below_drew1) | exact HB.out)) hb); clear HB; have HO206 := n0_; have HB := n1_; clear n0_ n1_; (try clear hb); (try clear hb2); (try clear hk); (try clear hi); (try clear ho0)) | (go_at_call 12; (with_reducible refine (utf_Encode.calls k _ _ z_ji7 t207 t208 _ ?side1 ?side2 A11.out).mono ?_); (case side1 => repeat (first | exact (Kd.C_below HR202.out HB.out) | (with_reducible refine Kd.C_alloc ?_ _) | (with_reducible refine Kd.C_drewN ?_ _) | (with_reducible refine Kd.C_drew ?_))); (case side2 => exact HC202.out); rintro e w17 ⟨v209, rfl, ho0, hb⟩; have n0_ := Aside0.mk (Kd.R_elder' (by (with_reducible repeat (first | apply Kd.R_alloc | apply Kd.R_drewN | apply Kd.R_drew)); exact HO206.out) (Kd.R_base ho0) hb); have n1_ := Aside0.mk (Kd.R_lower (Kd.R_new' ho0 (Kd.R_lt (by (with_reducible repeat (first | apply Kd.R_alloc | apply Kd.R_drewN | apply Kd.R_drew)); exact HO206.out))) (below_size (by repeat (first | (with_reducible first | exact HB.out | apply below_alloc | apply pw_below_drewN | apply below_drew1) | exact HB.out)))); have n2_ := Aside0.mk (below_step (by repeat (first | (with_reducible first | exact HB.out | apply below_alloc | apply pw_below_drewN | apply below_drew1) | exact HB.out)) hb); clear HO206; clear HB; have HO206 := n0_; have HO210 := n1_; have HB := n2_; clear n0_ n1_ n2_; (try clear hb); (try clear hb2); (try clear hk); (try clear hi); (try clear ho0))); go_upto_region 6 with (first | (go_at_call 11; (with_reducible refine (foolscaplaw01_shown.calls k  t200 _ A3.out).mono ?_); rintro e w13 ⟨rfl, hb⟩; have n0_ := Aside0.mk (below_step (by repeat (first | (with_reducible first | exact HB.out | apply below_alloc | apply pw_below_drewN | apply below_drew1) | exact HB.out)) hb); clear HB; have HB := n0_; clear n0_; (try clear hb); (try clear hb2); (try clear hk); (try clear hi); obtain ⟨i014, hi014, _, hsz14, _⟩ := info_parts info21; obtain ⟨hcut14, hA14, hC14⟩ := print_take_of (P := Try.prog) (Value.int .i32) 0 22 21 .i64 Try.underlying22 hi014 hsz14 A0 c0 l0 (ji4) (of_decide_eq_true (by first | (with_reducible assumption) | assumption)) (of_decide_eq_true (by first | (with_reducible assumption) | assumption)) HC0.out; rw [HZ_ji4.out] at hcut14 hA14 hC14; have HR201 := Aside0.mk (Kd.C_of_reads (h1 := fun _ => rfl) (hA14 _ (Kd.reads_of_C HR0.out))); have HC201 := Aside0.mk hC14; clear hA14 hC14 hi014 hsz14; obtain ⟨i015, hi015, _, hsz15, _⟩ := info_parts info21; obtain ⟨hcut15, hA15, hC15⟩ := print_take_of (P := Try.prog) (Value.int .i32) 0 22 21 .i64 Try.underlying22 hi015 hsz15 A1 c1 l1 (ji7) (of_decide_eq_true (by first | (with_reducible assumption) | assumption)) (of_decide_eq_true (by first | (with_reducible assumption) | assumption)) HC1.out; rw [HZ_ji7.out] at hcut15 hA15 hC15; have HR202 := Aside0.mk (Kd.C_of_reads (h1 := fun _ => rfl) (hA15 _ (Kd.reads_of_C HR1.out))); have HC202 := Aside0.mk hC15; clear hA15 hC15 hi015 hsz15) | (go_at_call 12; (with_reducible refine (utf_Encode.calls k _ _ z_ji4 t203 t204 _ ?side1 ?side2 A10.out).mono ?_); (case side1 => repeat (first | exact (Kd.C_below HR201.out HB.out) | (with_reducible refine Kd.C_alloc ?_ _) | (with_reducible refine Kd.C_drewN ?_ _) | (with_reducible refine Kd.C_drew ?_))); (case side2 => exact HC201.out); rintro e w16 ⟨v205, rfl, ho0, hb⟩; have n0_ := Aside0.mk (Kd.R_lower ho0 (below_size (by repeat (first | (with_reducible first | exact HB.out | apply below_alloc | apply pw_below_drewN | apply below_drew1) | exact HB.out)))); have n1_ := Aside0.mk (below_step (by repeat (first | (with_reducible first | exact HB.out | apply below_alloc | apply pw_below_drewN | apply below_drew1) | exact HB.out)) hb); clear HB; have HO206 := n0_; have HB := n1_; clear n0_ n1_; (try clear hb); (try clear hb2); (try clear hk); (try clear hi); (try clear ho0)) | (go_at_call 12; (with_reducible refine (utf_Encode.calls k _ _ z_ji7 t207 t208 _ ?side1 ?side2 A11.out).mono ?_); (case side1 => repeat (first | exact (Kd.C_below HR202.out HB.out) | (with_reducible refine Kd.C_alloc ?_ _) | (with_reducible refine Kd.C_drewN ?_ _) | (with_reducible refine Kd.C_drew ?_))); (case side2 => exact HC202.out); rintro e w17 ⟨v209, rfl, ho0, hb⟩; have n0_ := Aside0.mk (Kd.R_elder' (by (with_reducible repeat (first | apply Kd.R_alloc | apply Kd.R_drewN | apply Kd.R_drew)); exact HO206.out) (Kd.R_base ho0) hb); have n1_ := Aside0.mk (Kd.R_lower (Kd.R_new' ho0 (Kd.R_lt (by (with_reducible repeat (first | apply Kd.R_alloc | apply Kd.R_drewN | apply Kd.R_drew)); exact HO206.out))) (below_size (by repeat (first | (with_reducible first | exact HB.out | apply below_alloc | apply pw_below_drewN | apply below_drew1) | exact HB.out)))); have n2_ := Aside0.mk (below_step (by repeat (first | (with_reducible first | exact HB.out | apply below_alloc | apply pw_below_drewN | apply below_drew1) | exact HB.out)) hb); clear HO206; clear HB; have HO206 := n0_; have HO210 := n1_; have HB := n2_; clear n0_ n1_ n2_; (try clear hb); (try clear hb2); (try clear hk); (try clear hi); (try clear ho0))))
          (try simp only [Act.put, List.setIfInBounds_toArray, List.set_cons_zero, List.set_cons_succ])
          go_cut [38] (fun v38 wc => ∃ (kq : Nat) (x38_11 : Bool), v38 = .bool x38_11 ∧ Aside0 (foolscaplaw01_UtfOrder.j0 kq z_ji4 z_ji7 t200 t203 t207 x38_11 = some r) ∧ Aside0 (kq ≤ k) ∧ Aside0 (Kd.R (Kd.int .u8) 5 wc w.heap.size (fun k_ => some k_ ≠ (v209 : Value).ownBlock) v205 t203) ∧ Aside0 (Kd.R (Kd.int .u8) 5 wc w.heap.size (fun k_ => some k_ ≠ (v205 : Value).ownBlock) v209 t207) ∧ Aside0 (Below w.heap.size w wc))
          case first =>
            have H := HC12.out
            clear HC12
            by_cases c18 : t204 = 0
            · rw [if_pos c18] at H
              have c18b0 : (t204 == 0) = true := beq_iff_eq.mpr c18
              have c18b1 : (t204 != 0) = false := bne_eq_false_iff_eq.mpr c18
              clear c18
              (first | rw [c18b0] | (simp only [i64_w, i32_w]; rw [c18b0]) | skip)
              have H' := Aside0.mk H
              clear H
              go_wp2
              repeat (go_quiet (fail); try go_wp2)
              go_meet
              case rel => exact ⟨_, ((t208 != 0)), (by first | rfl | (simp; done) | (simp [*]; done)), H', ⟨by first | omega | exact Nat.le_refl _⟩, ⟨by (with_reducible repeat (first | apply Kd.R_alloc | apply Kd.R_drewN | apply Kd.R_drew)); exact Kd.R_mono HO206.out (fun _ hk => hk.2)⟩, ⟨by (with_reducible repeat (first | apply Kd.R_alloc | apply Kd.R_drewN | apply Kd.R_drew)); exact Kd.R_mono HO210.out (fun _ hk => hk.2)⟩, ⟨by repeat (first | (with_reducible first | exact HB.out | apply below_alloc | apply pw_below_drewN | apply below_drew1) | exact HB.out)⟩⟩
            · rw [if_neg c18] at H
              have c18b0 : (t204 == 0) = false := beq_eq_false_iff_ne.mpr c18
              have c18b1 : (t204 != 0) = true := bne_iff_ne.mpr c18
              (first | rw [c18b0] | (simp only [i64_w, i32_w]; rw [c18b0]) | skip)
              have H' := Aside0.mk H
              clear H
              go_wp2
              repeat (go_quiet (fail); try go_wp2)
              go_meet
              case rel => exact ⟨_, (true), (by first | rfl | (simp; done) | (simp [*]; done)), H', ⟨by first | omega | exact Nat.le_refl _⟩, ⟨by (with_reducible repeat (first | apply Kd.R_alloc | apply Kd.R_drewN | apply Kd.R_drew)); exact Kd.R_mono HO206.out (fun _ hk => hk.2)⟩, ⟨by (with_reducible repeat (first | apply Kd.R_alloc | apply Kd.R_drewN | apply Kd.R_drew)); exact Kd.R_mono HO210.out (fun _ hk => hk.2)⟩, ⟨by repeat (first | (with_reducible first | exact HB.out | apply below_alloc | apply pw_below_drewN | apply below_drew1) | exact HB.out)⟩⟩
          case rest =>
            clear HC12
            try clear c1
            try clear p2
            try clear c5
            try clear c5b0
            try clear c5b1
            try clear c6
            try clear c6b0
            try clear c6b1
            try clear c7
            try clear c8
            try clear c8b0
            try clear c8b1
            try clear c9
            try clear c9b0
            try clear c9b1
            try clear c18
            try clear c18b0
            try clear c18b1
            obtain ⟨kq, x38_11, rfl, HA, HJ11, HO_6, HO_8, HB⟩ := hcut
            cases kq with
            | zero => exact absurd HA.out (by simp [foolscaplaw01_UtfOrder.j0])
            | succ kj11 =>
              have H := HA.out
              clear HA
              simp only [foolscaplaw01_UtfOrder.j0] at H
              by_cases c19 : x38_11 = true
              · subst c19
                have H1 : (some t200) = some r := by rw [if_pos rfl] at H; exact H
                clear H
                have H := H1
                clear H1
                obtain rfl := Option.some.inj H
                go_wp2
                repeat (go_quiet (fail); try go_wp2)
                go_ret
                exact ⟨by first | rfl | (simp [errW_none, errW_some] <;> rfl) | (simp only [← hji4, ← hji7]; first | rfl | (simp [errW_none, errW_some] <;> rfl)) | (simp [*, errW_none, errW_some] <;> rfl), by repeat (first | (with_reducible first | exact HB.out | apply below_alloc | apply pw_below_drewN | apply below_drew1) | exact HB.out)⟩
              · replace c19 := Bool.eq_false_iff.mpr c19
                subst c19
                have H1 : (foolscaplaw01_UtfOrder.l0 kj11 z_ji4 z_ji7 t200 t203 t207 (decide ((z_ji4.length : Int) < (z_ji7.length : Int))) 0) = some r := by rw [if_neg (show ¬ (false = true) by decide)] at H; exact H
                clear H
                have H := H1
                clear H1
                have H' := Aside0.mk H
                clear H
                go_wp2
                repeat (go_quiet (fail); try go_wp2)
                go_loopg [10, 11] kj11 (fun kq v10 v11 w' => ∃ (x10_2 : Bool) (x11_2 : Int), v10 = .bool x10_2 ∧ v11 = .int .i64 x11_2 ∧ Aside0 (foolscaplaw01_UtfOrder.l0 kq z_ji4 z_ji7 t200 t203 t207 x10_2 x11_2 = some r) ∧ Aside0 (kq ≤ kj11) ∧ Aside0 (Kd.R (Kd.int .u8) 5 w' w.heap.size (fun k_ => some k_ ≠ (v209 : Value).ownBlock) v205 t203) ∧ Aside0 (Kd.R (Kd.int .u8) 5 w' w.heap.size (fun k_ => some k_ ≠ (v205 : Value).ownBlock) v209 t207) ∧ Aside0 (Below w.heap.size w w'))
                case atStart => exact ⟨(decide ((z_ji4.length : Int) < (z_ji7.length : Int))), (0), (by first | rfl | (simp; done) | (simp only [← hji4, ← hji7] <;> (first | rfl | simp)) | (simp [*]; done)), (by first | rfl | (simp; done) | (simp [*]; done)), H', ⟨Nat.le_refl _⟩, ⟨by (with_reducible repeat (first | apply Kd.R_alloc | apply Kd.R_drewN | apply Kd.R_drew)); exact HO_6.out⟩, ⟨by (with_reducible repeat (first | apply Kd.R_alloc | apply Kd.R_drewN | apply Kd.R_drew)); exact HO_8.out⟩, ⟨by repeat (first | (with_reducible first | exact HB.out | apply below_alloc | apply pw_below_drewN | apply below_drew1) | exact HB.out)⟩⟩
                case round =>
                  clear H'
                  try clear c1
                  try clear p2
                  try clear c5
                  try clear c5b0
                  try clear c5b1
                  try clear c6
                  try clear c6b0
                  try clear c6b1
                  try clear c7
                  try clear c8
                  try clear c8b0
                  try clear c8b1
                  try clear c9
                  try clear c9b0
                  try clear c9b1
                  try clear c18
                  try clear c18b0
                  try clear c18b1
                  try clear c19
                  try clear p2
                  obtain ⟨x10_2, x11_2, rfl, rfl, HA, HK2, HO_6, HO_8, HB⟩ := hrel
                  cases gk with
                  | zero => exact absurd HA.out (by simp [foolscaplaw01_UtfOrder.l0])
                  | succ k2 =>
                    have H := HA.out
                    clear HA
                    simp only [foolscaplaw01_UtfOrder.l0] at H
                    have HC20 := Aside0.mk H
                    clear H
                    go_upto_region 10 with (fail)
                    repeat (go_quiet (fail); go_upto_region 10 with (fail))
                    go_cut [54] (fun v54 wc => ∃ (kq : Nat) (x54_19 : Bool), v54 = .bool x54_19 ∧ Aside0 (foolscaplaw01_UtfOrder.j2 kq z_ji4 z_ji7 t200 t203 t207 x10_2 x11_2 x54_19 = some r) ∧ Aside0 (kq ≤ k2) ∧ Aside0 (Kd.R (Kd.int .u8) 5 wc w.heap.size (fun k_ => some k_ ≠ (v209 : Value).ownBlock) v205 t203) ∧ Aside0 (Kd.R (Kd.int .u8) 5 wc w.heap.size (fun k_ => some k_ ≠ (v205 : Value).ownBlock) v209 t207) ∧ Aside0 (Below w.heap.size w wc))
                    case first =>
                      have H := HC20.out
                      clear HC20
                      by_cases c21 : x11_2 < (z_ji4.length : Int)
                      · rw [if_pos c21] at H
                        have c21b0 : decide (x11_2 < (z_ji4.length : Int)) = true := decide_eq_true c21
                        clear c21
                        (first | rw [c21b0] | (simp only [i64_w, i32_w]; rw [c21b0]) | skip)
                        have H' := Aside0.mk H
                        clear H
                        go_wp2
                        repeat (go_quiet (fail); try go_wp2)
                        go_meet
                        case rel => exact ⟨_, (decide (x11_2 < (z_ji7.length : Int))), (by first | rfl | (simp; done) | (simp only [← hji7] <;> (first | rfl | simp)) | (simp [*]; done)), H', ⟨by have := HJ11.out; have := HK2.out; first | omega | exact Nat.le_refl _⟩, ⟨by (with_reducible repeat (first | apply Kd.R_alloc | apply Kd.R_drewN | apply Kd.R_drew)); exact HO_6.out⟩, ⟨by (with_reducible repeat (first | apply Kd.R_alloc | apply Kd.R_drewN | apply Kd.R_drew)); exact HO_8.out⟩, ⟨by repeat (first | (with_reducible first | exact HB.out | apply below_alloc | apply pw_below_drewN | apply below_drew1) | exact HB.out)⟩⟩
                      · rw [if_neg c21] at H
                        have c21b0 : decide (x11_2 < (z_ji4.length : Int)) = false := decide_eq_false c21
                        clear c21
                        (first | rw [c21b0] | (simp only [i64_w, i32_w]; rw [c21b0]) | skip)
                        have H' := Aside0.mk H
                        clear H
                        go_wp2
                        repeat (go_quiet (fail); try go_wp2)
                        go_meet
                        case rel => exact ⟨_, (false), (by first | rfl | (simp; done) | (simp [*]; done)), H', ⟨by have := HJ11.out; have := HK2.out; first | omega | exact Nat.le_refl _⟩, ⟨by (with_reducible repeat (first | apply Kd.R_alloc | apply Kd.R_drewN | apply Kd.R_drew)); exact HO_6.out⟩, ⟨by (with_reducible repeat (first | apply Kd.R_alloc | apply Kd.R_drewN | apply Kd.R_drew)); exact HO_8.out⟩, ⟨by repeat (first | (with_reducible first | exact HB.out | apply below_alloc | apply pw_below_drewN | apply below_drew1) | exact HB.out)⟩⟩
                    case rest =>
                      clear HC20
                      try clear c1
                      try clear c2
                      try clear p2
                      try clear c5
                      try clear c5b0
                      try clear c5b1
                      try clear c6
                      try clear c6b0
                      try clear c6b1
                      try clear c7
                      try clear c8
                      try clear c8b0
                      try clear c8b1
                      try clear c9
                      try clear c9b0
                      try clear c9b1
                      try clear c18
                      try clear c18b0
                      try clear c18b1
                      try clear c19
                      try clear c21
                      try clear c21b0
                      try clear p2
                      obtain ⟨kq, x54_19, rfl, HA, HJ19, HO_6, HO_8, HB⟩ := hcut
                      cases kq with
                      | zero => exact absurd HA.out (by simp [foolscaplaw01_UtfOrder.j2])
                      | succ kj19 =>
                        have H := HA.out
                        clear HA
                        simp only [foolscaplaw01_UtfOrder.j2] at H
                        by_cases c22 : x54_19 = true
                        · subst c22
                          have H1 : (if 0 ≤ x11_2 then (if x11_2 < (z_ji4.length : Int) then (if x11_2 < (z_ji7.length : Int) then (if (rd z_ji4 x11_2) = (rd z_ji7 x11_2) then (foolscaplaw01_UtfOrder.l0 kj19 z_ji4 z_ji7 t200 t203 t207 x10_2 (wrap64 (x11_2 + 1))) else (if t200 = true then (some ((Op.bytesLess ((strOfNums t203).toList) ((strOfNums t207).toList)) == (decide ((rd z_ji4 x11_2) < (rd z_ji7 x11_2))))) else (some false))) else (none)) else (none)) else (none)) = some r := by rw [if_pos rfl] at H; exact H
                          clear H
                          have H := H1
                          clear H1
                          by_cases c23 : 0 ≤ x11_2
                          · rw [if_pos c23] at H
                            have c23b0 : decide (0 ≤ x11_2) = true := decide_eq_true c23
                            clear c23
                            by_cases c24 : x11_2 < (z_ji4.length : Int)
                            · rw [if_pos c24] at H
                              have c24b0 : decide (x11_2 < (z_ji4.length : Int)) = true := decide_eq_true c24
                              clear c24
                              by_cases c25 : x11_2 < (z_ji7.length : Int)
                              · rw [if_pos c25] at H
                                have c25b0 : decide (x11_2 < (z_ji7.length : Int)) = true := decide_eq_true c25
                                clear c25
                                by_cases c26 : (rd z_ji4 x11_2) = (rd z_ji7 x11_2)
                                · rw [if_pos c26] at H
                                  have c26b0 : ((rd z_ji4 x11_2) == (rd z_ji7 x11_2)) = true := beq_iff_eq.mpr c26
                                  have c26b1 : ((rd z_ji4 x11_2) != (rd z_ji7 x11_2)) = false := bne_eq_false_iff_eq.mpr c26
                                  clear c26
                                  have H' := Aside0.mk H
                                  clear H
                                  have p211 : 0 ≤ (x11_2 : Int) := of_decide_eq_true (by first | (with_reducible assumption) | assumption)
                                  have q211 : x11_2 < (z_ji4.length : Int) := of_decide_eq_true (by first | (with_reducible assumption) | assumption)
                                  obtain ⟨ad211, e211, hx211_0⟩ := Kd.at_int HR201.out x11_2 p211 q211
                                  cases e211
                                  replace hx211_0 := (HB.out.cell (World.block_lt_of_cell? w _ hx211_0)).trans hx211_0
                                  replace p211 := eq_true p211
                                  replace q211 := eq_true q211
                                  have p212 : 0 ≤ (x11_2 : Int) := of_decide_eq_true (by first | (with_reducible assumption) | assumption)
                                  have q212 : x11_2 < (z_ji7.length : Int) := of_decide_eq_true (by first | (with_reducible assumption) | assumption)
                                  obtain ⟨ad212, e212, hx212_0⟩ := Kd.at_int HR202.out x11_2 p212 q212
                                  cases e212
                                  replace hx212_0 := (HB.out.cell (World.block_lt_of_cell? w _ hx212_0)).trans hx212_0
                                  replace p212 := eq_true p212
                                  replace q212 := eq_true q212
                                  go_wp2
                                  repeat (go_quiet (fail); try go_wp2)
                                  go_roundg kj19
                                  case measure => have := HJ11.out; have := HK2.out; have := HJ19.out; omega
                                  case rel => exact ⟨(x10_2), (wrap64 (x11_2 + 1)), (by first | rfl | (simp; done) | (simp [*]; done)), (by first | rfl | (simp; done) | (simp [*]; done)), H', ⟨by have := HJ11.out; have := HK2.out; have := HJ19.out; omega⟩, ⟨by (with_reducible repeat (first | apply Kd.R_alloc | apply Kd.R_drewN | apply Kd.R_drew)); exact HO_6.out⟩, ⟨by (with_reducible repeat (first | apply Kd.R_alloc | apply Kd.R_drewN | apply Kd.R_drew)); exact HO_8.out⟩, ⟨by repeat (first | (with_reducible first | exact HB.out | apply below_alloc | apply pw_below_drewN | apply below_drew1) | exact HB.out)⟩⟩
                                · rw [if_neg c26] at H
                                  have c26b0 : ((rd z_ji4 x11_2) == (rd z_ji7 x11_2)) = false := beq_eq_false_iff_ne.mpr c26
                                  have c26b1 : ((rd z_ji4 x11_2) != (rd z_ji7 x11_2)) = true := bne_iff_ne.mpr c26
                                  by_cases c27 : t200 = true
                                  · subst c27
                                    have H1 : (some ((Op.bytesLess ((strOfNums t203).toList) ((strOfNums t207).toList)) == (decide ((rd z_ji4 x11_2) < (rd z_ji7 x11_2))))) = some r := by rw [if_pos rfl] at H; exact H
                                    clear H
                                    have H := H1
                                    clear H1
                                    obtain rfl := Option.some.inj H
                                    have p211 : 0 ≤ (x11_2 : Int) := of_decide_eq_true (by first | (with_reducible assumption) | assumption)
                                    have q211 : x11_2 < (z_ji4.length : Int) := of_decide_eq_true (by first | (with_reducible assumption) | assumption)
                                    obtain ⟨ad211, e211, hx211_0⟩ := Kd.at_int HR201.out x11_2 p211 q211
                                    cases e211
                                    replace hx211_0 := (HB.out.cell (World.block_lt_of_cell? w _ hx211_0)).trans hx211_0
                                    replace p211 := eq_true p211
                                    replace q211 := eq_true q211
                                    have p212 : 0 ≤ (x11_2 : Int) := of_decide_eq_true (by first | (with_reducible assumption) | assumption)
                                    have q212 : x11_2 < (z_ji7.length : Int) := of_decide_eq_true (by first | (with_reducible assumption) | assumption)
                                    obtain ⟨ad212, e212, hx212_0⟩ := Kd.at_int HR202.out x11_2 p212 q212
                                    cases e212
                                    replace hx212_0 := (HB.out.cell (World.block_lt_of_cell? w _ hx212_0)).trans hx212_0
                                    replace p212 := eq_true p212
                                    replace q212 := eq_true q212
                                    have p213 : 0 ≤ (x11_2 : Int) := of_decide_eq_true (by first | (with_reducible assumption) | assumption)
                                    have q213 : x11_2 < (z_ji4.length : Int) := of_decide_eq_true (by first | (with_reducible assumption) | assumption)
                                    obtain ⟨ad213, e213, hx213_0⟩ := Kd.at_int HR201.out x11_2 p213 q213
                                    obtain rfl : ad211 = ad213 := (by injection e213)
                                    replace hx213_0 := (HB.out.cell (World.block_lt_of_cell? w _ hx213_0)).trans hx213_0
                                    replace p213 := eq_true p213
                                    replace q213 := eq_true q213
                                    have p214 : 0 ≤ (x11_2 : Int) := of_decide_eq_true (by first | (with_reducible assumption) | assumption)
                                    have q214 : x11_2 < (z_ji7.length : Int) := of_decide_eq_true (by first | (with_reducible assumption) | assumption)
                                    obtain ⟨ad214, e214, hx214_0⟩ := Kd.at_int HR202.out x11_2 p214 q214
                                    obtain rfl : ad212 = ad214 := (by injection e214)
                                    replace hx214_0 := (HB.out.cell (World.block_lt_of_cell? w _ hx214_0)).trans hx214_0
                                    replace p214 := eq_true p214
                                    replace q214 := eq_true q214
                                    have hcv28d := fun n : Nat => own_string (P := Try.prog) Try.underlying23 Try.underlying5 Try.underlying9 (Kd.own_of_R (Kd.R_drewN HO_6.out n)); have hcv28 := own_string (P := Try.prog) Try.underlying23 Try.underlying5 Try.underlying9 (Kd.own_of_R HO_6.out)
                                    have hcv29d := fun n : Nat => own_string (P := Try.prog) Try.underlying23 Try.underlying5 Try.underlying9 (Kd.own_of_R (Kd.R_drewN HO_8.out n)); have hcv29 := own_string (P := Try.prog) Try.underlying23 Try.underlying5 Try.underlying9 (Kd.own_of_R HO_8.out)
                                    go_wp2
                                    repeat (go_quiet (fail); try go_wp2)
                                    go_ret
                                    exact ⟨by first | rfl | (simp [errW_none, errW_some] <;> rfl) | (simp only [← hji4, ← hji7]; first | rfl | (simp [errW_none, errW_some] <;> rfl)) | (simp [*, errW_none, errW_some] <;> rfl), by repeat (first | (with_reducible first | exact HB.out | apply below_alloc | apply pw_below_drewN | apply below_drew1) | exact HB.out)⟩
                                  · replace c27 := Bool.eq_false_iff.mpr c27
                                    subst c27
                                    have H1 : (some false) = some r := by rw [if_neg (show ¬ (false = true) by decide)] at H; exact H
                                    clear H
                                    have H := H1
                                    clear H1
                                    obtain rfl := Option.some.inj H
                                    have p211 : 0 ≤ (x11_2 : Int) := of_decide_eq_true (by first | (with_reducible assumption) | assumption)
                                    have q211 : x11_2 < (z_ji4.length : Int) := of_decide_eq_true (by first | (with_reducible assumption) | assumption)
                                    obtain ⟨ad211, e211, hx211_0⟩ := Kd.at_int HR201.out x11_2 p211 q211
                                    cases e211
                                    replace hx211_0 := (HB.out.cell (World.block_lt_of_cell? w _ hx211_0)).trans hx211_0
                                    replace p211 := eq_true p211
                                    replace q211 := eq_true q211
                                    have p212 : 0 ≤ (x11_2 : Int) := of_decide_eq_true (by first | (with_reducible assumption) | assumption)
                                    have q212 : x11_2 < (z_ji7.length : Int) := of_decide_eq_true (by first | (with_reducible assumption) | assumption)
                                    obtain ⟨ad212, e212, hx212_0⟩ := Kd.at_int HR202.out x11_2 p212 q212
                                    cases e212
                                    replace hx212_0 := (HB.out.cell (World.block_lt_of_cell? w _ hx212_0)).trans hx212_0
                                    replace p212 := eq_true p212
                                    replace q212 := eq_true q212
                                    have p213 : 0 ≤ (x11_2 : Int) := of_decide_eq_true (by first | (with_reducible assumption) | assumption)
                                    have q213 : x11_2 < (z_ji4.length : Int) := of_decide_eq_true (by first | (with_reducible assumption) | assumption)
                                    obtain ⟨ad213, e213, hx213_0⟩ := Kd.at_int HR201.out x11_2 p213 q213
                                    obtain rfl : ad211 = ad213 := (by injection e213)
                                    replace hx213_0 := (HB.out.cell (World.block_lt_of_cell? w _ hx213_0)).trans hx213_0
                                    replace p213 := eq_true p213
                                    replace q213 := eq_true q213
                                    have p214 : 0 ≤ (x11_2 : Int) := of_decide_eq_true (by first | (with_reducible assumption) | assumption)
                                    have q214 : x11_2 < (z_ji7.length : Int) := of_decide_eq_true (by first | (with_reducible assumption) | assumption)
                                    obtain ⟨ad214, e214, hx214_0⟩ := Kd.at_int HR202.out x11_2 p214 q214
                                    obtain rfl : ad212 = ad214 := (by injection e214)
                                    replace hx214_0 := (HB.out.cell (World.block_lt_of_cell? w _ hx214_0)).trans hx214_0
                                    replace p214 := eq_true p214
                                    replace q214 := eq_true q214
                                    go_wp2
                                    repeat (go_quiet (fail); try go_wp2)
                                    go_ret
                                    exact ⟨by first | rfl | (simp [errW_none, errW_some] <;> rfl) | (simp only [← hji4, ← hji7]; first | rfl | (simp [errW_none, errW_some] <;> rfl)) | (simp [*, errW_none, errW_some] <;> rfl), by repeat (first | (with_reducible first | exact HB.out | apply below_alloc | apply pw_below_drewN | apply below_drew1) | exact HB.out)⟩
                              · rw [if_neg c25] at H
                                exact absurd H (by simp)
                            · rw [if_neg c24] at H
                              exact absurd H (by simp)
                          · rw [if_neg c23] at H
                            exact absurd H (by simp)
                        · replace c22 := Bool.eq_false_iff.mpr c22
                          subst c22
                          have H1 : (if t200 = true then (some ((Op.bytesLess ((strOfNums t203).toList) ((strOfNums t207).toList)) == x10_2)) else (some false)) = some r := by rw [if_neg (show ¬ (false = true) by decide)] at H; exact H
                          clear H
                          have H := H1
                          clear H1
                          by_cases c30 : t200 = true
                          · subst c30
                            have H1 : (some ((Op.bytesLess ((strOfNums t203).toList) ((strOfNums t207).toList)) == x10_2)) = some r := by rw [if_pos rfl] at H; exact H
                            clear H
                            have H := H1
                            clear H1
                            obtain rfl := Option.some.inj H
                            have hcv31d := fun n : Nat => own_string (P := Try.prog) Try.underlying23 Try.underlying5 Try.underlying9 (Kd.own_of_R (Kd.R_drewN HO_6.out n)); have hcv31 := own_string (P := Try.prog) Try.underlying23 Try.underlying5 Try.underlying9 (Kd.own_of_R HO_6.out)
                            have hcv32d := fun n : Nat => own_string (P := Try.prog) Try.underlying23 Try.underlying5 Try.underlying9 (Kd.own_of_R (Kd.R_drewN HO_8.out n)); have hcv32 := own_string (P := Try.prog) Try.underlying23 Try.underlying5 Try.underlying9 (Kd.own_of_R HO_8.out)
                            go_wp2
                            repeat (go_quiet (fail); try go_wp2)
                            go_ret
                            exact ⟨by first | rfl | (simp [errW_none, errW_some] <;> rfl) | (simp only [← hji4, ← hji7]; first | rfl | (simp [errW_none, errW_some] <;> rfl)) | (simp [*, errW_none, errW_some] <;> rfl), by repeat (first | (with_reducible first | exact HB.out | apply below_alloc | apply pw_below_drewN | apply below_drew1) | exact HB.out)⟩
                          · replace c30 := Bool.eq_false_iff.mpr c30
                            subst c30
                            have H1 : (some false) = some r := by rw [if_neg (show ¬ (false = true) by decide)] at H; exact H
                            clear H
                            have H := H1
                            clear H1
                            obtain rfl := Option.some.inj H
                            go_wp2
                            repeat (go_quiet (fail); try go_wp2)
                            go_ret
                            exact ⟨by first | rfl | (simp [errW_none, errW_some] <;> rfl) | (simp only [← hji4, ← hji7]; first | rfl | (simp [errW_none, errW_some] <;> rfl)) | (simp [*, errW_none, errW_some] <;> rfl), by repeat (first | (with_reducible first | exact HB.out | apply below_alloc | apply pw_below_drewN | apply below_drew1) | exact HB.out)⟩
        · rw [if_neg c9] at H
          exact absurd H (by simp)
      · rw [if_neg c8] at H
        exact absurd H (by simp)
    · rw [if_neg c6] at H
      exact absurd H (by simp)
  · rw [if_neg c5] at H
    exact absurd H (by simp)

/-- THE ONE PURE STATEMENT of foolscaplaw01_UtfOrder: yours. -/
def foolscaplaw01_UtfOrder.Pure : Prop := ∀ (l0 : List Int) (l1 : List Int), l0.length ≤ maxLen → l0.length * 4 ≤ 140737488351232 → (∀ x ∈ l0, (Lit.int .i32 x).wf = true) → l1.length ≤ maxLen → l1.length * 4 ≤ 140737488351232 → (∀ x ∈ l1, (Lit.int .i32 x).wf = true) → ∃ k, foolscaplaw01_UtfOrder.f k l0 l1 = some true
theorem foolscaplaw01_UtfOrder.walk (P : foolscaplaw01_UtfOrder.Pure) (a0 : Option Addr) (len0 cap0 : Nat) (z0 : List Int) (a1 : Option Addr) (len1 cap1 : Nat) (z1 : List Int) (w : World) (w0 : (a0 = none ∧ len0 = 0 ∧ cap0 = 0 ∧ z0 = []) ∨ ∃ x, a0 = some x ∧ len0 ≤ cap0 ∧ cap0 ≤ maxLen ∧ z0.length = cap0 ∧ (∀ i, i < z0.length → w.cell? (x.add i) = some (.int .i32 (z0.getD i 0))) ∧ ∀ n ∈ z0, (Lit.int .i32 n).wf = true) (y0 : len0 * 4 ≤ 140737488351232) (w1 : (a1 = none ∧ len1 = 0 ∧ cap1 = 0 ∧ z1 = []) ∨ ∃ x, a1 = some x ∧ len1 ≤ cap1 ∧ cap1 ≤ maxLen ∧ z1.length = cap1 ∧ (∀ i, i < z1.length → w.cell? (x.add i) = some (.int .i32 (z1.getD i 0))) ∧ ∀ n ∈ z1, (Lit.int .i32 n).wf = true) (y1 : len1 * 4 ≤ 140737488351232) :
    Calls Try.prog 7 #[.slice a0 len0 cap0, .slice a1 len1 cap1] w fun e w' => e = .returned (.bool true) ∧ Below w.heap.size w w' := by
  obtain ⟨l0, rfl, hr0, hm0, hw0, hc0⟩ := ReadsInt.ofRowC w0
  obtain ⟨l1, rfl, hr1, hm1, hw1, hc1⟩ := ReadsInt.ofRowC w1
  obtain ⟨k, h⟩ := P l0 l1 hm0 y0 hw0 hm1 y1 hw1
  refine (foolscaplaw01_UtfOrder.calls k _ _ l0 _ _ l1 true w (Kd.C_of_reads (d := (0 : Int)) (h1 := fun _ => rfl) hr0) hc0 (Kd.C_of_reads (d := (0 : Int)) (h1 := fun _ => rfl) hr1) hc1 h).mono ?_
  rintro e w' ⟨rfl, hd⟩
  exact ⟨rfl, hd⟩

end Go.Proofs.Ytdbpeaadnhiekaa.PU
