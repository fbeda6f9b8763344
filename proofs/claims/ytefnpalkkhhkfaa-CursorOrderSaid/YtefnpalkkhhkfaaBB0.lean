/- A part of the proof of cursorOrder_holds: its texts, one behind the other, as far as the proof stands on them. (Lines of its texts on the printed words and functions began as lines that a program of the kit had written for this statement.) -/
import Derived.ArgAppend
import Derived.Below
import Derived.BigQuiet
import Derived.BigRegion
import Derived.ChangeMaps4
import Derived.ChangeMaps5
import Derived.Deep.AppendLies
import Derived.Deep.CutBlock
import Derived.Deep.CutRange
import Derived.Deep.DeepCutAuto
import Derived.Deep.DrawnRows
import Derived.Deep.Draws
import Derived.Deep.LoopGhost
import Derived.Deep.OwnRows
import Derived.Deep.QuietTactic
import Derived.Deep.RegionHeld3
import Derived.Deep.RegionLaw
import Derived.Deep.RegionWith
import Derived.KernelRfl
import Derived.Laws.BitsLemmas
import Derived.Laws.BytesArg
import Derived.Laws.CopyRow
import Derived.Laws.Cover4
import Derived.Laws.Externs
import Derived.Laws.IdiomCopy
import Derived.Laws.MakeOwn
import Derived.Laws.NewBlocks
import Derived.Laws.OwnMore
import Derived.Laws.Rows
import Derived.Laws.Slices
import Derived.Laws.StructEq
import Derived.Lib.AppendStr
import Derived.Lib.AppendZeros
import Derived.Lib.AppendZerosOnto
import Derived.Lib.ConvBytes
import Derived.Lib.Hide
import Derived.Lib.JoinLaws
import Derived.Lib.Overlaps
import Derived.Lib.Walk
import Derived.MapKept
import Derived.Maps.AppendAt
import Derived.OpenShut
import Derived.OrdersHeld
import Derived.OwnWalk
import Derived.RegionTactic
import Derived.RowKit
import Derived.RowKit3
import Derived.StillTail
import Derived.StillTailTactics
import Derived.Tactics
import Derived.Test.YtefnpalkkhhkfaaProg
import Derived.WalkKit
import Derived.WalkSpells
import Derived.WideLaws
import Derived.Test.YtefnpalkkhhkfaaBA10
namespace Go.Proofs.Ytefnpalkkhhkfaa.PC
open Go.RowKit Go.Proofs.YtefnpalkkhhkfaaW.PrintWords Go.Proofs.YtefnpalkkhhkfaaW.PrintLast Go.Proofs.YtefnpalkkhhkfaaW.PrintMore Go.Proofs.Ytefnpalkkhhkfaa.K Go.Proofs.Ytefnpalkkhhkfaa.IX Go.Proofs.Ytefnpalkkhhkfaa.I
attribute [local go_sem] max2_int min2_int max_two min_two max_three min_three max_four min_four
set_option linter.unusedVariables false
set_option linter.unusedSimpArgs false
theorem cell_bool18 {w wr : World} {A : Option Addr} {l : List Bool} (h : Kd.C Kd.bool w A l.length l) (hb : Below w.heap.size w wr) (i : Nat) (hi : i < l.length) : ∃ ad, A = some ad ∧ wr.cell? (ad.add i) = some (.bool (bAt l i)) := by
  obtain ⟨ad, e, hc⟩ := h.2.2 (by omega)
  obtain ⟨cs, h1, h2, hcell⟩ := hc i _ (List.getElem?_eq_getElem hi)
  obtain rfl : cs = [.bool l[i]] := h2
  have h0 := hcell 0 _ rfl
  have h0 : w.cell? (ad.add i) = some (.bool l[i]) := by
    have e2 : i * Kd.bool.sz + 0 = i := by show i * 1 + 0 = i; omega
    rw [e2] at h0; exact h0
  have e3 : bAt l i = l[i] := by unfold bAt; simp [hi]
  rw [e3]
  exact ⟨ad, e, (hb.cell (World.block_lt_of_cell? w _ h0)).trans h0⟩
theorem order_right {b : List Bool} {p : Nat} {at_ : Int} (h : SnapP b ((p : Int) - 1) at_) (ha : at_ ≤ (p : Int) - 1) (hp : bAt b p = true) : RightP b at_ (p : Int) :=
  .inl ⟨by omega, by omega, by simpa using hp, fun j hj hlt => by
    apply Decidable.byContradiction
    intro hc
    have := h.2.2 j hj (by omega)
    omega⟩
theorem order_snap {b : List Bool} {p : Nat} (hp : bAt b p = true) : SnapP b (p : Int) (p : Int) := ⟨by omega, .inr ⟨by simpa using hp, Int.le_refl _⟩, fun j _ h => h⟩
theorem order_skip {b : List Bool} {p : Nat} {at_ : Int} (h : SnapP b ((p : Int) - 1) at_) (hp : bAt b p = false) : SnapP b (p : Int) at_ := by
  obtain ⟨h1, h2, h3⟩ := h
  refine ⟨h1, ?_, fun j hj hle => ?_⟩
  · rcases h2 with h2 | ⟨h2, h4⟩
    · exact .inl h2
    · exact .inr ⟨h2, by omega⟩
  · by_cases he : j = p
    · subst he; rw [hp] at hj; cases hj
    · exact h3 j hj (by omega)
theorem order_end {b : List Bool} {at_ : Int} (h : SnapP b ((b.length : Int) - 1) at_) (hb : 0 < b.length) : RightP b at_ ((b.length : Int) - 1) ∧ SnapP b ((b.length : Int) + 5) at_ := by
  obtain ⟨h1, h2, h3⟩ := h
  have hk : ∀ j : Nat, bAt b j = true → (j : Int) ≤ at_ := fun j hj => h3 j hj (by have := bAt_lt hj; omega)
  refine ⟨.inr ⟨hk, ?_⟩, h1, ?_, fun j hj _ => hk j hj⟩
  · unfold mx
    split <;> omega
  · rcases h2 with h2 | ⟨h2, h4⟩
    · exact .inl h2
    · exact .inr ⟨h2, by omega⟩
set_option maxHeartbeats 8000000 in
set_option maxRecDepth 100000 in
theorem order18_row (A : Option Addr) (cap : Nat) (b0 : List Bool) (w : World) (hr : Kd.C Kd.bool w A b0.length b0) (hc : b0.length ≤ cap) (hy : b0.length * 1 ≤ 140737488351232) (hg : ∀ y ∈ b0, True) :
    Calls Try.prog 6 #[.slice A b0.length cap] w fun e w' => e = .returned (.bool true) ∧ Below w.heap.size w w' := by
  obtain ⟨len, hlen⟩ : ∃ len, b0.length = len := ⟨_, rfl⟩
  obtain ⟨N, hN⟩ : ∃ N, min len 200 = N := ⟨_, rfl⟩
  have C1 := Kd.C_take (m := N) hr (by omega)
  have hbl : (b0.take N).length = N := by rw [List.length_take]; omega
  generalize b0.take N = b at C1 hbl
  have hl : b.length ≤ 100000 := by omega
  have hcb : b.length ≤ cap := by omega
  have KS := Lib.hid (fun W p r hb (k : SnapP b p r) => snap_nm C1 hcb hl hbl (W := W) hb k)
  have KL := Lib.hid (fun W p r hb hp (k : SnapP b (p - 1) r) => left_nm C1 hcb hl hbl (W := W) hb hp k)
  have KR := Lib.hid (fun W p r hb (k : RightP b p r) => right_nm C1 hcb hl hbl (W := W) hb k)
  have HC1 := Lib.hid C1
  have HBL := Lib.hid hbl
  have HSH := Lib.hid (shown18_calls w)
  have hA1 := cut0 A cap
  rw [hlen] at hc hy ⊢
  have hmn : (if (len : Int) < 200 then (len : Int) else 200) = (N : Int) := by split <;> omega
  have hmn2 : (if (200 : Int) < (len : Int) then (200 : Int) else (len : Int)) = (N : Int) := by split <;> omega
  have hN1 : N ≤ len := by omega
  have hNc : N ≤ cap := by omega
  have hN9 : N ≤ 200 := by omega
  have hlz : N = 0 → len = 0 := by omega
  clear hr hg hlen hN C1 hbl hl hcb
  by_cases hz : N = 0
  · subst hz
    obtain rfl : len = 0 := hlz rfl
    clear hmn hmn2 hN1 hNc hN9 hlz
    have hbn : b = [] := List.eq_nil_of_length_eq_zero HBL.out
    have q1 : RightP b 0 0 := by rw [hbn]; exact .inr ⟨fun j hj => by have := bAt_lt hj; simp at this, rfl⟩
    have q2 : SnapP b (0 - 1) 0 := by rw [hbn]; exact ⟨Int.le_refl _, .inl rfl, fun j hj _ => by have := bAt_lt hj; simp at this⟩
    have q3 : SnapP b 5 0 := by rw [hbn]; exact ⟨Int.le_refl _, .inl rfl, fun j hj _ => by have := bAt_lt hj; simp at this⟩
    have Q1 := Lib.hid q1
    have Q2 := Lib.hid q2
    have Q3 := Lib.hid q3
    clear hbn q1 q2 q3
    go_enter Try.func6, Try.ntmps6
    go_wp2_with (first
      | (go_at_call 9; refine HSH.out.mono ?_; rintro e w1 ⟨rfl, hb⟩; have HB1 := Lib.hid hb; clear hb)
      | (go_at_call 19; refine (KR.out _ _ _ HB1.out Q1.out).mono ?_; rintro e w2 ⟨rfl, hb⟩; have HB2 := Lib.hid (below_step HB1.out hb); clear hb)
      | (go_at_call 17; refine (KL.out _ _ _ HB2.out (by decide) Q2.out).mono ?_; rintro e w3 ⟨rfl, hb⟩; have HB3 := Lib.hid (below_step HB2.out hb); clear hb)
      | (go_at_call 15; refine (KS.out _ _ _ HB3.out Q3.out).mono ?_; rintro e w4 ⟨rfl, hb⟩; have HB4 := Lib.hid (below_step HB3.out hb); clear hb))
    go_ret
    exact ⟨rfl, HB4.out⟩
  · clear hlz
    have hnz : ((N : Int) == 0) = false := by simp; omega
    have H00 : SnapP b 0 0 := ⟨Int.le_refl _, .inl rfl, fun j _ h => h⟩
    have HS0 := Lib.hid H00
    clear H00
    go_enter Try.func6, Try.ntmps6
    go_wp2_with (go_at_call 9; refine HSH.out.mono ?_; rintro e w1 ⟨rfl, hb⟩; have HB1 := Lib.hid hb; clear hb)
    go_loopg [4, 5] (N - 1) (fun kq v4 v5 wr => ∃ (i a : Nat), v4 = .int .i64 (a : Int) ∧ v5 = .int .i64 (i : Int) ∧ Aside0 (kq + i = N ∧ 1 ≤ i ∧ a + 1 ≤ i ∧ SnapP b ((i : Int) - 1) (a : Int) ∧ Below w.heap.size w wr))
    case atStart => exact ⟨1, 0, rfl, rfl, by omega, Nat.le_refl _, Nat.le_refl _, HS0.out, HB1.out⟩
    case round =>
      obtain ⟨i, a, rfl, rfl, HI⟩ := hrel
      have hki := HI.out.1
      have hi1 := HI.out.2.1
      have hai := HI.out.2.2.1
      have HSN := Lib.hid HI.out.2.2.2.1
      have HBW := Lib.hid HI.out.2.2.2.2
      by_cases hlt : i < N
      · have hil : i < b.length := by rw [HBL.out]; exact hlt
        have hd1 : decide (i < N) = true := by simpa using hlt
        obtain ⟨ad, rfl, c0⟩ := cell_bool18 HC1.out HBW.out i hil
        cases hv : bAt b i with
        | false =>
          have HNX := Lib.hid (order_skip HSN.out hv)
          rw [hv] at c0
          clear hv HI
          go_wp2
          go_roundg (N - (i + 1))
          case measure => omega
          case rel => exact ⟨i + 1, a, rfl, by go_num, by omega, by omega, by omega, by rw [show ((i + 1 : Nat) : Int) - 1 = (i : Int) by omega]; exact HNX.out, HBW.out⟩
        | true =>
          have Q1 := Lib.hid (order_right HSN.out (by omega) hv)
          have Q2 := Lib.hid (order_snap hv)
          rw [hv] at c0
          clear hv HI
          go_wp2_with (first
            | (go_at_call 19; refine (KR.out _ _ _ HBW.out Q1.out).mono ?_; rintro e w2 ⟨rfl, hb⟩; have HB2 := Lib.hid (below_step HBW.out hb); clear hb)
            | (go_at_call 15; refine (KS.out _ _ _ HB2.out Q2.out).mono ?_; rintro e w3 ⟨rfl, hb⟩; have HB3 := Lib.hid (below_step HB2.out hb); clear hb)
            | (go_at_call 17; refine (KL.out _ _ _ HB3.out (by omega) HSN.out).mono ?_; rintro e w4 ⟨rfl, hb⟩; have HB4 := Lib.hid (below_step HB3.out hb); clear hb))
          go_roundg (N - (i + 1))
          case measure => omega
          case rel => exact ⟨i + 1, i, rfl, by go_num, by omega, by omega, by omega, by rw [show ((i + 1 : Nat) : Int) - 1 = (i : Int) by omega]; exact Q2.out, HB4.out⟩
      · obtain rfl : i = N := by omega
        have hd1 : decide (i < i) = false := by simp
        obtain ⟨q1, q2⟩ := order_end (b := b) (at_ := (a : Int)) (by rw [HBL.out]; exact HSN.out) (by rw [HBL.out]; omega)
        rw [HBL.out] at q1 q2
        have Q1 := Lib.hid q1
        have Q2 := Lib.hid q2
        have hw1 : IntKind.i64.wrap ((i : Int) - 1) = (i : Int) - 1 := by rw [IntKind.wrap_i64]; omega
        have hw2 : IntKind.i64.wrap ((i : Int) + 5) = (i : Int) + 5 := by rw [IntKind.wrap_i64]; omega
        clear q1 q2 HI
        go_wp2_with (first
          | (go_at_call 19; refine (KR.out _ _ _ HBW.out Q1.out).mono ?_; rintro e w2 ⟨rfl, hb⟩; have HB2 := Lib.hid (below_step HBW.out hb); clear hb)
          | (go_at_call 15; refine (KS.out _ _ _ HB2.out Q2.out).mono ?_; rintro e w3 ⟨rfl, hb⟩; have HB3 := Lib.hid (below_step HB2.out hb); clear hb))
        go_ret
        exact ⟨rfl, HB3.out⟩
end Go.Proofs.Ytefnpalkkhhkfaa.PC
