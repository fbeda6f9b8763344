/- A part of the proof of rgaFront_holds: its texts, one behind the other, as far as the proof stands on them. (Lines of its texts on the printed words and functions began as lines that a program of the kit had written for this statement.) -/
import Derived.ArgAppend
import Derived.Below
import Derived.BigQuiet
import Derived.BigRegion
import Derived.ChangeMaps4
import Derived.ChangeMaps5
import Derived.Deep.AppendLies
import Derived.Deep.CutBlock
import Derived.Deep.CutRange
import Derived.Deep.DeepCutAuto
import Derived.Deep.DrawnRows
import Derived.Deep.Draws
import Derived.Deep.LoopGhost
import Derived.Deep.OwnRows
import Derived.Deep.QuietTactic
import Derived.Deep.RegionHeld3
import Derived.Deep.RegionLaw
import Derived.Deep.RegionWith
import Derived.KernelRfl
import Derived.Laws.BitsLemmas
import Derived.Laws.BytesArg
import Derived.Laws.CopyRow
import Derived.Laws.Externs
import Derived.Laws.IdiomCopy
import Derived.Laws.MakeOwn
import Derived.Laws.NewBlocks
import Derived.Laws.OwnMore
import Derived.Laws.Rows
import Derived.Laws.Slices
import Derived.Laws.StructEq
import Derived.Lib.AppendStr
import Derived.Lib.AppendZerosOnto
import Derived.Lib.ConvBytes
import Derived.Lib.Hide
import Derived.Lib.JoinLaws
import Derived.Lib.Overlaps
import Derived.Lib.Walk
import Derived.MapKept
import Derived.Maps.AppendAt
import Derived.OrdersHeld
import Derived.OwnWalk
import Derived.RegionTactic
import Derived.RowKit
import Derived.RowKit3
import Derived.StillTailTactics
import Derived.Tactics
import Derived.Test.YtehdjdediobemaaProg
import Derived.WalkKit
import Derived.WalkSpells
import Derived.WideLaws
import Derived.Test.YtehdjdediobemaaBF6
namespace Go.Proofs.Ytehdjdediobemaa.PC
open Go.RowKit Go.Proofs.YtehdjdediobemaaW.PrintWords Go.Proofs.YtehdjdediobemaaW.PrintLast Go.Proofs.YtehdjdediobemaaW.PrintMore Go.Proofs.Ytehdjdediobemaa.K Go.Proofs.Ytehdjdediobemaa.IX
attribute [local go_sem] max2_int min2_int max_two min_two max_three min_three max_four min_four
attribute [local go_sem high] eqA31
set_option linter.unusedVariables false
set_option linter.unusedSimpArgs false
/-- What insert does to a text. -/
def InsertPost (w : World) (F : List Nat) (p : Nat) (T : TS) (n : Nat) (o : S34) (e : Ending) (w' : World) : Prop :=
  e = .returned (.tuple #[]) ∧ InsertFin w F p T (skT T.l n o) o w'
set_option maxHeartbeats 4000000 in
set_option maxRecDepth 100000 in
theorem insert_calls (w : World) (F : List Nat) (p : Nat) (T : TS) (n : Nat) (o : S34) (h : Tx w F p T) (hn : n ≤ T.l.length) (hl : T.l.length ≤ 500000) :
    Calls Try.prog 44 #[.pointer (some ⟨p, 0, none⟩), .int .i64 (n : Int), opV o] w (InsertPost w F p T n o) := by
  obtain ⟨A1, c1, x, A2, c2, A3, c3, mb, FI, h0, h1, h2, h3, h4, h5, ⟨hc, hr⟩, _⟩ := h.read
  have HT := Lib.hid h
  have HR := Lib.hid hr
  have hp := World.block_lt_of_cell? w _ h0
  have hp1 := World.block_lt_of_cell? w _ h1
  obtain ⟨⟨o0, o1⟩, o2, o3, ⟨o4, o5⟩, o6⟩ := o
  have hbw : Below w.heap.size w (w.alloc (.cells #[.int .i64 o0, .int .i64 o1, .int .i64 o2, .bool o3, .int .i64 o4, .int .i64 o5, .int .i32 o6] 34)) := (Below.refl _ w).alloc (Nat.le_refl _) _
  have g0 := (cell_of (heap_new w (.cells #[.int .i64 o0, .int .i64 o1, .int .i64 o2, .bool o3, .int .i64 o4, .int .i64 o5, .int .i32 o6] 34)) 0).trans rfl
  obtain ⟨W1, hW1⟩ : ∃ W1, w.alloc (.cells #[.int .i64 o0, .int .i64 o1, .int .i64 o2, .bool o3, .int .i64 o4, .int .i64 o5, .int .i32 o6] 34) = W1 := ⟨_, rfl⟩
  have hnew : W1.heap[w.heap.size]? = some (.cells #[.int .i64 o0, .int .i64 o1, .int .i64 o2, .bool o3, .int .i64 o4, .int .i64 o5, .int .i32 o6] 34 (0, 0)) := by rw [← hW1]; exact heap_new w _
  rw [hW1] at hbw
  have hbl : w.heap.size < W1.heap.size := lt_of hnew
  have same : ∀ W, Below W1.heap.size W1 W → Below w.heap.size w W := fun W hb => below_step hbw hb
  have cells : ∀ W, Below W1.heap.size W1 W → W.cell? ⟨p, 0, none⟩ = some (.slice A1 T.l.length c1) ∧ W.cell? ⟨w.heap.size, 0, none⟩ = some (.int .i64 o0) ∧ W.cell? ⟨w.heap.size, 1, none⟩ = some (.int .i64 o1) ∧ W.cell? ⟨w.heap.size, 6, none⟩ = some (.int .i32 o6) := fun W hb =>
    ⟨((same W hb).cell hp).trans h0, (hb.cell hbl).trans ((cell_of hnew 0).trans rfl), (hb.cell hbl).trans ((cell_of hnew 1).trans rfl), (hb.cell hbl).trans ((cell_of hnew 6).trans rfl)⟩
  have els : ∀ W, Below W1.heap.size W1 W → ∀ i (hi : i < T.l.length), ∃ ad, A1 = some ad ∧ W.cell? (ad.add (i * 4)) = some (.int .i64 T.l[i].f0.f0) ∧ W.cell? ⟨(ad.add (i * 4)).block, (ad.add (i * 4)).off + 1, none⟩ = some (.int .i64 T.l[i].f0.f1) := fun W hb i hi => by
    obtain ⟨ad, e, c0, c1, _⟩ := cell_el HR.out (same W hb) i hi
    exact ⟨ad, e, c0, c1⟩
  have HSAME := Lib.hid same
  have HCELLS := Lib.hid cells
  have HELS := Lib.hid els
  have HW1 := Lib.hid hW1
  have K1 := Lib.hid (fun (e : S75) w2 => less_is ⟨o0, o1⟩ e.f0 w2)
  obtain ⟨len, hlen⟩ : ∃ len, T.l.length = len := ⟨_, rfl⟩
  rw [hlen] at h0 hc hn hl
  have H0 := Lib.hid h0
  have HLEN := Lib.hid hlen
  have HNB := Lib.hid hn
  clear h hr hp hp1 h1 h2 h3 h4 h5 h0 g0 hnew hbl hbw same cells els hlen
  unfold opV
  go_enter Try.func44, Try.ntmps44
  go_wp2
  clear hW1
  go_loopw [1] (fun v1 w' => ∃ i : Nat, v1 = .int .i64 (i : Int) ∧ i ≤ len ∧ Aside0 (n ≤ i ∧ skT T.l i ⟨⟨o0, o1⟩, o2, o3, ⟨o4, o5⟩, o6⟩ = skT T.l n ⟨⟨o0, o1⟩, o2, o3, ⟨o4, o5⟩, o6⟩ ∧ Below W1.heap.size W1 w')) (fun v1 _ => len - (intOf v1).toNat)
  case atStart => exact ⟨n, rfl, hn, Nat.le_refl _, rfl, Below.refl _ _⟩
  case round =>
    obtain ⟨i, rfl, hi, HI⟩ := hrel
    by_cases hlt : i < len
    · obtain ⟨ad, eA, e0, e1⟩ := HELS.out wr HI.out.2.2 i (by rw [HLEN.out]; exact hlt)
      subst eA
      have hskg := skT_go T.l i ⟨⟨o0, o1⟩, o2, o3, ⟨o4, o5⟩, o6⟩ (by rw [HLEN.out]; exact hlt)
      have hsks := skT_stop T.l i ⟨⟨o0, o1⟩, o2, o3, ⟨o4, o5⟩, o6⟩ (by rw [HLEN.out]; exact hlt)
      obtain ⟨e, he⟩ : ∃ e, T.l[i]'(by rw [HLEN.out]; exact hlt) = e := ⟨_, rfl⟩
      rw [he] at e0 e1 hskg hsks
      have hp0 := (HCELLS.out wr HI.out.2.2).1
      rw [HLEN.out] at hp0
      have HS : Aside0 (∀ W, Below wr.heap.size wr W → W.cell? ⟨p, 0, none⟩ = some (.slice (some ad) len c1) ∧ W.cell? ⟨w.heap.size, 0, none⟩ = some (.int .i64 o0) ∧ W.cell? ⟨w.heap.size, 1, none⟩ = some (.int .i64 o1) ∧ W.cell? (ad.add (i * 4)) = some (.int .i64 e.f0.f0) ∧ W.cell? ⟨(ad.add (i * 4)).block, (ad.add (i * 4)).off + 1, none⟩ = some (.int .i64 e.f0.f1)) :=
        ⟨fun W hb => ⟨(hb.cell (World.block_lt_of_cell? wr _ hp0)).trans hp0, (HCELLS.out W (below_step HI.out.2.2 hb)).2.1, (HCELLS.out W (below_step HI.out.2.2 hb)).2.2.1, (hb.cell (World.block_lt_of_cell? wr _ e0)).trans e0, (hb.cell (World.block_lt_of_cell? wr _ e1)).trans e1⟩⟩
      have HB0 := Lib.hid (show Below wr.heap.size wr wr.drew from (Below.refl _ wr).drew)
      obtain ⟨r, hr⟩ : ∃ r, lessI ⟨o0, o1⟩ e.f0 = r := ⟨_, rfl⟩
      have K2 := Lib.hid (fun w2 => K1.out e w2)
      rw [hr] at K2
      have hd : decide ((i : Int) < (len : Int)) = true := by simpa using hlt
      cases r with
      | true =>
        have HSK := Lib.hid (hskg hr)
        clear hskg hsks he hr
        go_wp2
        go_region_held3 (fun W => W.cell? ⟨p, 0, none⟩ = some (.slice (some ad) len c1) ∧ W.cell? ⟨w.heap.size, 0, none⟩ = some (.int .i64 o0) ∧ W.cell? ⟨w.heap.size, 1, none⟩ = some (.int .i64 o1) ∧ W.cell? (ad.add (i * 4)) = some (.int .i64 e.f0.f0) ∧ W.cell? ⟨(ad.add (i * 4)).block, (ad.add (i * 4)).off + 1, none⟩ = some (.int .i64 e.f0.f1)) ((first | exact HS.out _ HB0.out | exact HS.out _ HB2.out)) (first
          | (go_at_call 66; refine (K2.out _).mono ?_; rintro e' w4 ⟨rfl, hb⟩; have HB2 := Lib.hid (below_step HB0.out hb); clear hb))
        go_wp2
        go_roundw
        case rel => exact ⟨i + 1, by go_num, by omega, ⟨by have := HI.out.1; omega, HSK.out.symm.trans HI.out.2.1, below_step HI.out.2.2 HB2.out⟩⟩
        case measure => simp [intOf]; omega
      | false =>
        have HSK := Lib.hid (hsks hr)
        clear hskg hsks he hr
        go_wp2
        go_region_held3 (fun W => W.cell? ⟨p, 0, none⟩ = some (.slice (some ad) len c1) ∧ W.cell? ⟨w.heap.size, 0, none⟩ = some (.int .i64 o0) ∧ W.cell? ⟨w.heap.size, 1, none⟩ = some (.int .i64 o1) ∧ W.cell? (ad.add (i * 4)) = some (.int .i64 e.f0.f0) ∧ W.cell? ⟨(ad.add (i * 4)).block, (ad.add (i * 4)).off + 1, none⟩ = some (.int .i64 e.f0.f1)) ((first | exact HS.out _ HB0.out | exact HS.out _ HB2.out)) (first
          | (go_at_call 66; refine (K2.out _).mono ?_; rintro e' w4 ⟨rfl, hb⟩; have HB2 := Lib.hid (below_step HB0.out hb); clear hb))
        have HBW := Lib.hid (below_step HI.out.2.2 HB2.out)
        obtain ⟨lv, x', ov, vv, mb', hp1, hK⟩ := insert_state (W := w4.drew) HT.out i ⟨⟨o0, o1⟩, o2, o3, ⟨o4, o5⟩, o6⟩ (by rw [HLEN.out]; exact hi) (by rw [HLEN.out]; exact hl) (HSAME.out _ HBW.out.drew)
        have elv : lv = .slice (some ad) len c1 := by
          have e1 := (cell_of hp1 0).trans (show _ = some lv from rfl)
          have e2 := H0.out
          rw [e1] at e2
          injection e2
        subst elv
        have KIN := Lib.hid (show Calls Try.prog 67 #[.slice (some ad) len c1, .int .i64 (i : Int), .slice (some ⟨w4.heap.size, 0, none⟩) 1 1] ((w4.alloc (.cells #[.int .i64 o0, .int .i64 o1, .int .i32 o6, .bool true] 75)).drew) _ from hK)
        have HPW := Lib.hid (((HSAME.out _ HBW.out).block p (lt_of hp1)).trans hp1)
        have HCW := Lib.hid (HCELLS.out _ HBW.out)
        have HSKF := Lib.hid (show skT T.l n ⟨⟨o0, o1⟩, o2, o3, ⟨o4, o5⟩, o6⟩ = i from HI.out.2.1.symm.trans HSK.out)
        clear hp1 hK
        obtain ⟨r0, r1, r2, r6⟩ := HCW.out
        rw [HLEN.out] at r0
        have ra0 : (w4.alloc (.cells #[.int .i64 o0, .int .i64 o1, .int .i32 o6, .bool true] 75)).cell? ⟨p, 0, none⟩ = some (.slice (some ad) len c1) := (((Below.refl _ w4).alloc (Nat.le_refl _) _).cell (World.block_lt_of_cell? w4 _ r0)).trans r0
        go_upto_region 3 with fail
        go_region_with ((go_at_call 67; with_reducible refine KIN.out.mono ?_; rintro e3 w3 ⟨A', n', c', rfl, hp3, hK3⟩; have K3 := Lib.hid hK3; have q0 : w3.cell? ⟨p, 0, none⟩ = some (.slice (some ad) len c1) := (cell_of hp3 0).trans rfl; have q1 : w3.cell? ⟨p, 1, none⟩ = some (.pointer (some ⟨x', 0, none⟩)) := (cell_of hp3 1).trans rfl; have qf := free_of hp3; clear hp3 hK3))
        all_goals
          go_wp2_with (go_at_call 68; with_reducible refine K3.out.mono ?_; rintro e4 w5 ⟨rfl, hfin⟩; have HFIN := Lib.hid hfin; clear hfin)
          go_end0
          exact ⟨rfl, by rw [HSKF.out]; exact HFIN.out⟩
    · obtain rfl : i = len := by omega
      have hp0 := (HCELLS.out wr HI.out.2.2).1
      rw [HLEN.out] at hp0
      have hd : decide ((i : Int) < (i : Int)) = false := by simp
      go_wp2
      go_quiet (fail)
      have HBW := Lib.hid (show Below W1.heap.size W1 (wr.drewN nq) from pw_below_drewN HI.out.2.2 nq)
      obtain ⟨w4, hw4⟩ : ∃ w4, wr.drewN nq = w4 := ⟨_, rfl⟩
      rw [hw4] at HBW ⊢
      clear hw4
      obtain ⟨lv, x', ov, vv, mb', hp1, hK⟩ := insert_state (W := w4.drew) HT.out i ⟨⟨o0, o1⟩, o2, o3, ⟨o4, o5⟩, o6⟩ (by rw [HLEN.out]; exact hi) (by rw [HLEN.out]; exact hl) (HSAME.out _ HBW.out.drew)
      have elv : lv = .slice A1 i c1 := by
        have e1 := (cell_of hp1 0).trans (show _ = some lv from rfl)
        have e2 := H0.out
        rw [e1] at e2
        injection e2
      subst elv
      have KIN := Lib.hid (show Calls Try.prog 67 #[.slice A1 i c1, .int .i64 (i : Int), .slice (some ⟨w4.heap.size, 0, none⟩) 1 1] ((w4.alloc (.cells #[.int .i64 o0, .int .i64 o1, .int .i32 o6, .bool true] 75)).drew) _ from hK)
      have HPW := Lib.hid (((HSAME.out _ HBW.out).block p (lt_of hp1)).trans hp1)
      have HCW := Lib.hid (HCELLS.out _ HBW.out)
      have HSKF := Lib.hid (show skT T.l n ⟨⟨o0, o1⟩, o2, o3, ⟨o4, o5⟩, o6⟩ = i from HI.out.2.1.symm.trans (skT_end T.l i ⟨⟨o0, o1⟩, o2, o3, ⟨o4, o5⟩, o6⟩ (by rw [HLEN.out]; exact Nat.le_refl _)))
      clear hp1 hK
      obtain ⟨r0, r1, r2, r6⟩ := HCW.out
      rw [HLEN.out] at r0
      have ra0 : (w4.alloc (.cells #[.int .i64 o0, .int .i64 o1, .int .i32 o6, .bool true] 75)).cell? ⟨p, 0, none⟩ = some (.slice A1 i c1) := (((Below.refl _ w4).alloc (Nat.le_refl _) _).cell (World.block_lt_of_cell? w4 _ r0)).trans r0
      go_upto_region 3 with fail
      go_region_with ((go_at_call 67; with_reducible refine KIN.out.mono ?_; rintro e3 w3 ⟨A', n', c', rfl, hp3, hK3⟩; have K3 := Lib.hid hK3; have q0 : w3.cell? ⟨p, 0, none⟩ = some (.slice A1 i c1) := (cell_of hp3 0).trans rfl; have q1 : w3.cell? ⟨p, 1, none⟩ = some (.pointer (some ⟨x', 0, none⟩)) := (cell_of hp3 1).trans rfl; have qf := free_of hp3; clear hp3 hK3))
      all_goals
        go_wp2_with (go_at_call 68; with_reducible refine K3.out.mono ?_; rintro e4 w5 ⟨rfl, hfin⟩; have HFIN := Lib.hid hfin; clear hfin)
        go_end0
        exact ⟨rfl, by rw [HSKF.out]; exact HFIN.out⟩
end Go.Proofs.Ytehdjdediobemaa.PC
namespace Go.Proofs.Ytehdjdediobemaa.PC
open Go.RowKit Go.Proofs.YtehdjdediobemaaW.PrintWords Go.Proofs.YtehdjdediobemaaW.PrintLast Go.Proofs.YtehdjdediobemaaW.PrintMore
attribute [local go_sem] max2_int min2_int max_two min_two max_three min_three max_four min_four
set_option linter.unusedVariables false
set_option linter.unusedSimpArgs false
attribute [local go_sem high] eqA31 eqA34 eqA80
def foolscapref01_Size.j0 : Nat → Int → Bool → Option (Int)
  | 0, _, _ => none
  | k + 1, x0, x16 => if x16 = true then (some 0) else (if x0 ≤ 127 then (some 1) else (if x0 ≤ 2047 then (some 2) else (if x0 ≤ 65535 then (some 3) else (some 4))))
def foolscapref01_Size.f (k : Nat) (a0 : Int) : Option (Int) := if a0 < 0 then (foolscapref01_Size.j0 k a0 true) else (if a0 > 1114111 then (foolscapref01_Size.j0 k a0 true) else (if a0 ≥ 55296 then (foolscapref01_Size.j0 k a0 (decide (a0 ≤ 57343))) else (foolscapref01_Size.j0 k a0 false)))
theorem foolscapref01_Size.mono_l : ∀ k, (∀ y0 y1, LeO (foolscapref01_Size.j0 k y0 y1) (foolscapref01_Size.j0 (k + 1) y0 y1))
  | 0 => fun _ _ r h => by simp [foolscapref01_Size.j0] at h
  | k + 1 => by
    have ih0 := foolscapref01_Size.mono_l k
    · intro y0 y1
      unfold foolscapref01_Size.j0
      repeat' first
      | (with_reducible exact ih0 _ _)
      | (with_reducible exact LeO.refl _)
      | (with_reducible exact LeO.none _)
      | (with_reducible refine LeO.ite ?_ ?_)
      | (with_reducible refine LeO.bind ?_ (fun _ => ?_))
      | exact ih0 _ _
      | exact LeO.none _
      | refine LeO.ite ?_ ?_
      | refine LeO.bind ?_ (fun _ => ?_)
theorem foolscapref01_Size.mono : ∀ a0 k, LeO (foolscapref01_Size.f k a0) (foolscapref01_Size.f (k + 1) a0) := by
  intro a0 k
  have ih0 := foolscapref01_Size.mono_l k
  unfold foolscapref01_Size.f
  repeat' first
      | (with_reducible exact ih0 _ _)
      | (with_reducible exact LeO.refl _)
      | (with_reducible exact LeO.none _)
      | (with_reducible refine LeO.ite ?_ ?_)
      | (with_reducible refine LeO.bind ?_ (fun _ => ?_))
      | exact ih0 _ _
      | exact LeO.none _
      | refine LeO.ite ?_ ?_
      | refine LeO.bind ?_ (fun _ => ?_)
set_option maxHeartbeats 8000000 in
set_option maxRecDepth 100000 in
theorem foolscapref01_Size.calls (k : Nat) (a0 : Int) (r : Int) (w : World) (h : foolscapref01_Size.f k a0 = some r) :
    Calls Try.prog 13 #[.int .i32 a0] w fun e w' => e = .returned (.int .i64 r) ∧ Drawn0 w w' := by
  have H : (if a0 < 0 then (foolscapref01_Size.j0 k a0 true) else (if a0 > 1114111 then (foolscapref01_Size.j0 k a0 true) else (if a0 ≥ 55296 then (foolscapref01_Size.j0 k a0 (decide (a0 ≤ 57343))) else (foolscapref01_Size.j0 k a0 false)))) = some r := h
  clear h
  have HC2 := Aside0.mk H
  clear H
  go_enter Try.func13, Try.ntmps13
  go_upto_region 1 with (fail)
  go_cut [16] (fun v16 wc => ∃ (kq : Nat) (x16_1 : Bool), v16 = .bool x16_1 ∧ Aside0 (foolscapref01_Size.j0 kq a0 x16_1 = some r) ∧ Aside0 (kq ≤ k) ∧ Drawn0 w wc)
  case first =>
    have H := HC2.out
    clear HC2
    by_cases c3 : a0 < 0
    · rw [if_pos c3] at H
      have c3b0 : decide (a0 < 0) = true := decide_eq_true c3
      clear c3
      (first | rw [c3b0] | (simp only [i64_w, i32_w]; rw [c3b0]) | skip)
      have H' := Aside0.mk H
      clear H
      go_wp2
      go_meet
      case rel => exact ⟨_, (true), (by first | rfl | (simp; done) | (simp [*]; done)), H', ⟨by first | omega | exact Nat.le_refl _⟩, by repeat (first | exact Drawn0.refl _ | apply Drawn0.step)⟩
    · rw [if_neg c3] at H
      have c3b0 : decide (a0 < 0) = false := decide_eq_false c3
      clear c3
      (first | rw [c3b0] | (simp only [i64_w, i32_w]; rw [c3b0]) | skip)
      by_cases c4 : a0 > 1114111
      · rw [if_pos c4] at H
        have c4b0 : decide (1114111 < a0) = true := decide_eq_true c4
        clear c4
        have H' := Aside0.mk H
        clear H
        go_wp2
        go_meet
        case rel => exact ⟨_, (true), (by first | rfl | (simp; done) | (simp [*]; done)), H', ⟨by first | omega | exact Nat.le_refl _⟩, by repeat (first | exact Drawn0.refl _ | apply Drawn0.step)⟩
      · rw [if_neg c4] at H
        have c4b0 : decide (1114111 < a0) = false := decide_eq_false c4
        clear c4
        by_cases c5 : a0 ≥ 55296
        · rw [if_pos c5] at H
          have c5b0 : decide (55296 ≤ a0) = true := decide_eq_true c5
          clear c5
          have H' := Aside0.mk H
          clear H
          go_wp2
          go_meet
          case rel => exact ⟨_, (decide (a0 ≤ 57343)), (by first | rfl | (simp; done) | (simp [*]; done)), H', ⟨by first | omega | exact Nat.le_refl _⟩, by repeat (first | exact Drawn0.refl _ | apply Drawn0.step)⟩
        · rw [if_neg c5] at H
          have c5b0 : decide (55296 ≤ a0) = false := decide_eq_false c5
          clear c5
          have H' := Aside0.mk H
          clear H
          go_wp2
          go_meet
          case rel => exact ⟨_, (false), (by first | rfl | (simp; done) | (simp [*]; done)), H', ⟨by first | omega | exact Nat.le_refl _⟩, by repeat (first | exact Drawn0.refl _ | apply Drawn0.step)⟩
  case rest =>
    clear HC2
    try clear c1
    try clear p2
    try clear c3
    try clear c3b0
    try clear c4
    try clear c4b0
    try clear c5
    try clear c5b0
    obtain ⟨kq, x16_1, rfl, HA, HJ1, ⟨mc1, rfl⟩⟩ := hcut
    cases kq with
    | zero => exact absurd HA.out (by simp [foolscapref01_Size.j0])
    | succ kj1 =>
      have H := HA.out
      clear HA
      simp only [foolscapref01_Size.j0] at H
      by_cases c6 : x16_1 = true
      · subst c6
        have H1 : (some 0) = some r := by rw [if_pos rfl] at H; exact H
        clear H
        have H := H1
        clear H1
        obtain rfl := Option.some.inj H
        go_wp2
        go_ret
        exact ⟨by first | rfl | (simp; done) | (simp [*]; done), by repeat (first | exact Drawn0.refl _ | apply Drawn0.step)⟩
      · replace c6 := Bool.eq_false_iff.mpr c6
        subst c6
        have H1 : (if a0 ≤ 127 then (some 1) else (if a0 ≤ 2047 then (some 2) else (if a0 ≤ 65535 then (some 3) else (some 4)))) = some r := by rw [if_neg (show ¬ (false = true) by decide)] at H; exact H
        clear H
        have H := H1
        clear H1
        by_cases c7 : a0 ≤ 127
        · rw [if_pos c7] at H
          have c7b0 : decide (a0 ≤ 127) = true := decide_eq_true c7
          clear c7
          obtain rfl := Option.some.inj H
          go_wp2
          go_ret
          exact ⟨by first | rfl | (simp; done) | (simp [*]; done), by repeat (first | exact Drawn0.refl _ | apply Drawn0.step)⟩
        · rw [if_neg c7] at H
          have c7b0 : decide (a0 ≤ 127) = false := decide_eq_false c7
          clear c7
          by_cases c8 : a0 ≤ 2047
          · rw [if_pos c8] at H
            have c8b0 : decide (a0 ≤ 2047) = true := decide_eq_true c8
            clear c8
            obtain rfl := Option.some.inj H
            go_wp2
            go_ret
            exact ⟨by first | rfl | (simp; done) | (simp [*]; done), by repeat (first | exact Drawn0.refl _ | apply Drawn0.step)⟩
          · rw [if_neg c8] at H
            have c8b0 : decide (a0 ≤ 2047) = false := decide_eq_false c8
            clear c8
            by_cases c9 : a0 ≤ 65535
            · rw [if_pos c9] at H
              have c9b0 : decide (a0 ≤ 65535) = true := decide_eq_true c9
              clear c9
              obtain rfl := Option.some.inj H
              go_wp2
              go_ret
              exact ⟨by first | rfl | (simp; done) | (simp [*]; done), by repeat (first | exact Drawn0.refl _ | apply Drawn0.step)⟩
            · rw [if_neg c9] at H
              have c9b0 : decide (a0 ≤ 65535) = false := decide_eq_false c9
              clear c9
              obtain rfl := Option.some.inj H
              go_wp2
              go_ret
              exact ⟨by first | rfl | (simp; done) | (simp [*]; done), by repeat (first | exact Drawn0.refl _ | apply Drawn0.step)⟩
def foolscapref12_right.f (a0_0 : Int) (a0_1 : Int) : Option (Bool) := if a0_0 ≥ 1 then (if a0_0 ≤ 4294967295 then (if a0_1 ≥ 0 then (some (decide (a0_1 < 4194304))) else (some false)) else (some false)) else (some false)
set_option maxHeartbeats 8000000 in
set_option maxRecDepth 100000 in
theorem foolscapref12_right.calls (a0_0 : Int) (a0_1 : Int) (r : Bool) (w : World) (h : foolscapref12_right.f a0_0 a0_1 = some r) :
    Calls Try.prog 72 #[.agg #[.int .i64 a0_0, .int .i64 a0_1]] w fun e w' => e = .returned (.bool r) ∧ Below w.heap.size w w' := by
  have hu31 := Try.underlying31
  have HB := Aside0.mk (Below.refl w.heap.size w)
  have H : (if a0_0 ≥ 1 then (if a0_0 ≤ 4294967295 then (if a0_1 ≥ 0 then (some (decide (a0_1 < 4194304))) else (some false)) else (some false)) else (some false)) = some r := h
  clear h
  by_cases c2 : a0_0 ≥ 1
  · rw [if_pos c2] at H
    have c2b0 : decide (1 ≤ a0_0) = true := decide_eq_true c2
    clear c2
    by_cases c3 : a0_0 ≤ 4294967295
    · rw [if_pos c3] at H
      have c3b0 : decide (a0_0 ≤ 4294967295) = true := decide_eq_true c3
      clear c3
      by_cases c4 : a0_1 ≥ 0
      · rw [if_pos c4] at H
        have c4b0 : decide (0 ≤ a0_1) = true := decide_eq_true c4
        clear c4
        obtain rfl := Option.some.inj H
        go_enter Try.func72, Try.ntmps72
        go_wp2_with (first | ((with_reducible refine gate_dst (N := 1) rfl ?_); refine box_event ?hg (N := 1) ?hd (cs := #[.int .i64 a0_0, .int .i64 a0_1]) (t := 31) ?hr ?_; (case hd => rfl); (case hg => rfl); (case hr => first | (go_simp; done) | (go_simp; rfl)); intro gb169 hg w5 hbox hb; have n0_ := Aside0.mk (below_step (by repeat (first | (with_reducible first | exact HB.out | apply below_alloc | apply pw_below_drewN | apply below_drew1) | exact HB.out)) hb); have n1_ := Aside0.mk (hbox); have n2_ := Aside0.mk ((by rw [hg]; exact (below_size (by repeat (first | (with_reducible first | exact HB.out | apply below_alloc | apply pw_below_drewN | apply below_drew1) | exact HB.out))) : w.heap.size ≤ gb169)); have n3_ := Aside0.mk ((by rw [hg]; exact (below_size (by repeat (first | (with_reducible first | exact HB.out | apply below_alloc | apply pw_below_drewN | apply below_drew1) | exact HB.out))) : w.heap.size ≤ gb169)); clear HB; have HB := n0_; have BK169 := n1_; have GW169 := n2_; have GE169 := n3_; clear n0_ n1_ n2_ n3_; clear hb hbox hg; have hcz6_0 : w5.cell? ⟨gb169, 0, none⟩ = some (.int .i64 a0_0) := (blk_cell BK169.out 0).trans rfl; have hcz6_1 : w5.cell? ⟨gb169, 1, none⟩ = some (.int .i64 a0_1) := (blk_cell BK169.out 1).trans rfl; have hfz6_0 := blk_frozen BK169.out 0; have hfz6_1 := blk_frozen BK169.out 1))
        go_ret
        exact ⟨by first | rfl | (simp [errW_none, errW_some] <;> rfl) | (simp [*, errW_none, errW_some] <;> rfl), by repeat (first | (with_reducible first | exact HB.out | apply below_alloc | apply pw_below_drewN | apply below_drew1 | refine below_set ?_ GE169.out) | exact HB.out)⟩
      · rw [if_neg c4] at H
        have c4b0 : decide (0 ≤ a0_1) = false := decide_eq_false c4
        clear c4
        obtain rfl := Option.some.inj H
        go_enter Try.func72, Try.ntmps72
        go_wp2_with (first | ((with_reducible refine gate_dst (N := 1) rfl ?_); refine box_event ?hg (N := 1) ?hd (cs := #[.int .i64 a0_0, .int .i64 a0_1]) (t := 31) ?hr ?_; (case hd => rfl); (case hg => rfl); (case hr => first | (go_simp; done) | (go_simp; rfl)); intro gb169 hg w7 hbox hb; have n0_ := Aside0.mk (below_step (by repeat (first | (with_reducible first | exact HB.out | apply below_alloc | apply pw_below_drewN | apply below_drew1) | exact HB.out)) hb); have n1_ := Aside0.mk (hbox); have n2_ := Aside0.mk ((by rw [hg]; exact (below_size (by repeat (first | (with_reducible first | exact HB.out | apply below_alloc | apply pw_below_drewN | apply below_drew1) | exact HB.out))) : w.heap.size ≤ gb169)); have n3_ := Aside0.mk ((by rw [hg]; exact (below_size (by repeat (first | (with_reducible first | exact HB.out | apply below_alloc | apply pw_below_drewN | apply below_drew1) | exact HB.out))) : w.heap.size ≤ gb169)); clear HB; have HB := n0_; have BK169 := n1_; have GW169 := n2_; have GE169 := n3_; clear n0_ n1_ n2_ n3_; clear hb hbox hg; have hcz8_0 : w7.cell? ⟨gb169, 0, none⟩ = some (.int .i64 a0_0) := (blk_cell BK169.out 0).trans rfl; have hcz8_1 : w7.cell? ⟨gb169, 1, none⟩ = some (.int .i64 a0_1) := (blk_cell BK169.out 1).trans rfl; have hfz8_0 := blk_frozen BK169.out 0; have hfz8_1 := blk_frozen BK169.out 1))
        go_ret
        exact ⟨by first | rfl | (simp [errW_none, errW_some] <;> rfl) | (simp [*, errW_none, errW_some] <;> rfl), by repeat (first | (with_reducible first | exact HB.out | apply below_alloc | apply pw_below_drewN | apply below_drew1 | refine below_set ?_ GE169.out) | exact HB.out)⟩
    · rw [if_neg c3] at H
      have c3b0 : decide (a0_0 ≤ 4294967295) = false := decide_eq_false c3
      clear c3
      obtain rfl := Option.some.inj H
      go_enter Try.func72, Try.ntmps72
      go_wp2_with (first | ((with_reducible refine gate_dst (N := 1) rfl ?_); refine box_event ?hg (N := 1) ?hd (cs := #[.int .i64 a0_0, .int .i64 a0_1]) (t := 31) ?hr ?_; (case hd => rfl); (case hg => rfl); (case hr => first | (go_simp; done) | (go_simp; rfl)); intro gb169 hg w9 hbox hb; have n0_ := Aside0.mk (below_step (by repeat (first | (with_reducible first | exact HB.out | apply below_alloc | apply pw_below_drewN | apply below_drew1) | exact HB.out)) hb); have n1_ := Aside0.mk (hbox); have n2_ := Aside0.mk ((by rw [hg]; exact (below_size (by repeat (first | (with_reducible first | exact HB.out | apply below_alloc | apply pw_below_drewN | apply below_drew1) | exact HB.out))) : w.heap.size ≤ gb169)); have n3_ := Aside0.mk ((by rw [hg]; exact (below_size (by repeat (first | (with_reducible first | exact HB.out | apply below_alloc | apply pw_below_drewN | apply below_drew1) | exact HB.out))) : w.heap.size ≤ gb169)); clear HB; have HB := n0_; have BK169 := n1_; have GW169 := n2_; have GE169 := n3_; clear n0_ n1_ n2_ n3_; clear hb hbox hg; have hcz10_0 : w9.cell? ⟨gb169, 0, none⟩ = some (.int .i64 a0_0) := (blk_cell BK169.out 0).trans rfl; have hcz10_1 : w9.cell? ⟨gb169, 1, none⟩ = some (.int .i64 a0_1) := (blk_cell BK169.out 1).trans rfl; have hfz10_0 := blk_frozen BK169.out 0; have hfz10_1 := blk_frozen BK169.out 1))
      go_ret
      exact ⟨by first | rfl | (simp [errW_none, errW_some] <;> rfl) | (simp [*, errW_none, errW_some] <;> rfl), by repeat (first | (with_reducible first | exact HB.out | apply below_alloc | apply pw_below_drewN | apply below_drew1 | refine below_set ?_ GE169.out) | exact HB.out)⟩
  · rw [if_neg c2] at H
    have c2b0 : decide (1 ≤ a0_0) = false := decide_eq_false c2
    clear c2
    obtain rfl := Option.some.inj H
    go_enter Try.func72, Try.ntmps72
    go_wp2_with (first | ((with_reducible refine gate_dst (N := 1) rfl ?_); refine box_event ?hg (N := 1) ?hd (cs := #[.int .i64 a0_0, .int .i64 a0_1]) (t := 31) ?hr ?_; (case hd => rfl); (case hg => rfl); (case hr => first | (go_simp; done) | (go_simp; rfl)); intro gb169 hg w11 hbox hb; have n0_ := Aside0.mk (below_step (by repeat (first | (with_reducible first | exact HB.out | apply below_alloc | apply pw_below_drewN | apply below_drew1) | exact HB.out)) hb); have n1_ := Aside0.mk (hbox); have n2_ := Aside0.mk ((by rw [hg]; exact (below_size (by repeat (first | (with_reducible first | exact HB.out | apply below_alloc | apply pw_below_drewN | apply below_drew1) | exact HB.out))) : w.heap.size ≤ gb169)); have n3_ := Aside0.mk ((by rw [hg]; exact (below_size (by repeat (first | (with_reducible first | exact HB.out | apply below_alloc | apply pw_below_drewN | apply below_drew1) | exact HB.out))) : w.heap.size ≤ gb169)); clear HB; have HB := n0_; have BK169 := n1_; have GW169 := n2_; have GE169 := n3_; clear n0_ n1_ n2_ n3_; clear hb hbox hg; have hcz12_0 : w11.cell? ⟨gb169, 0, none⟩ = some (.int .i64 a0_0) := (blk_cell BK169.out 0).trans rfl; have hcz12_1 : w11.cell? ⟨gb169, 1, none⟩ = some (.int .i64 a0_1) := (blk_cell BK169.out 1).trans rfl; have hfz12_0 := blk_frozen BK169.out 0; have hfz12_1 := blk_frozen BK169.out 1))
    go_ret
    exact ⟨by first | rfl | (simp [errW_none, errW_some] <;> rfl) | (simp [*, errW_none, errW_some] <;> rfl), by repeat (first | (with_reducible first | exact HB.out | apply below_alloc | apply pw_below_drewN | apply below_drew1 | refine below_set ?_ GE169.out) | exact HB.out)⟩
def foolscapref12_Right.j0 : Nat → Bool → Int → Int → Int → Bool → Int → Int → Int → Option (Bool)
  | 0, _, _, _, _, _, _, _, _ => none
  | k + 1, x4, x171000, x171001, x171002, x171003, x171004, x171005, x171006 => if x171003 = true then ((foolscapref01_Size.f k x171006).bind fun t172 => ((foolscapref12_right.f x171000 x171001).bind fun t173 => (if t173 = true then (if x171002 ≥ 1 then (if x171002 ≤ 4294967295 then (if x4 = true then (if x171004 < x171000 then (some (decide (t172 > 0))) else (some false)) else (some false)) else (some false)) else (some false)) else (some false)))) else ((foolscapref12_right.f x171000 x171001).bind fun t174 => (if t174 = true then (if x171002 ≥ 1 then (if x171002 ≤ 4294967295 then (if x4 = true then (if x171004 < x171000 then (some (x171006 == 0)) else (some false)) else (some false)) else (some false)) else (some false)) else (some false)))
def foolscapref12_Right.f (k : Nat) (a0_0 : Int) (a0_1 : Int) (a0_2 : Int) (a0_3 : Bool) (a0_4 : Int) (a0_5 : Int) (a0_6 : Int) : Option (Bool) := (foolscapref12_right.f a0_4 a0_5).bind fun t171 => (if t171 = true then (foolscapref12_Right.j0 k true a0_0 a0_1 a0_2 a0_3 a0_4 a0_5 a0_6) else (if a0_3 = true then (foolscapref12_Right.j0 k (a0_4 == 0 && (a0_5 == 0)) a0_0 a0_1 a0_2 a0_3 a0_4 a0_5 a0_6) else (foolscapref12_Right.j0 k false a0_0 a0_1 a0_2 a0_3 a0_4 a0_5 a0_6)))
theorem foolscapref12_Right.mono_l : ∀ k, (∀ y0 y1 y2 y3 y4 y5 y6 y7, LeO (foolscapref12_Right.j0 k y0 y1 y2 y3 y4 y5 y6 y7) (foolscapref12_Right.j0 (k + 1) y0 y1 y2 y3 y4 y5 y6 y7))
  | 0 => fun _ _ _ _ _ _ _ _ r h => by simp [foolscapref12_Right.j0] at h
  | k + 1 => by
    have ih0 := foolscapref12_Right.mono_l k
    · intro y0 y1 y2 y3 y4 y5 y6 y7
      unfold foolscapref12_Right.j0
      repeat' first
      | (with_reducible exact ih0 _ _ _ _ _ _ _ _)
      | (with_reducible exact foolscapref01_Size.mono _ _)
      | (with_reducible exact LeO.refl _)
      | (with_reducible exact LeO.none _)
      | (with_reducible refine LeO.ite ?_ ?_)
      | (with_reducible refine LeO.bind ?_ (fun _ => ?_))
      | exact ih0 _ _ _ _ _ _ _ _
      | exact foolscapref01_Size.mono _ _
      | exact LeO.none _
      | refine LeO.ite ?_ ?_
      | refine LeO.bind ?_ (fun _ => ?_)
theorem foolscapref12_Right.mono : ∀ a0 a1 a2 a3 a4 a5 a6 k, LeO (foolscapref12_Right.f k a0 a1 a2 a3 a4 a5 a6) (foolscapref12_Right.f (k + 1) a0 a1 a2 a3 a4 a5 a6) := by
  intro a0 a1 a2 a3 a4 a5 a6 k
  have ih0 := foolscapref12_Right.mono_l k
  unfold foolscapref12_Right.f
  repeat' first
      | (with_reducible exact ih0 _ _ _ _ _ _ _ _)
      | (with_reducible exact foolscapref01_Size.mono _ _)
      | (with_reducible exact LeO.refl _)
      | (with_reducible exact LeO.none _)
      | (with_reducible refine LeO.ite ?_ ?_)
      | (with_reducible refine LeO.bind ?_ (fun _ => ?_))
      | exact ih0 _ _ _ _ _ _ _ _
      | exact foolscapref01_Size.mono _ _
      | exact LeO.none _
      | refine LeO.ite ?_ ?_
      | refine LeO.bind ?_ (fun _ => ?_)
set_option maxHeartbeats 8000000 in
set_option maxRecDepth 100000 in
theorem foolscapref12_Right.calls (k : Nat) (a0_0 : Int) (a0_1 : Int) (a0_2 : Int) (a0_3 : Bool) (a0_4 : Int) (a0_5 : Int) (a0_6 : Int) (r : Bool) (w : World) (h : foolscapref12_Right.f k a0_0 a0_1 a0_2 a0_3 a0_4 a0_5 a0_6 = some r) :
    Calls Try.prog 55 #[.agg #[.int .i64 a0_0, .int .i64 a0_1, .int .i64 a0_2, .bool a0_3, .int .i64 a0_4, .int .i64 a0_5, .int .i32 a0_6]] w fun e w' => e = .returned (.bool r) ∧ Below w.heap.size w w' := by
  have hu34 := Try.underlying34
  have hu31 := Try.underlying31
  have HB := Aside0.mk (Below.refl w.heap.size w)
  have H : ((foolscapref12_right.f a0_4 a0_5).bind fun t171 => (if t171 = true then (foolscapref12_Right.j0 k true a0_0 a0_1 a0_2 a0_3 a0_4 a0_5 a0_6) else (if a0_3 = true then (foolscapref12_Right.j0 k (a0_4 == 0 && (a0_5 == 0)) a0_0 a0_1 a0_2 a0_3 a0_4 a0_5 a0_6) else (foolscapref12_Right.j0 k false a0_0 a0_1 a0_2 a0_3 a0_4 a0_5 a0_6)))) = some r := h
  clear h
  have HC2 := Aside0.mk H
  clear H
  go_enter Try.func55, Try.ntmps55
  go_upto_region 2 with (first | ((with_reducible refine gate_dst (N := 1) rfl ?_); refine box_event ?hg (N := 1) ?hd (cs := #[.int .i64 a0_0, .int .i64 a0_1, .int .i64 a0_2, .bool a0_3, .int .i64 a0_4, .int .i64 a0_5, .int .i32 a0_6]) (t := 34) ?hr ?_; (case hd => rfl); (case hg => rfl); (case hr => first | (go_simp; done) | (go_simp; rfl)); intro gb170 hg w3 hbox hb; have n0_ := Aside0.mk (below_step (by repeat (first | (with_reducible first | exact HB.out | apply below_alloc | apply pw_below_drewN | apply below_drew1) | exact HB.out)) hb); have n1_ := Aside0.mk (hbox); have n2_ := Aside0.mk ((by rw [hg]; exact (below_size (by repeat (first | (with_reducible first | exact HB.out | apply below_alloc | apply pw_below_drewN | apply below_drew1) | exact HB.out))) : w.heap.size ≤ gb170)); have n3_ := Aside0.mk ((by rw [hg]; exact (below_size (by repeat (first | (with_reducible first | exact HB.out | apply below_alloc | apply pw_below_drewN | apply below_drew1) | exact HB.out))) : w.heap.size ≤ gb170)); clear HB; have HB := n0_; have BK170 := n1_; have GW170 := n2_; have GE170 := n3_; clear n0_ n1_ n2_ n3_; clear hb hbox hg; have hcz4_0 : w3.cell? ⟨gb170, 0, none⟩ = some (.int .i64 a0_0) := (blk_cell BK170.out 0).trans rfl; have hcz4_1 : w3.cell? ⟨gb170, 1, none⟩ = some (.int .i64 a0_1) := (blk_cell BK170.out 1).trans rfl; have hcz4_2 : w3.cell? ⟨gb170, 2, none⟩ = some (.int .i64 a0_2) := (blk_cell BK170.out 2).trans rfl; have hcz4_3 : w3.cell? ⟨gb170, 3, none⟩ = some (.bool a0_3) := (blk_cell BK170.out 3).trans rfl; have hcz4_4 : w3.cell? ⟨gb170, 4, none⟩ = some (.int .i64 a0_4) := (blk_cell BK170.out 4).trans rfl; have hcz4_5 : w3.cell? ⟨gb170, 5, none⟩ = some (.int .i64 a0_5) := (blk_cell BK170.out 5).trans rfl; have hcz4_6 : w3.cell? ⟨gb170, 6, none⟩ = some (.int .i32 a0_6) := (blk_cell BK170.out 6).trans rfl; have hfz4_0 := blk_frozen BK170.out 0; have hfz4_1 := blk_frozen BK170.out 1; have hfz4_2 := blk_frozen BK170.out 2; have hfz4_3 := blk_frozen BK170.out 3; have hfz4_4 := blk_frozen BK170.out 4; have hfz4_5 := blk_frozen BK170.out 5; have hfz4_6 := blk_frozen BK170.out 6))
  (try simp only [Act.put, List.setIfInBounds_toArray, List.set_cons_zero, List.set_cons_succ])
  go_cut [4] (fun v4 wc => ∃ (kq : Nat) (x4_1 : Bool), v4 = .bool x4_1 ∧ Aside0 (foolscapref12_Right.j0 kq x4_1 a0_0 a0_1 a0_2 a0_3 a0_4 a0_5 a0_6 = some r) ∧ Aside0 (kq ≤ k) ∧ Aside0 (wc.heap[gb170]? = some (.cells #[.int .i64 a0_0, .int .i64 a0_1, .int .i64 a0_2, .bool a0_3, .int .i64 a0_4, .int .i64 a0_5, .int .i32 a0_6] 34 (0, 0))) ∧ Aside0 (Below w.heap.size w wc))
  case first =>
    have H := HC2.out
    clear HC2
    replace H := Option.bind_eq_some_iff.mp H
    obtain ⟨t171, A50, H⟩ := H
    replace H : (if t171 = true then (foolscapref12_Right.j0 k true a0_0 a0_1 a0_2 a0_3 a0_4 a0_5 a0_6) else (if a0_3 = true then (foolscapref12_Right.j0 k (a0_4 == 0 && (a0_5 == 0)) a0_0 a0_1 a0_2 a0_3 a0_4 a0_5 a0_6) else (foolscapref12_Right.j0 k false a0_0 a0_1 a0_2 a0_3 a0_4 a0_5 a0_6))) = some r := H
    have A5 := Aside0.mk A50
    clear A50
    by_cases c6 : t171 = true
    · subst c6
      have H1 : (foolscapref12_Right.j0 k true a0_0 a0_1 a0_2 a0_3 a0_4 a0_5 a0_6) = some r := by rw [if_pos rfl] at H; exact H
      clear H
      have H := H1
      clear H1
      have H' := Aside0.mk H
      clear H
      have hcz7_0 : w3.cell? ⟨gb170, 0, none⟩ = some (.int .i64 a0_0) := (blk_cell BK170.out 0).trans rfl
      have hcz7_1 : w3.cell? ⟨gb170, 1, none⟩ = some (.int .i64 a0_1) := (blk_cell BK170.out 1).trans rfl
      have hcz7_2 : w3.cell? ⟨gb170, 2, none⟩ = some (.int .i64 a0_2) := (blk_cell BK170.out 2).trans rfl
      have hcz7_3 : w3.cell? ⟨gb170, 3, none⟩ = some (.bool a0_3) := (blk_cell BK170.out 3).trans rfl
      have hcz7_4 : w3.cell? ⟨gb170, 4, none⟩ = some (.int .i64 a0_4) := (blk_cell BK170.out 4).trans rfl
      have hcz7_5 : w3.cell? ⟨gb170, 5, none⟩ = some (.int .i64 a0_5) := (blk_cell BK170.out 5).trans rfl
      have hcz7_6 : w3.cell? ⟨gb170, 6, none⟩ = some (.int .i32 a0_6) := (blk_cell BK170.out 6).trans rfl
      have hfz7_0 := blk_frozen BK170.out 0
      have hfz7_1 := blk_frozen BK170.out 1
      have hfz7_2 := blk_frozen BK170.out 2
      have hfz7_3 := blk_frozen BK170.out 3
      have hfz7_4 := blk_frozen BK170.out 4
      have hfz7_5 := blk_frozen BK170.out 5
      have hfz7_6 := blk_frozen BK170.out 6
      go_wp2_with (first | ((with_reducible refine gate_callee (f := 72) rfl ?_); refine goesL_ (some 12) rfl rfl Try.func72 (by kernel_rfl) rfl #[.agg #[.int .i64 a0_4, .int .i64 a0_5]] rfl (by (try simp only [List.map_toArray, List.map_cons, List.map_nil]); first | done | rfl | (simp only [List.length_drop, List.length_take]; rfl)) ?_; (with_reducible refine (foolscapref12_right.calls a0_4 a0_5 true _ A5.out).mono ?_); rintro e w8 ⟨rfl, hb⟩; refine ⟨_, rfl, ?_⟩; have n0_ := Aside0.mk (blk_below (g := gb170) (o := .cells #[.int .i64 a0_0, .int .i64 a0_1, .int .i64 a0_2, .bool a0_3, .int .i64 a0_4, .int .i64 a0_5, .int .i32 a0_6] 34 (0, 0)) (by (with_reducible repeat (first | refine blk_drewN ?_ _ | refine blk_drew ?_ | refine blk_alloc ?_ _)); exact BK170.out) hb); have n1_ := Aside0.mk (below_step (by repeat (first | (with_reducible first | exact HB.out | apply below_alloc | apply pw_below_drewN | apply below_drew1 | refine below_set ?_ GE170.out) | exact HB.out)) hb); clear BK170; clear HB; have BK170 := n0_; have HB := n1_; clear n0_ n1_; (try clear hb); (try clear hb2); (try clear hk); (try clear hi)))
      go_meet
      case rel => exact ⟨_, (true), (by first | rfl | (simp; done) | (simp [*]; done)), H', ⟨by first | omega | exact Nat.le_refl _⟩, ⟨by (with_reducible repeat (first | refine blk_drewN ?_ _ | refine blk_drew ?_ | refine blk_alloc ?_ _)); exact BK170.out⟩, ⟨by repeat (first | (with_reducible first | exact HB.out | apply below_alloc | apply pw_below_drewN | apply below_drew1 | refine below_set ?_ GE170.out) | exact HB.out)⟩⟩
    · replace c6 := Bool.eq_false_iff.mpr c6
      subst c6
      have H1 : (if a0_3 = true then (foolscapref12_Right.j0 k (a0_4 == 0 && (a0_5 == 0)) a0_0 a0_1 a0_2 a0_3 a0_4 a0_5 a0_6) else (foolscapref12_Right.j0 k false a0_0 a0_1 a0_2 a0_3 a0_4 a0_5 a0_6)) = some r := by rw [if_neg (show ¬ (false = true) by decide)] at H; exact H
      clear H
      have H := H1
      clear H1
      by_cases c9 : a0_3 = true
      · subst c9
        have H1 : (foolscapref12_Right.j0 k (a0_4 == 0 && (a0_5 == 0)) a0_0 a0_1 a0_2 true a0_4 a0_5 a0_6) = some r := by rw [if_pos rfl] at H; exact H
        clear H
        have H := H1
        clear H1
        have H' := Aside0.mk H
        clear H
        have hcz10_0 : w3.cell? ⟨gb170, 0, none⟩ = some (.int .i64 a0_0) := (blk_cell BK170.out 0).trans rfl
        have hcz10_1 : w3.cell? ⟨gb170, 1, none⟩ = some (.int .i64 a0_1) := (blk_cell BK170.out 1).trans rfl
        have hcz10_2 : w3.cell? ⟨gb170, 2, none⟩ = some (.int .i64 a0_2) := (blk_cell BK170.out 2).trans rfl
        have hcz10_3 : w3.cell? ⟨gb170, 3, none⟩ = some (.bool true) := (blk_cell BK170.out 3).trans rfl
        have hcz10_4 : w3.cell? ⟨gb170, 4, none⟩ = some (.int .i64 a0_4) := (blk_cell BK170.out 4).trans rfl
        have hcz10_5 : w3.cell? ⟨gb170, 5, none⟩ = some (.int .i64 a0_5) := (blk_cell BK170.out 5).trans rfl
        have hcz10_6 : w3.cell? ⟨gb170, 6, none⟩ = some (.int .i32 a0_6) := (blk_cell BK170.out 6).trans rfl
        have hfz10_0 := blk_frozen BK170.out 0
        have hfz10_1 := blk_frozen BK170.out 1
        have hfz10_2 := blk_frozen BK170.out 2
        have hfz10_3 := blk_frozen BK170.out 3
        have hfz10_4 := blk_frozen BK170.out 4
        have hfz10_5 := blk_frozen BK170.out 5
        have hfz10_6 := blk_frozen BK170.out 6
        go_wp2_with (first | ((with_reducible refine gate_callee (f := 72) rfl ?_); refine goesL_ (some 12) rfl rfl Try.func72 (by kernel_rfl) rfl #[.agg #[.int .i64 a0_4, .int .i64 a0_5]] rfl (by (try simp only [List.map_toArray, List.map_cons, List.map_nil]); first | done | rfl | (simp only [List.length_drop, List.length_take]; rfl)) ?_; (with_reducible refine (foolscapref12_right.calls a0_4 a0_5 false _ A5.out).mono ?_); rintro e w11 ⟨rfl, hb⟩; refine ⟨_, rfl, ?_⟩; have n0_ := Aside0.mk (blk_below (g := gb170) (o := .cells #[.int .i64 a0_0, .int .i64 a0_1, .int .i64 a0_2, .bool true, .int .i64 a0_4, .int .i64 a0_5, .int .i32 a0_6] 34 (0, 0)) (by (with_reducible repeat (first | refine blk_drewN ?_ _ | refine blk_drew ?_ | refine blk_alloc ?_ _)); exact BK170.out) hb); have n1_ := Aside0.mk (below_step (by repeat (first | (with_reducible first | exact HB.out | apply below_alloc | apply pw_below_drewN | apply below_drew1 | refine below_set ?_ GE170.out) | exact HB.out)) hb); clear BK170; clear HB; have BK170 := n0_; have HB := n1_; clear n0_ n1_; (try clear hb); (try clear hb2); (try clear hk); (try clear hi); have hcz12_0 : w11.cell? ⟨gb170, 0, none⟩ = some (.int .i64 a0_0) := (blk_cell BK170.out 0).trans rfl; have hcz12_1 : w11.cell? ⟨gb170, 1, none⟩ = some (.int .i64 a0_1) := (blk_cell BK170.out 1).trans rfl; have hcz12_2 : w11.cell? ⟨gb170, 2, none⟩ = some (.int .i64 a0_2) := (blk_cell BK170.out 2).trans rfl; have hcz12_3 : w11.cell? ⟨gb170, 3, none⟩ = some (.bool true) := (blk_cell BK170.out 3).trans rfl; have hcz12_4 : w11.cell? ⟨gb170, 4, none⟩ = some (.int .i64 a0_4) := (blk_cell BK170.out 4).trans rfl; have hcz12_5 : w11.cell? ⟨gb170, 5, none⟩ = some (.int .i64 a0_5) := (blk_cell BK170.out 5).trans rfl; have hcz12_6 : w11.cell? ⟨gb170, 6, none⟩ = some (.int .i32 a0_6) := (blk_cell BK170.out 6).trans rfl; have hfz12_0 := blk_frozen BK170.out 0; have hfz12_1 := blk_frozen BK170.out 1; have hfz12_2 := blk_frozen BK170.out 2; have hfz12_3 := blk_frozen BK170.out 3; have hfz12_4 := blk_frozen BK170.out 4; have hfz12_5 := blk_frozen BK170.out 5; have hfz12_6 := blk_frozen BK170.out 6))
        go_meet
        case rel => exact ⟨_, ((a0_4 == 0 && (a0_5 == 0))), (by first | rfl | (simp; done) | (simp [*]; done)), H', ⟨by first | omega | exact Nat.le_refl _⟩, ⟨by (with_reducible repeat (first | refine blk_drewN ?_ _ | refine blk_drew ?_ | refine blk_alloc ?_ _)); exact BK170.out⟩, ⟨by repeat (first | (with_reducible first | exact HB.out | apply below_alloc | apply pw_below_drewN | apply below_drew1 | refine below_set ?_ GE170.out) | exact HB.out)⟩⟩
      · replace c9 := Bool.eq_false_iff.mpr c9
        subst c9
        have H1 : (foolscapref12_Right.j0 k false a0_0 a0_1 a0_2 false a0_4 a0_5 a0_6) = some r := by rw [if_neg (show ¬ (false = true) by decide)] at H; exact H
        clear H
        have H := H1
        clear H1
        have H' := Aside0.mk H
        clear H
        have hcz13_0 : w3.cell? ⟨gb170, 0, none⟩ = some (.int .i64 a0_0) := (blk_cell BK170.out 0).trans rfl
        have hcz13_1 : w3.cell? ⟨gb170, 1, none⟩ = some (.int .i64 a0_1) := (blk_cell BK170.out 1).trans rfl
        have hcz13_2 : w3.cell? ⟨gb170, 2, none⟩ = some (.int .i64 a0_2) := (blk_cell BK170.out 2).trans rfl
        have hcz13_3 : w3.cell? ⟨gb170, 3, none⟩ = some (.bool false) := (blk_cell BK170.out 3).trans rfl
        have hcz13_4 : w3.cell? ⟨gb170, 4, none⟩ = some (.int .i64 a0_4) := (blk_cell BK170.out 4).trans rfl
        have hcz13_5 : w3.cell? ⟨gb170, 5, none⟩ = some (.int .i64 a0_5) := (blk_cell BK170.out 5).trans rfl
        have hcz13_6 : w3.cell? ⟨gb170, 6, none⟩ = some (.int .i32 a0_6) := (blk_cell BK170.out 6).trans rfl
        have hfz13_0 := blk_frozen BK170.out 0
        have hfz13_1 := blk_frozen BK170.out 1
        have hfz13_2 := blk_frozen BK170.out 2
        have hfz13_3 := blk_frozen BK170.out 3
        have hfz13_4 := blk_frozen BK170.out 4
        have hfz13_5 := blk_frozen BK170.out 5
        have hfz13_6 := blk_frozen BK170.out 6
        go_wp2_with (first | ((with_reducible refine gate_callee (f := 72) rfl ?_); refine goesL_ (some 12) rfl rfl Try.func72 (by kernel_rfl) rfl #[.agg #[.int .i64 a0_4, .int .i64 a0_5]] rfl (by (try simp only [List.map_toArray, List.map_cons, List.map_nil]); first | done | rfl | (simp only [List.length_drop, List.length_take]; rfl)) ?_; (with_reducible refine (foolscapref12_right.calls a0_4 a0_5 false _ A5.out).mono ?_); rintro e w14 ⟨rfl, hb⟩; refine ⟨_, rfl, ?_⟩; have n0_ := Aside0.mk (blk_below (g := gb170) (o := .cells #[.int .i64 a0_0, .int .i64 a0_1, .int .i64 a0_2, .bool false, .int .i64 a0_4, .int .i64 a0_5, .int .i32 a0_6] 34 (0, 0)) (by (with_reducible repeat (first | refine blk_drewN ?_ _ | refine blk_drew ?_ | refine blk_alloc ?_ _)); exact BK170.out) hb); have n1_ := Aside0.mk (below_step (by repeat (first | (with_reducible first | exact HB.out | apply below_alloc | apply pw_below_drewN | apply below_drew1 | refine below_set ?_ GE170.out) | exact HB.out)) hb); clear BK170; clear HB; have BK170 := n0_; have HB := n1_; clear n0_ n1_; (try clear hb); (try clear hb2); (try clear hk); (try clear hi); have hcz15_0 : w14.cell? ⟨gb170, 0, none⟩ = some (.int .i64 a0_0) := (blk_cell BK170.out 0).trans rfl; have hcz15_1 : w14.cell? ⟨gb170, 1, none⟩ = some (.int .i64 a0_1) := (blk_cell BK170.out 1).trans rfl; have hcz15_2 : w14.cell? ⟨gb170, 2, none⟩ = some (.int .i64 a0_2) := (blk_cell BK170.out 2).trans rfl; have hcz15_3 : w14.cell? ⟨gb170, 3, none⟩ = some (.bool false) := (blk_cell BK170.out 3).trans rfl; have hcz15_4 : w14.cell? ⟨gb170, 4, none⟩ = some (.int .i64 a0_4) := (blk_cell BK170.out 4).trans rfl; have hcz15_5 : w14.cell? ⟨gb170, 5, none⟩ = some (.int .i64 a0_5) := (blk_cell BK170.out 5).trans rfl; have hcz15_6 : w14.cell? ⟨gb170, 6, none⟩ = some (.int .i32 a0_6) := (blk_cell BK170.out 6).trans rfl; have hfz15_0 := blk_frozen BK170.out 0; have hfz15_1 := blk_frozen BK170.out 1; have hfz15_2 := blk_frozen BK170.out 2; have hfz15_3 := blk_frozen BK170.out 3; have hfz15_4 := blk_frozen BK170.out 4; have hfz15_5 := blk_frozen BK170.out 5; have hfz15_6 := blk_frozen BK170.out 6))
        go_meet
        case rel => exact ⟨_, (false), (by first | rfl | (simp; done) | (simp [*]; done)), H', ⟨by first | omega | exact Nat.le_refl _⟩, ⟨by (with_reducible repeat (first | refine blk_drewN ?_ _ | refine blk_drew ?_ | refine blk_alloc ?_ _)); exact BK170.out⟩, ⟨by repeat (first | (with_reducible first | exact HB.out | apply below_alloc | apply pw_below_drewN | apply below_drew1 | refine below_set ?_ GE170.out) | exact HB.out)⟩⟩
  case rest =>
    clear HC2
    try clear p2
    try clear c5
    try clear c6
    try clear c7
    try clear c9
    try clear hcz10_0
    try clear hcz10_1
    try clear hcz10_2
    try clear hcz10_3
    try clear hcz10_4
    try clear hcz10_5
    try clear hcz10_6
    try clear hcz12_0
    try clear hcz12_1
    try clear hcz12_2
    try clear hcz12_3
    try clear hcz12_4
    try clear hcz12_5
    try clear hcz12_6
    try clear hcz13_0
    try clear hcz13_1
    try clear hcz13_2
    try clear hcz13_3
    try clear hcz13_4
    try clear hcz13_5
    try clear hcz13_6
    try clear hcz15_0
    try clear hcz15_1
    try clear hcz15_2
    try clear hcz15_3
    try clear hcz15_4
    try clear hcz15_5
    try clear hcz15_6
    try clear hcz4_0
    try clear hcz4_1
    try clear hcz4_2
    try clear hcz4_3
    try clear hcz4_4
    try clear hcz4_5
    try clear hcz4_6
    try clear hcz7_0
    try clear hcz7_1
    try clear hcz7_2
    try clear hcz7_3
    try clear hcz7_4
    try clear hcz7_5
    try clear hcz7_6
    try clear hfz10_0
    try clear hfz10_1
    try clear hfz10_2
    try clear hfz10_3
    try clear hfz10_4
    try clear hfz10_5
    try clear hfz10_6
    try clear hfz12_0
    try clear hfz12_1
    try clear hfz12_2
    try clear hfz12_3
    try clear hfz12_4
    try clear hfz12_5
    try clear hfz12_6
    try clear hfz13_0
    try clear hfz13_1
    try clear hfz13_2
    try clear hfz13_3
    try clear hfz13_4
    try clear hfz13_5
    try clear hfz13_6
    try clear hfz15_0
    try clear hfz15_1
    try clear hfz15_2
    try clear hfz15_3
    try clear hfz15_4
    try clear hfz15_5
    try clear hfz15_6
    try clear hfz4_0
    try clear hfz4_1
    try clear hfz4_2
    try clear hfz4_3
    try clear hfz4_4
    try clear hfz4_5
    try clear hfz4_6
    try clear hfz7_0
    try clear hfz7_1
    try clear hfz7_2
    try clear hfz7_3
    try clear hfz7_4
    try clear hfz7_5
    try clear hfz7_6
    obtain ⟨kq, x4_1, rfl, HA, HJ1, BK170, HB⟩ := hcut
    cases kq with
    | zero => exact absurd HA.out (by simp [foolscapref12_Right.j0])
    | succ kj1 =>
      have H := HA.out
      clear HA
      simp only [foolscapref12_Right.j0] at H
      by_cases c16 : a0_3 = true
      · subst c16
        have H1 : ((foolscapref01_Size.f kj1 a0_6).bind fun t172 => ((foolscapref12_right.f a0_0 a0_1).bind fun t173 => (if t173 = true then (if a0_2 ≥ 1 then (if a0_2 ≤ 4294967295 then (if x4_1 = true then (if a0_4 < a0_0 then (some (decide (t172 > 0))) else (some false)) else (some false)) else (some false)) else (some false)) else (some false)))) = some r := by rw [if_pos rfl] at H; exact H
        clear H
        have H := H1
        clear H1
        replace H := Option.bind_eq_some_iff.mp H
        obtain ⟨t172, A170, H⟩ := H
        replace H : ((foolscapref12_right.f a0_0 a0_1).bind fun t173 => (if t173 = true then (if a0_2 ≥ 1 then (if a0_2 ≤ 4294967295 then (if x4_1 = true then (if a0_4 < a0_0 then (some (decide (t172 > 0))) else (some false)) else (some false)) else (some false)) else (some false)) else (some false))) = some r := H
        have A17 := Aside0.mk A170
        clear A170
        replace H := Option.bind_eq_some_iff.mp H
        obtain ⟨t173, A180, H⟩ := H
        replace H : (if t173 = true then (if a0_2 ≥ 1 then (if a0_2 ≤ 4294967295 then (if x4_1 = true then (if a0_4 < a0_0 then (some (decide (t172 > 0))) else (some false)) else (some false)) else (some false)) else (some false)) else (some false)) = some r := H
        have A18 := Aside0.mk A180
        clear A180
        by_cases c19 : t173 = true
        · subst c19
          have H1 : (if a0_2 ≥ 1 then (if a0_2 ≤ 4294967295 then (if x4_1 = true then (if a0_4 < a0_0 then (some (decide (t172 > 0))) else (some false)) else (some false)) else (some false)) else (some false)) = some r := by rw [if_pos rfl] at H; exact H
          clear H
          have H := H1
          clear H1
          by_cases c20 : a0_2 ≥ 1
          · rw [if_pos c20] at H
            have c20b0 : decide (1 ≤ a0_2) = true := decide_eq_true c20
            clear c20
            by_cases c21 : a0_2 ≤ 4294967295
            · rw [if_pos c21] at H
              have c21b0 : decide (a0_2 ≤ 4294967295) = true := decide_eq_true c21
              clear c21
              by_cases c22 : x4_1 = true
              · subst c22
                have H1 : (if a0_4 < a0_0 then (some (decide (t172 > 0))) else (some false)) = some r := by rw [if_pos rfl] at H; exact H
                clear H
                have H := H1
                clear H1
                by_cases c23 : a0_4 < a0_0
                · rw [if_pos c23] at H
                  have c23b0 : decide (a0_4 < a0_0) = true := decide_eq_true c23
                  clear c23
                  obtain rfl := Option.some.inj H
                  have hcz24_0 : wc.cell? ⟨gb170, 0, none⟩ = some (.int .i64 a0_0) := (blk_cell BK170.out 0).trans rfl
                  have hcz24_1 : wc.cell? ⟨gb170, 1, none⟩ = some (.int .i64 a0_1) := (blk_cell BK170.out 1).trans rfl
                  have hcz24_2 : wc.cell? ⟨gb170, 2, none⟩ = some (.int .i64 a0_2) := (blk_cell BK170.out 2).trans rfl
                  have hcz24_3 : wc.cell? ⟨gb170, 3, none⟩ = some (.bool true) := (blk_cell BK170.out 3).trans rfl
                  have hcz24_4 : wc.cell? ⟨gb170, 4, none⟩ = some (.int .i64 a0_4) := (blk_cell BK170.out 4).trans rfl
                  have hcz24_5 : wc.cell? ⟨gb170, 5, none⟩ = some (.int .i64 a0_5) := (blk_cell BK170.out 5).trans rfl
                  have hcz24_6 : wc.cell? ⟨gb170, 6, none⟩ = some (.int .i32 a0_6) := (blk_cell BK170.out 6).trans rfl
                  have hfz24_0 := blk_frozen BK170.out 0
                  have hfz24_1 := blk_frozen BK170.out 1
                  have hfz24_2 := blk_frozen BK170.out 2
                  have hfz24_3 := blk_frozen BK170.out 3
                  have hfz24_4 := blk_frozen BK170.out 4
                  have hfz24_5 := blk_frozen BK170.out 5
                  have hfz24_6 := blk_frozen BK170.out 6
                  go_wp2_with (first | ((with_reducible refine gate_callee (f := 13) rfl ?_); refine goesL_ (some 27) rfl rfl Try.func13 (by kernel_rfl) rfl #[.int .i32 a0_6] rfl (by (try simp only [List.map_toArray, List.map_cons, List.map_nil]); first | done | rfl | (simp only [List.length_drop, List.length_take]; rfl)) ?_; (with_reducible refine (foolscapref01_Size.calls kj1 a0_6 t172 _ A17.out).mono ?_); rintro e w' ⟨rfl, ⟨nd, rfl⟩⟩; refine ⟨_, rfl, ?_⟩) | ((with_reducible refine gate_callee (f := 72) rfl ?_); refine goesL_ (some 31) rfl rfl Try.func72 (by kernel_rfl) rfl #[.agg #[.int .i64 a0_0, .int .i64 a0_1]] rfl (by (try simp only [List.map_toArray, List.map_cons, List.map_nil]); first | done | rfl | (simp only [List.length_drop, List.length_take]; rfl)) ?_; (with_reducible refine (foolscapref12_right.calls a0_0 a0_1 true _ A18.out).mono ?_); rintro e w25 ⟨rfl, hb⟩; refine ⟨_, rfl, ?_⟩; have n0_ := Aside0.mk (blk_below (g := gb170) (o := .cells #[.int .i64 a0_0, .int .i64 a0_1, .int .i64 a0_2, .bool true, .int .i64 a0_4, .int .i64 a0_5, .int .i32 a0_6] 34 (0, 0)) (by (with_reducible repeat (first | refine blk_drewN ?_ _ | refine blk_drew ?_ | refine blk_alloc ?_ _)); exact BK170.out) hb); have n1_ := Aside0.mk (below_step (by repeat (first | (with_reducible first | exact HB.out | apply below_alloc | apply pw_below_drewN | apply below_drew1 | refine below_set ?_ GE170.out) | exact HB.out)) hb); clear BK170; clear HB; have BK170 := n0_; have HB := n1_; clear n0_ n1_; (try clear hb); (try clear hb2); (try clear hk); (try clear hi); have hcz26_0 : w25.cell? ⟨gb170, 0, none⟩ = some (.int .i64 a0_0) := (blk_cell BK170.out 0).trans rfl; have hcz26_1 : w25.cell? ⟨gb170, 1, none⟩ = some (.int .i64 a0_1) := (blk_cell BK170.out 1).trans rfl; have hcz26_2 : w25.cell? ⟨gb170, 2, none⟩ = some (.int .i64 a0_2) := (blk_cell BK170.out 2).trans rfl; have hcz26_3 : w25.cell? ⟨gb170, 3, none⟩ = some (.bool true) := (blk_cell BK170.out 3).trans rfl; have hcz26_4 : w25.cell? ⟨gb170, 4, none⟩ = some (.int .i64 a0_4) := (blk_cell BK170.out 4).trans rfl; have hcz26_5 : w25.cell? ⟨gb170, 5, none⟩ = some (.int .i64 a0_5) := (blk_cell BK170.out 5).trans rfl; have hcz26_6 : w25.cell? ⟨gb170, 6, none⟩ = some (.int .i32 a0_6) := (blk_cell BK170.out 6).trans rfl; have hfz26_0 := blk_frozen BK170.out 0; have hfz26_1 := blk_frozen BK170.out 1; have hfz26_2 := blk_frozen BK170.out 2; have hfz26_3 := blk_frozen BK170.out 3; have hfz26_4 := blk_frozen BK170.out 4; have hfz26_5 := blk_frozen BK170.out 5; have hfz26_6 := blk_frozen BK170.out 6))
                  go_ret
                  exact ⟨by first | rfl | (simp [errW_none, errW_some] <;> rfl) | (simp [*, errW_none, errW_some] <;> rfl), by repeat (first | (with_reducible first | exact HB.out | apply below_alloc | apply pw_below_drewN | apply below_drew1 | refine below_set ?_ GE170.out) | exact HB.out)⟩
                · rw [if_neg c23] at H
                  have c23b0 : decide (a0_4 < a0_0) = false := decide_eq_false c23
                  clear c23
                  obtain rfl := Option.some.inj H
                  have hcz27_0 : wc.cell? ⟨gb170, 0, none⟩ = some (.int .i64 a0_0) := (blk_cell BK170.out 0).trans rfl
                  have hcz27_1 : wc.cell? ⟨gb170, 1, none⟩ = some (.int .i64 a0_1) := (blk_cell BK170.out 1).trans rfl
                  have hcz27_2 : wc.cell? ⟨gb170, 2, none⟩ = some (.int .i64 a0_2) := (blk_cell BK170.out 2).trans rfl
                  have hcz27_3 : wc.cell? ⟨gb170, 3, none⟩ = some (.bool true) := (blk_cell BK170.out 3).trans rfl
                  have hcz27_4 : wc.cell? ⟨gb170, 4, none⟩ = some (.int .i64 a0_4) := (blk_cell BK170.out 4).trans rfl
                  have hcz27_5 : wc.cell? ⟨gb170, 5, none⟩ = some (.int .i64 a0_5) := (blk_cell BK170.out 5).trans rfl
                  have hcz27_6 : wc.cell? ⟨gb170, 6, none⟩ = some (.int .i32 a0_6) := (blk_cell BK170.out 6).trans rfl
                  have hfz27_0 := blk_frozen BK170.out 0
                  have hfz27_1 := blk_frozen BK170.out 1
                  have hfz27_2 := blk_frozen BK170.out 2
                  have hfz27_3 := blk_frozen BK170.out 3
                  have hfz27_4 := blk_frozen BK170.out 4
                  have hfz27_5 := blk_frozen BK170.out 5
                  have hfz27_6 := blk_frozen BK170.out 6
                  go_wp2_with (first | ((with_reducible refine gate_callee (f := 13) rfl ?_); refine goesL_ (some 27) rfl rfl Try.func13 (by kernel_rfl) rfl #[.int .i32 a0_6] rfl (by (try simp only [List.map_toArray, List.map_cons, List.map_nil]); first | done | rfl | (simp only [List.length_drop, List.length_take]; rfl)) ?_; (with_reducible refine (foolscapref01_Size.calls kj1 a0_6 t172 _ A17.out).mono ?_); rintro e w' ⟨rfl, ⟨nd, rfl⟩⟩; refine ⟨_, rfl, ?_⟩) | ((with_reducible refine gate_callee (f := 72) rfl ?_); refine goesL_ (some 31) rfl rfl Try.func72 (by kernel_rfl) rfl #[.agg #[.int .i64 a0_0, .int .i64 a0_1]] rfl (by (try simp only [List.map_toArray, List.map_cons, List.map_nil]); first | done | rfl | (simp only [List.length_drop, List.length_take]; rfl)) ?_; (with_reducible refine (foolscapref12_right.calls a0_0 a0_1 true _ A18.out).mono ?_); rintro e w28 ⟨rfl, hb⟩; refine ⟨_, rfl, ?_⟩; have n0_ := Aside0.mk (blk_below (g := gb170) (o := .cells #[.int .i64 a0_0, .int .i64 a0_1, .int .i64 a0_2, .bool true, .int .i64 a0_4, .int .i64 a0_5, .int .i32 a0_6] 34 (0, 0)) (by (with_reducible repeat (first | refine blk_drewN ?_ _ | refine blk_drew ?_ | refine blk_alloc ?_ _)); exact BK170.out) hb); have n1_ := Aside0.mk (below_step (by repeat (first | (with_reducible first | exact HB.out | apply below_alloc | apply pw_below_drewN | apply below_drew1 | refine below_set ?_ GE170.out) | exact HB.out)) hb); clear BK170; clear HB; have BK170 := n0_; have HB := n1_; clear n0_ n1_; (try clear hb); (try clear hb2); (try clear hk); (try clear hi); have hcz29_0 : w28.cell? ⟨gb170, 0, none⟩ = some (.int .i64 a0_0) := (blk_cell BK170.out 0).trans rfl; have hcz29_1 : w28.cell? ⟨gb170, 1, none⟩ = some (.int .i64 a0_1) := (blk_cell BK170.out 1).trans rfl; have hcz29_2 : w28.cell? ⟨gb170, 2, none⟩ = some (.int .i64 a0_2) := (blk_cell BK170.out 2).trans rfl; have hcz29_3 : w28.cell? ⟨gb170, 3, none⟩ = some (.bool true) := (blk_cell BK170.out 3).trans rfl; have hcz29_4 : w28.cell? ⟨gb170, 4, none⟩ = some (.int .i64 a0_4) := (blk_cell BK170.out 4).trans rfl; have hcz29_5 : w28.cell? ⟨gb170, 5, none⟩ = some (.int .i64 a0_5) := (blk_cell BK170.out 5).trans rfl; have hcz29_6 : w28.cell? ⟨gb170, 6, none⟩ = some (.int .i32 a0_6) := (blk_cell BK170.out 6).trans rfl; have hfz29_0 := blk_frozen BK170.out 0; have hfz29_1 := blk_frozen BK170.out 1; have hfz29_2 := blk_frozen BK170.out 2; have hfz29_3 := blk_frozen BK170.out 3; have hfz29_4 := blk_frozen BK170.out 4; have hfz29_5 := blk_frozen BK170.out 5; have hfz29_6 := blk_frozen BK170.out 6))
                  go_ret
                  exact ⟨by first | rfl | (simp [errW_none, errW_some] <;> rfl) | (simp [*, errW_none, errW_some] <;> rfl), by repeat (first | (with_reducible first | exact HB.out | apply below_alloc | apply pw_below_drewN | apply below_drew1 | refine below_set ?_ GE170.out) | exact HB.out)⟩
              · replace c22 := Bool.eq_false_iff.mpr c22
                subst c22
                have H1 : (some false) = some r := by rw [if_neg (show ¬ (false = true) by decide)] at H; exact H
                clear H
                have H := H1
                clear H1
                obtain rfl := Option.some.inj H
                have hcz30_0 : wc.cell? ⟨gb170, 0, none⟩ = some (.int .i64 a0_0) := (blk_cell BK170.out 0).trans rfl
                have hcz30_1 : wc.cell? ⟨gb170, 1, none⟩ = some (.int .i64 a0_1) := (blk_cell BK170.out 1).trans rfl
                have hcz30_2 : wc.cell? ⟨gb170, 2, none⟩ = some (.int .i64 a0_2) := (blk_cell BK170.out 2).trans rfl
                have hcz30_3 : wc.cell? ⟨gb170, 3, none⟩ = some (.bool true) := (blk_cell BK170.out 3).trans rfl
                have hcz30_4 : wc.cell? ⟨gb170, 4, none⟩ = some (.int .i64 a0_4) := (blk_cell BK170.out 4).trans rfl
                have hcz30_5 : wc.cell? ⟨gb170, 5, none⟩ = some (.int .i64 a0_5) := (blk_cell BK170.out 5).trans rfl
                have hcz30_6 : wc.cell? ⟨gb170, 6, none⟩ = some (.int .i32 a0_6) := (blk_cell BK170.out 6).trans rfl
                have hfz30_0 := blk_frozen BK170.out 0
                have hfz30_1 := blk_frozen BK170.out 1
                have hfz30_2 := blk_frozen BK170.out 2
                have hfz30_3 := blk_frozen BK170.out 3
                have hfz30_4 := blk_frozen BK170.out 4
                have hfz30_5 := blk_frozen BK170.out 5
                have hfz30_6 := blk_frozen BK170.out 6
                go_wp2_with (first | ((with_reducible refine gate_callee (f := 13) rfl ?_); refine goesL_ (some 27) rfl rfl Try.func13 (by kernel_rfl) rfl #[.int .i32 a0_6] rfl (by (try simp only [List.map_toArray, List.map_cons, List.map_nil]); first | done | rfl | (simp only [List.length_drop, List.length_take]; rfl)) ?_; (with_reducible refine (foolscapref01_Size.calls kj1 a0_6 t172 _ A17.out).mono ?_); rintro e w' ⟨rfl, ⟨nd, rfl⟩⟩; refine ⟨_, rfl, ?_⟩) | ((with_reducible refine gate_callee (f := 72) rfl ?_); refine goesL_ (some 31) rfl rfl Try.func72 (by kernel_rfl) rfl #[.agg #[.int .i64 a0_0, .int .i64 a0_1]] rfl (by (try simp only [List.map_toArray, List.map_cons, List.map_nil]); first | done | rfl | (simp only [List.length_drop, List.length_take]; rfl)) ?_; (with_reducible refine (foolscapref12_right.calls a0_0 a0_1 true _ A18.out).mono ?_); rintro e w31 ⟨rfl, hb⟩; refine ⟨_, rfl, ?_⟩; have n0_ := Aside0.mk (blk_below (g := gb170) (o := .cells #[.int .i64 a0_0, .int .i64 a0_1, .int .i64 a0_2, .bool true, .int .i64 a0_4, .int .i64 a0_5, .int .i32 a0_6] 34 (0, 0)) (by (with_reducible repeat (first | refine blk_drewN ?_ _ | refine blk_drew ?_ | refine blk_alloc ?_ _)); exact BK170.out) hb); have n1_ := Aside0.mk (below_step (by repeat (first | (with_reducible first | exact HB.out | apply below_alloc | apply pw_below_drewN | apply below_drew1 | refine below_set ?_ GE170.out) | exact HB.out)) hb); clear BK170; clear HB; have BK170 := n0_; have HB := n1_; clear n0_ n1_; (try clear hb); (try clear hb2); (try clear hk); (try clear hi); have hcz32_0 : w31.cell? ⟨gb170, 0, none⟩ = some (.int .i64 a0_0) := (blk_cell BK170.out 0).trans rfl; have hcz32_1 : w31.cell? ⟨gb170, 1, none⟩ = some (.int .i64 a0_1) := (blk_cell BK170.out 1).trans rfl; have hcz32_2 : w31.cell? ⟨gb170, 2, none⟩ = some (.int .i64 a0_2) := (blk_cell BK170.out 2).trans rfl; have hcz32_3 : w31.cell? ⟨gb170, 3, none⟩ = some (.bool true) := (blk_cell BK170.out 3).trans rfl; have hcz32_4 : w31.cell? ⟨gb170, 4, none⟩ = some (.int .i64 a0_4) := (blk_cell BK170.out 4).trans rfl; have hcz32_5 : w31.cell? ⟨gb170, 5, none⟩ = some (.int .i64 a0_5) := (blk_cell BK170.out 5).trans rfl; have hcz32_6 : w31.cell? ⟨gb170, 6, none⟩ = some (.int .i32 a0_6) := (blk_cell BK170.out 6).trans rfl; have hfz32_0 := blk_frozen BK170.out 0; have hfz32_1 := blk_frozen BK170.out 1; have hfz32_2 := blk_frozen BK170.out 2; have hfz32_3 := blk_frozen BK170.out 3; have hfz32_4 := blk_frozen BK170.out 4; have hfz32_5 := blk_frozen BK170.out 5; have hfz32_6 := blk_frozen BK170.out 6))
                go_ret
                exact ⟨by first | rfl | (simp [errW_none, errW_some] <;> rfl) | (simp [*, errW_none, errW_some] <;> rfl), by repeat (first | (with_reducible first | exact HB.out | apply below_alloc | apply pw_below_drewN | apply below_drew1 | refine below_set ?_ GE170.out) | exact HB.out)⟩
            · rw [if_neg c21] at H
              have c21b0 : decide (a0_2 ≤ 4294967295) = false := decide_eq_false c21
              clear c21
              obtain rfl := Option.some.inj H
              have hcz33_0 : wc.cell? ⟨gb170, 0, none⟩ = some (.int .i64 a0_0) := (blk_cell BK170.out 0).trans rfl
              have hcz33_1 : wc.cell? ⟨gb170, 1, none⟩ = some (.int .i64 a0_1) := (blk_cell BK170.out 1).trans rfl
              have hcz33_2 : wc.cell? ⟨gb170, 2, none⟩ = some (.int .i64 a0_2) := (blk_cell BK170.out 2).trans rfl
              have hcz33_3 : wc.cell? ⟨gb170, 3, none⟩ = some (.bool true) := (blk_cell BK170.out 3).trans rfl
              have hcz33_4 : wc.cell? ⟨gb170, 4, none⟩ = some (.int .i64 a0_4) := (blk_cell BK170.out 4).trans rfl
              have hcz33_5 : wc.cell? ⟨gb170, 5, none⟩ = some (.int .i64 a0_5) := (blk_cell BK170.out 5).trans rfl
              have hcz33_6 : wc.cell? ⟨gb170, 6, none⟩ = some (.int .i32 a0_6) := (blk_cell BK170.out 6).trans rfl
              have hfz33_0 := blk_frozen BK170.out 0
              have hfz33_1 := blk_frozen BK170.out 1
              have hfz33_2 := blk_frozen BK170.out 2
              have hfz33_3 := blk_frozen BK170.out 3
              have hfz33_4 := blk_frozen BK170.out 4
              have hfz33_5 := blk_frozen BK170.out 5
              have hfz33_6 := blk_frozen BK170.out 6
              go_wp2_with (first | ((with_reducible refine gate_callee (f := 13) rfl ?_); refine goesL_ (some 27) rfl rfl Try.func13 (by kernel_rfl) rfl #[.int .i32 a0_6] rfl (by (try simp only [List.map_toArray, List.map_cons, List.map_nil]); first | done | rfl | (simp only [List.length_drop, List.length_take]; rfl)) ?_; (with_reducible refine (foolscapref01_Size.calls kj1 a0_6 t172 _ A17.out).mono ?_); rintro e w' ⟨rfl, ⟨nd, rfl⟩⟩; refine ⟨_, rfl, ?_⟩) | ((with_reducible refine gate_callee (f := 72) rfl ?_); refine goesL_ (some 31) rfl rfl Try.func72 (by kernel_rfl) rfl #[.agg #[.int .i64 a0_0, .int .i64 a0_1]] rfl (by (try simp only [List.map_toArray, List.map_cons, List.map_nil]); first | done | rfl | (simp only [List.length_drop, List.length_take]; rfl)) ?_; (with_reducible refine (foolscapref12_right.calls a0_0 a0_1 true _ A18.out).mono ?_); rintro e w34 ⟨rfl, hb⟩; refine ⟨_, rfl, ?_⟩; have n0_ := Aside0.mk (blk_below (g := gb170) (o := .cells #[.int .i64 a0_0, .int .i64 a0_1, .int .i64 a0_2, .bool true, .int .i64 a0_4, .int .i64 a0_5, .int .i32 a0_6] 34 (0, 0)) (by (with_reducible repeat (first | refine blk_drewN ?_ _ | refine blk_drew ?_ | refine blk_alloc ?_ _)); exact BK170.out) hb); have n1_ := Aside0.mk (below_step (by repeat (first | (with_reducible first | exact HB.out | apply below_alloc | apply pw_below_drewN | apply below_drew1 | refine below_set ?_ GE170.out) | exact HB.out)) hb); clear BK170; clear HB; have BK170 := n0_; have HB := n1_; clear n0_ n1_; (try clear hb); (try clear hb2); (try clear hk); (try clear hi); have hcz35_0 : w34.cell? ⟨gb170, 0, none⟩ = some (.int .i64 a0_0) := (blk_cell BK170.out 0).trans rfl; have hcz35_1 : w34.cell? ⟨gb170, 1, none⟩ = some (.int .i64 a0_1) := (blk_cell BK170.out 1).trans rfl; have hcz35_2 : w34.cell? ⟨gb170, 2, none⟩ = some (.int .i64 a0_2) := (blk_cell BK170.out 2).trans rfl; have hcz35_3 : w34.cell? ⟨gb170, 3, none⟩ = some (.bool true) := (blk_cell BK170.out 3).trans rfl; have hcz35_4 : w34.cell? ⟨gb170, 4, none⟩ = some (.int .i64 a0_4) := (blk_cell BK170.out 4).trans rfl; have hcz35_5 : w34.cell? ⟨gb170, 5, none⟩ = some (.int .i64 a0_5) := (blk_cell BK170.out 5).trans rfl; have hcz35_6 : w34.cell? ⟨gb170, 6, none⟩ = some (.int .i32 a0_6) := (blk_cell BK170.out 6).trans rfl; have hfz35_0 := blk_frozen BK170.out 0; have hfz35_1 := blk_frozen BK170.out 1; have hfz35_2 := blk_frozen BK170.out 2; have hfz35_3 := blk_frozen BK170.out 3; have hfz35_4 := blk_frozen BK170.out 4; have hfz35_5 := blk_frozen BK170.out 5; have hfz35_6 := blk_frozen BK170.out 6))
              go_ret
              exact ⟨by first | rfl | (simp [errW_none, errW_some] <;> rfl) | (simp [*, errW_none, errW_some] <;> rfl), by repeat (first | (with_reducible first | exact HB.out | apply below_alloc | apply pw_below_drewN | apply below_drew1 | refine below_set ?_ GE170.out) | exact HB.out)⟩
          · rw [if_neg c20] at H
            have c20b0 : decide (1 ≤ a0_2) = false := decide_eq_false c20
            clear c20
            obtain rfl := Option.some.inj H
            have hcz36_0 : wc.cell? ⟨gb170, 0, none⟩ = some (.int .i64 a0_0) := (blk_cell BK170.out 0).trans rfl
            have hcz36_1 : wc.cell? ⟨gb170, 1, none⟩ = some (.int .i64 a0_1) := (blk_cell BK170.out 1).trans rfl
            have hcz36_2 : wc.cell? ⟨gb170, 2, none⟩ = some (.int .i64 a0_2) := (blk_cell BK170.out 2).trans rfl
            have hcz36_3 : wc.cell? ⟨gb170, 3, none⟩ = some (.bool true) := (blk_cell BK170.out 3).trans rfl
            have hcz36_4 : wc.cell? ⟨gb170, 4, none⟩ = some (.int .i64 a0_4) := (blk_cell BK170.out 4).trans rfl
            have hcz36_5 : wc.cell? ⟨gb170, 5, none⟩ = some (.int .i64 a0_5) := (blk_cell BK170.out 5).trans rfl
            have hcz36_6 : wc.cell? ⟨gb170, 6, none⟩ = some (.int .i32 a0_6) := (blk_cell BK170.out 6).trans rfl
            have hfz36_0 := blk_frozen BK170.out 0
            have hfz36_1 := blk_frozen BK170.out 1
            have hfz36_2 := blk_frozen BK170.out 2
            have hfz36_3 := blk_frozen BK170.out 3
            have hfz36_4 := blk_frozen BK170.out 4
            have hfz36_5 := blk_frozen BK170.out 5
            have hfz36_6 := blk_frozen BK170.out 6
            go_wp2_with (first | ((with_reducible refine gate_callee (f := 13) rfl ?_); refine goesL_ (some 27) rfl rfl Try.func13 (by kernel_rfl) rfl #[.int .i32 a0_6] rfl (by (try simp only [List.map_toArray, List.map_cons, List.map_nil]); first | done | rfl | (simp only [List.length_drop, List.length_take]; rfl)) ?_; (with_reducible refine (foolscapref01_Size.calls kj1 a0_6 t172 _ A17.out).mono ?_); rintro e w' ⟨rfl, ⟨nd, rfl⟩⟩; refine ⟨_, rfl, ?_⟩) | ((with_reducible refine gate_callee (f := 72) rfl ?_); refine goesL_ (some 31) rfl rfl Try.func72 (by kernel_rfl) rfl #[.agg #[.int .i64 a0_0, .int .i64 a0_1]] rfl (by (try simp only [List.map_toArray, List.map_cons, List.map_nil]); first | done | rfl | (simp only [List.length_drop, List.length_take]; rfl)) ?_; (with_reducible refine (foolscapref12_right.calls a0_0 a0_1 true _ A18.out).mono ?_); rintro e w37 ⟨rfl, hb⟩; refine ⟨_, rfl, ?_⟩; have n0_ := Aside0.mk (blk_below (g := gb170) (o := .cells #[.int .i64 a0_0, .int .i64 a0_1, .int .i64 a0_2, .bool true, .int .i64 a0_4, .int .i64 a0_5, .int .i32 a0_6] 34 (0, 0)) (by (with_reducible repeat (first | refine blk_drewN ?_ _ | refine blk_drew ?_ | refine blk_alloc ?_ _)); exact BK170.out) hb); have n1_ := Aside0.mk (below_step (by repeat (first | (with_reducible first | exact HB.out | apply below_alloc | apply pw_below_drewN | apply below_drew1 | refine below_set ?_ GE170.out) | exact HB.out)) hb); clear BK170; clear HB; have BK170 := n0_; have HB := n1_; clear n0_ n1_; (try clear hb); (try clear hb2); (try clear hk); (try clear hi); have hcz38_0 : w37.cell? ⟨gb170, 0, none⟩ = some (.int .i64 a0_0) := (blk_cell BK170.out 0).trans rfl; have hcz38_1 : w37.cell? ⟨gb170, 1, none⟩ = some (.int .i64 a0_1) := (blk_cell BK170.out 1).trans rfl; have hcz38_2 : w37.cell? ⟨gb170, 2, none⟩ = some (.int .i64 a0_2) := (blk_cell BK170.out 2).trans rfl; have hcz38_3 : w37.cell? ⟨gb170, 3, none⟩ = some (.bool true) := (blk_cell BK170.out 3).trans rfl; have hcz38_4 : w37.cell? ⟨gb170, 4, none⟩ = some (.int .i64 a0_4) := (blk_cell BK170.out 4).trans rfl; have hcz38_5 : w37.cell? ⟨gb170, 5, none⟩ = some (.int .i64 a0_5) := (blk_cell BK170.out 5).trans rfl; have hcz38_6 : w37.cell? ⟨gb170, 6, none⟩ = some (.int .i32 a0_6) := (blk_cell BK170.out 6).trans rfl; have hfz38_0 := blk_frozen BK170.out 0; have hfz38_1 := blk_frozen BK170.out 1; have hfz38_2 := blk_frozen BK170.out 2; have hfz38_3 := blk_frozen BK170.out 3; have hfz38_4 := blk_frozen BK170.out 4; have hfz38_5 := blk_frozen BK170.out 5; have hfz38_6 := blk_frozen BK170.out 6))
            go_ret
            exact ⟨by first | rfl | (simp [errW_none, errW_some] <;> rfl) | (simp [*, errW_none, errW_some] <;> rfl), by repeat (first | (with_reducible first | exact HB.out | apply below_alloc | apply pw_below_drewN | apply below_drew1 | refine below_set ?_ GE170.out) | exact HB.out)⟩
        · replace c19 := Bool.eq_false_iff.mpr c19
          subst c19
          have H1 : (some false) = some r := by rw [if_neg (show ¬ (false = true) by decide)] at H; exact H
          clear H
          have H := H1
          clear H1
          obtain rfl := Option.some.inj H
          have hcz39_0 : wc.cell? ⟨gb170, 0, none⟩ = some (.int .i64 a0_0) := (blk_cell BK170.out 0).trans rfl
          have hcz39_1 : wc.cell? ⟨gb170, 1, none⟩ = some (.int .i64 a0_1) := (blk_cell BK170.out 1).trans rfl
          have hcz39_2 : wc.cell? ⟨gb170, 2, none⟩ = some (.int .i64 a0_2) := (blk_cell BK170.out 2).trans rfl
          have hcz39_3 : wc.cell? ⟨gb170, 3, none⟩ = some (.bool true) := (blk_cell BK170.out 3).trans rfl
          have hcz39_4 : wc.cell? ⟨gb170, 4, none⟩ = some (.int .i64 a0_4) := (blk_cell BK170.out 4).trans rfl
          have hcz39_5 : wc.cell? ⟨gb170, 5, none⟩ = some (.int .i64 a0_5) := (blk_cell BK170.out 5).trans rfl
          have hcz39_6 : wc.cell? ⟨gb170, 6, none⟩ = some (.int .i32 a0_6) := (blk_cell BK170.out 6).trans rfl
          have hfz39_0 := blk_frozen BK170.out 0
          have hfz39_1 := blk_frozen BK170.out 1
          have hfz39_2 := blk_frozen BK170.out 2
          have hfz39_3 := blk_frozen BK170.out 3
          have hfz39_4 := blk_frozen BK170.out 4
          have hfz39_5 := blk_frozen BK170.out 5
          have hfz39_6 := blk_frozen BK170.out 6
          go_wp2_with (first | ((with_reducible refine gate_callee (f := 13) rfl ?_); refine goesL_ (some 27) rfl rfl Try.func13 (by kernel_rfl) rfl #[.int .i32 a0_6] rfl (by (try simp only [List.map_toArray, List.map_cons, List.map_nil]); first | done | rfl | (simp only [List.length_drop, List.length_take]; rfl)) ?_; (with_reducible refine (foolscapref01_Size.calls kj1 a0_6 t172 _ A17.out).mono ?_); rintro e w' ⟨rfl, ⟨nd, rfl⟩⟩; refine ⟨_, rfl, ?_⟩) | ((with_reducible refine gate_callee (f := 72) rfl ?_); refine goesL_ (some 31) rfl rfl Try.func72 (by kernel_rfl) rfl #[.agg #[.int .i64 a0_0, .int .i64 a0_1]] rfl (by (try simp only [List.map_toArray, List.map_cons, List.map_nil]); first | done | rfl | (simp only [List.length_drop, List.length_take]; rfl)) ?_; (with_reducible refine (foolscapref12_right.calls a0_0 a0_1 false _ A18.out).mono ?_); rintro e w40 ⟨rfl, hb⟩; refine ⟨_, rfl, ?_⟩; have n0_ := Aside0.mk (blk_below (g := gb170) (o := .cells #[.int .i64 a0_0, .int .i64 a0_1, .int .i64 a0_2, .bool true, .int .i64 a0_4, .int .i64 a0_5, .int .i32 a0_6] 34 (0, 0)) (by (with_reducible repeat (first | refine blk_drewN ?_ _ | refine blk_drew ?_ | refine blk_alloc ?_ _)); exact BK170.out) hb); have n1_ := Aside0.mk (below_step (by repeat (first | (with_reducible first | exact HB.out | apply below_alloc | apply pw_below_drewN | apply below_drew1 | refine below_set ?_ GE170.out) | exact HB.out)) hb); clear BK170; clear HB; have BK170 := n0_; have HB := n1_; clear n0_ n1_; (try clear hb); (try clear hb2); (try clear hk); (try clear hi)))
          go_ret
          exact ⟨by first | rfl | (simp [errW_none, errW_some] <;> rfl) | (simp [*, errW_none, errW_some] <;> rfl), by repeat (first | (with_reducible first | exact HB.out | apply below_alloc | apply pw_below_drewN | apply below_drew1 | refine below_set ?_ GE170.out) | exact HB.out)⟩
      · replace c16 := Bool.eq_false_iff.mpr c16
        subst c16
        have H1 : ((foolscapref12_right.f a0_0 a0_1).bind fun t174 => (if t174 = true then (if a0_2 ≥ 1 then (if a0_2 ≤ 4294967295 then (if x4_1 = true then (if a0_4 < a0_0 then (some (a0_6 == 0)) else (some false)) else (some false)) else (some false)) else (some false)) else (some false))) = some r := by rw [if_neg (show ¬ (false = true) by decide)] at H; exact H
        clear H
        have H := H1
        clear H1
        replace H := Option.bind_eq_some_iff.mp H
        obtain ⟨t174, A410, H⟩ := H
        replace H : (if t174 = true then (if a0_2 ≥ 1 then (if a0_2 ≤ 4294967295 then (if x4_1 = true then (if a0_4 < a0_0 then (some (a0_6 == 0)) else (some false)) else (some false)) else (some false)) else (some false)) else (some false)) = some r := H
        have A41 := Aside0.mk A410
        clear A410
        by_cases c42 : t174 = true
        · subst c42
          have H1 : (if a0_2 ≥ 1 then (if a0_2 ≤ 4294967295 then (if x4_1 = true then (if a0_4 < a0_0 then (some (a0_6 == 0)) else (some false)) else (some false)) else (some false)) else (some false)) = some r := by rw [if_pos rfl] at H; exact H
          clear H
          have H := H1
          clear H1
          by_cases c43 : a0_2 ≥ 1
          · rw [if_pos c43] at H
            have c43b0 : decide (1 ≤ a0_2) = true := decide_eq_true c43
            clear c43
            by_cases c44 : a0_2 ≤ 4294967295
            · rw [if_pos c44] at H
              have c44b0 : decide (a0_2 ≤ 4294967295) = true := decide_eq_true c44
              clear c44
              by_cases c45 : x4_1 = true
              · subst c45
                have H1 : (if a0_4 < a0_0 then (some (a0_6 == 0)) else (some false)) = some r := by rw [if_pos rfl] at H; exact H
                clear H
                have H := H1
                clear H1
                by_cases c46 : a0_4 < a0_0
                · rw [if_pos c46] at H
                  have c46b0 : decide (a0_4 < a0_0) = true := decide_eq_true c46
                  clear c46
                  obtain rfl := Option.some.inj H
                  have hcz47_0 : wc.cell? ⟨gb170, 0, none⟩ = some (.int .i64 a0_0) := (blk_cell BK170.out 0).trans rfl
                  have hcz47_1 : wc.cell? ⟨gb170, 1, none⟩ = some (.int .i64 a0_1) := (blk_cell BK170.out 1).trans rfl
                  have hcz47_2 : wc.cell? ⟨gb170, 2, none⟩ = some (.int .i64 a0_2) := (blk_cell BK170.out 2).trans rfl
                  have hcz47_3 : wc.cell? ⟨gb170, 3, none⟩ = some (.bool false) := (blk_cell BK170.out 3).trans rfl
                  have hcz47_4 : wc.cell? ⟨gb170, 4, none⟩ = some (.int .i64 a0_4) := (blk_cell BK170.out 4).trans rfl
                  have hcz47_5 : wc.cell? ⟨gb170, 5, none⟩ = some (.int .i64 a0_5) := (blk_cell BK170.out 5).trans rfl
                  have hcz47_6 : wc.cell? ⟨gb170, 6, none⟩ = some (.int .i32 a0_6) := (blk_cell BK170.out 6).trans rfl
                  have hfz47_0 := blk_frozen BK170.out 0
                  have hfz47_1 := blk_frozen BK170.out 1
                  have hfz47_2 := blk_frozen BK170.out 2
                  have hfz47_3 := blk_frozen BK170.out 3
                  have hfz47_4 := blk_frozen BK170.out 4
                  have hfz47_5 := blk_frozen BK170.out 5
                  have hfz47_6 := blk_frozen BK170.out 6
                  go_wp2_with (first | ((with_reducible refine gate_callee (f := 72) rfl ?_); refine goesL_ (some 31) rfl rfl Try.func72 (by kernel_rfl) rfl #[.agg #[.int .i64 a0_0, .int .i64 a0_1]] rfl (by (try simp only [List.map_toArray, List.map_cons, List.map_nil]); first | done | rfl | (simp only [List.length_drop, List.length_take]; rfl)) ?_; (with_reducible refine (foolscapref12_right.calls a0_0 a0_1 true _ A41.out).mono ?_); rintro e w48 ⟨rfl, hb⟩; refine ⟨_, rfl, ?_⟩; have n0_ := Aside0.mk (blk_below (g := gb170) (o := .cells #[.int .i64 a0_0, .int .i64 a0_1, .int .i64 a0_2, .bool false, .int .i64 a0_4, .int .i64 a0_5, .int .i32 a0_6] 34 (0, 0)) (by (with_reducible repeat (first | refine blk_drewN ?_ _ | refine blk_drew ?_ | refine blk_alloc ?_ _)); exact BK170.out) hb); have n1_ := Aside0.mk (below_step (by repeat (first | (with_reducible first | exact HB.out | apply below_alloc | apply pw_below_drewN | apply below_drew1 | refine below_set ?_ GE170.out) | exact HB.out)) hb); clear BK170; clear HB; have BK170 := n0_; have HB := n1_; clear n0_ n1_; (try clear hb); (try clear hb2); (try clear hk); (try clear hi); have hcz49_0 : w48.cell? ⟨gb170, 0, none⟩ = some (.int .i64 a0_0) := (blk_cell BK170.out 0).trans rfl; have hcz49_1 : w48.cell? ⟨gb170, 1, none⟩ = some (.int .i64 a0_1) := (blk_cell BK170.out 1).trans rfl; have hcz49_2 : w48.cell? ⟨gb170, 2, none⟩ = some (.int .i64 a0_2) := (blk_cell BK170.out 2).trans rfl; have hcz49_3 : w48.cell? ⟨gb170, 3, none⟩ = some (.bool false) := (blk_cell BK170.out 3).trans rfl; have hcz49_4 : w48.cell? ⟨gb170, 4, none⟩ = some (.int .i64 a0_4) := (blk_cell BK170.out 4).trans rfl; have hcz49_5 : w48.cell? ⟨gb170, 5, none⟩ = some (.int .i64 a0_5) := (blk_cell BK170.out 5).trans rfl; have hcz49_6 : w48.cell? ⟨gb170, 6, none⟩ = some (.int .i32 a0_6) := (blk_cell BK170.out 6).trans rfl; have hfz49_0 := blk_frozen BK170.out 0; have hfz49_1 := blk_frozen BK170.out 1; have hfz49_2 := blk_frozen BK170.out 2; have hfz49_3 := blk_frozen BK170.out 3; have hfz49_4 := blk_frozen BK170.out 4; have hfz49_5 := blk_frozen BK170.out 5; have hfz49_6 := blk_frozen BK170.out 6))
                  go_ret
                  exact ⟨by first | rfl | (simp [errW_none, errW_some] <;> rfl) | (simp [*, errW_none, errW_some] <;> rfl), by repeat (first | (with_reducible first | exact HB.out | apply below_alloc | apply pw_below_drewN | apply below_drew1 | refine below_set ?_ GE170.out) | exact HB.out)⟩
                · rw [if_neg c46] at H
                  have c46b0 : decide (a0_4 < a0_0) = false := decide_eq_false c46
                  clear c46
                  obtain rfl := Option.some.inj H
                  have hcz50_0 : wc.cell? ⟨gb170, 0, none⟩ = some (.int .i64 a0_0) := (blk_cell BK170.out 0).trans rfl
                  have hcz50_1 : wc.cell? ⟨gb170, 1, none⟩ = some (.int .i64 a0_1) := (blk_cell BK170.out 1).trans rfl
                  have hcz50_2 : wc.cell? ⟨gb170, 2, none⟩ = some (.int .i64 a0_2) := (blk_cell BK170.out 2).trans rfl
                  have hcz50_3 : wc.cell? ⟨gb170, 3, none⟩ = some (.bool false) := (blk_cell BK170.out 3).trans rfl
                  have hcz50_4 : wc.cell? ⟨gb170, 4, none⟩ = some (.int .i64 a0_4) := (blk_cell BK170.out 4).trans rfl
                  have hcz50_5 : wc.cell? ⟨gb170, 5, none⟩ = some (.int .i64 a0_5) := (blk_cell BK170.out 5).trans rfl
                  have hcz50_6 : wc.cell? ⟨gb170, 6, none⟩ = some (.int .i32 a0_6) := (blk_cell BK170.out 6).trans rfl
                  have hfz50_0 := blk_frozen BK170.out 0
                  have hfz50_1 := blk_frozen BK170.out 1
                  have hfz50_2 := blk_frozen BK170.out 2
                  have hfz50_3 := blk_frozen BK170.out 3
                  have hfz50_4 := blk_frozen BK170.out 4
                  have hfz50_5 := blk_frozen BK170.out 5
                  have hfz50_6 := blk_frozen BK170.out 6
                  go_wp2_with (first | ((with_reducible refine gate_callee (f := 72) rfl ?_); refine goesL_ (some 31) rfl rfl Try.func72 (by kernel_rfl) rfl #[.agg #[.int .i64 a0_0, .int .i64 a0_1]] rfl (by (try simp only [List.map_toArray, List.map_cons, List.map_nil]); first | done | rfl | (simp only [List.length_drop, List.length_take]; rfl)) ?_; (with_reducible refine (foolscapref12_right.calls a0_0 a0_1 true _ A41.out).mono ?_); rintro e w51 ⟨rfl, hb⟩; refine ⟨_, rfl, ?_⟩; have n0_ := Aside0.mk (blk_below (g := gb170) (o := .cells #[.int .i64 a0_0, .int .i64 a0_1, .int .i64 a0_2, .bool false, .int .i64 a0_4, .int .i64 a0_5, .int .i32 a0_6] 34 (0, 0)) (by (with_reducible repeat (first | refine blk_drewN ?_ _ | refine blk_drew ?_ | refine blk_alloc ?_ _)); exact BK170.out) hb); have n1_ := Aside0.mk (below_step (by repeat (first | (with_reducible first | exact HB.out | apply below_alloc | apply pw_below_drewN | apply below_drew1 | refine below_set ?_ GE170.out) | exact HB.out)) hb); clear BK170; clear HB; have BK170 := n0_; have HB := n1_; clear n0_ n1_; (try clear hb); (try clear hb2); (try clear hk); (try clear hi); have hcz52_0 : w51.cell? ⟨gb170, 0, none⟩ = some (.int .i64 a0_0) := (blk_cell BK170.out 0).trans rfl; have hcz52_1 : w51.cell? ⟨gb170, 1, none⟩ = some (.int .i64 a0_1) := (blk_cell BK170.out 1).trans rfl; have hcz52_2 : w51.cell? ⟨gb170, 2, none⟩ = some (.int .i64 a0_2) := (blk_cell BK170.out 2).trans rfl; have hcz52_3 : w51.cell? ⟨gb170, 3, none⟩ = some (.bool false) := (blk_cell BK170.out 3).trans rfl; have hcz52_4 : w51.cell? ⟨gb170, 4, none⟩ = some (.int .i64 a0_4) := (blk_cell BK170.out 4).trans rfl; have hcz52_5 : w51.cell? ⟨gb170, 5, none⟩ = some (.int .i64 a0_5) := (blk_cell BK170.out 5).trans rfl; have hcz52_6 : w51.cell? ⟨gb170, 6, none⟩ = some (.int .i32 a0_6) := (blk_cell BK170.out 6).trans rfl; have hfz52_0 := blk_frozen BK170.out 0; have hfz52_1 := blk_frozen BK170.out 1; have hfz52_2 := blk_frozen BK170.out 2; have hfz52_3 := blk_frozen BK170.out 3; have hfz52_4 := blk_frozen BK170.out 4; have hfz52_5 := blk_frozen BK170.out 5; have hfz52_6 := blk_frozen BK170.out 6))
                  go_ret
                  exact ⟨by first | rfl | (simp [errW_none, errW_some] <;> rfl) | (simp [*, errW_none, errW_some] <;> rfl), by repeat (first | (with_reducible first | exact HB.out | apply below_alloc | apply pw_below_drewN | apply below_drew1 | refine below_set ?_ GE170.out) | exact HB.out)⟩
              · replace c45 := Bool.eq_false_iff.mpr c45
                subst c45
                have H1 : (some false) = some r := by rw [if_neg (show ¬ (false = true) by decide)] at H; exact H
                clear H
                have H := H1
                clear H1
                obtain rfl := Option.some.inj H
                have hcz53_0 : wc.cell? ⟨gb170, 0, none⟩ = some (.int .i64 a0_0) := (blk_cell BK170.out 0).trans rfl
                have hcz53_1 : wc.cell? ⟨gb170, 1, none⟩ = some (.int .i64 a0_1) := (blk_cell BK170.out 1).trans rfl
                have hcz53_2 : wc.cell? ⟨gb170, 2, none⟩ = some (.int .i64 a0_2) := (blk_cell BK170.out 2).trans rfl
                have hcz53_3 : wc.cell? ⟨gb170, 3, none⟩ = some (.bool false) := (blk_cell BK170.out 3).trans rfl
                have hcz53_4 : wc.cell? ⟨gb170, 4, none⟩ = some (.int .i64 a0_4) := (blk_cell BK170.out 4).trans rfl
                have hcz53_5 : wc.cell? ⟨gb170, 5, none⟩ = some (.int .i64 a0_5) := (blk_cell BK170.out 5).trans rfl
                have hcz53_6 : wc.cell? ⟨gb170, 6, none⟩ = some (.int .i32 a0_6) := (blk_cell BK170.out 6).trans rfl
                have hfz53_0 := blk_frozen BK170.out 0
                have hfz53_1 := blk_frozen BK170.out 1
                have hfz53_2 := blk_frozen BK170.out 2
                have hfz53_3 := blk_frozen BK170.out 3
                have hfz53_4 := blk_frozen BK170.out 4
                have hfz53_5 := blk_frozen BK170.out 5
                have hfz53_6 := blk_frozen BK170.out 6
                go_wp2_with (first | ((with_reducible refine gate_callee (f := 72) rfl ?_); refine goesL_ (some 31) rfl rfl Try.func72 (by kernel_rfl) rfl #[.agg #[.int .i64 a0_0, .int .i64 a0_1]] rfl (by (try simp only [List.map_toArray, List.map_cons, List.map_nil]); first | done | rfl | (simp only [List.length_drop, List.length_take]; rfl)) ?_; (with_reducible refine (foolscapref12_right.calls a0_0 a0_1 true _ A41.out).mono ?_); rintro e w54 ⟨rfl, hb⟩; refine ⟨_, rfl, ?_⟩; have n0_ := Aside0.mk (blk_below (g := gb170) (o := .cells #[.int .i64 a0_0, .int .i64 a0_1, .int .i64 a0_2, .bool false, .int .i64 a0_4, .int .i64 a0_5, .int .i32 a0_6] 34 (0, 0)) (by (with_reducible repeat (first | refine blk_drewN ?_ _ | refine blk_drew ?_ | refine blk_alloc ?_ _)); exact BK170.out) hb); have n1_ := Aside0.mk (below_step (by repeat (first | (with_reducible first | exact HB.out | apply below_alloc | apply pw_below_drewN | apply below_drew1 | refine below_set ?_ GE170.out) | exact HB.out)) hb); clear BK170; clear HB; have BK170 := n0_; have HB := n1_; clear n0_ n1_; (try clear hb); (try clear hb2); (try clear hk); (try clear hi); have hcz55_0 : w54.cell? ⟨gb170, 0, none⟩ = some (.int .i64 a0_0) := (blk_cell BK170.out 0).trans rfl; have hcz55_1 : w54.cell? ⟨gb170, 1, none⟩ = some (.int .i64 a0_1) := (blk_cell BK170.out 1).trans rfl; have hcz55_2 : w54.cell? ⟨gb170, 2, none⟩ = some (.int .i64 a0_2) := (blk_cell BK170.out 2).trans rfl; have hcz55_3 : w54.cell? ⟨gb170, 3, none⟩ = some (.bool false) := (blk_cell BK170.out 3).trans rfl; have hcz55_4 : w54.cell? ⟨gb170, 4, none⟩ = some (.int .i64 a0_4) := (blk_cell BK170.out 4).trans rfl; have hcz55_5 : w54.cell? ⟨gb170, 5, none⟩ = some (.int .i64 a0_5) := (blk_cell BK170.out 5).trans rfl; have hcz55_6 : w54.cell? ⟨gb170, 6, none⟩ = some (.int .i32 a0_6) := (blk_cell BK170.out 6).trans rfl; have hfz55_0 := blk_frozen BK170.out 0; have hfz55_1 := blk_frozen BK170.out 1; have hfz55_2 := blk_frozen BK170.out 2; have hfz55_3 := blk_frozen BK170.out 3; have hfz55_4 := blk_frozen BK170.out 4; have hfz55_5 := blk_frozen BK170.out 5; have hfz55_6 := blk_frozen BK170.out 6))
                go_ret
                exact ⟨by first | rfl | (simp [errW_none, errW_some] <;> rfl) | (simp [*, errW_none, errW_some] <;> rfl), by repeat (first | (with_reducible first | exact HB.out | apply below_alloc | apply pw_below_drewN | apply below_drew1 | refine below_set ?_ GE170.out) | exact HB.out)⟩
            · rw [if_neg c44] at H
              have c44b0 : decide (a0_2 ≤ 4294967295) = false := decide_eq_false c44
              clear c44
              obtain rfl := Option.some.inj H
              have hcz56_0 : wc.cell? ⟨gb170, 0, none⟩ = some (.int .i64 a0_0) := (blk_cell BK170.out 0).trans rfl
              have hcz56_1 : wc.cell? ⟨gb170, 1, none⟩ = some (.int .i64 a0_1) := (blk_cell BK170.out 1).trans rfl
              have hcz56_2 : wc.cell? ⟨gb170, 2, none⟩ = some (.int .i64 a0_2) := (blk_cell BK170.out 2).trans rfl
              have hcz56_3 : wc.cell? ⟨gb170, 3, none⟩ = some (.bool false) := (blk_cell BK170.out 3).trans rfl
              have hcz56_4 : wc.cell? ⟨gb170, 4, none⟩ = some (.int .i64 a0_4) := (blk_cell BK170.out 4).trans rfl
              have hcz56_5 : wc.cell? ⟨gb170, 5, none⟩ = some (.int .i64 a0_5) := (blk_cell BK170.out 5).trans rfl
              have hcz56_6 : wc.cell? ⟨gb170, 6, none⟩ = some (.int .i32 a0_6) := (blk_cell BK170.out 6).trans rfl
              have hfz56_0 := blk_frozen BK170.out 0
              have hfz56_1 := blk_frozen BK170.out 1
              have hfz56_2 := blk_frozen BK170.out 2
              have hfz56_3 := blk_frozen BK170.out 3
              have hfz56_4 := blk_frozen BK170.out 4
              have hfz56_5 := blk_frozen BK170.out 5
              have hfz56_6 := blk_frozen BK170.out 6
              go_wp2_with (first | ((with_reducible refine gate_callee (f := 72) rfl ?_); refine goesL_ (some 31) rfl rfl Try.func72 (by kernel_rfl) rfl #[.agg #[.int .i64 a0_0, .int .i64 a0_1]] rfl (by (try simp only [List.map_toArray, List.map_cons, List.map_nil]); first | done | rfl | (simp only [List.length_drop, List.length_take]; rfl)) ?_; (with_reducible refine (foolscapref12_right.calls a0_0 a0_1 true _ A41.out).mono ?_); rintro e w57 ⟨rfl, hb⟩; refine ⟨_, rfl, ?_⟩; have n0_ := Aside0.mk (blk_below (g := gb170) (o := .cells #[.int .i64 a0_0, .int .i64 a0_1, .int .i64 a0_2, .bool false, .int .i64 a0_4, .int .i64 a0_5, .int .i32 a0_6] 34 (0, 0)) (by (with_reducible repeat (first | refine blk_drewN ?_ _ | refine blk_drew ?_ | refine blk_alloc ?_ _)); exact BK170.out) hb); have n1_ := Aside0.mk (below_step (by repeat (first | (with_reducible first | exact HB.out | apply below_alloc | apply pw_below_drewN | apply below_drew1 | refine below_set ?_ GE170.out) | exact HB.out)) hb); clear BK170; clear HB; have BK170 := n0_; have HB := n1_; clear n0_ n1_; (try clear hb); (try clear hb2); (try clear hk); (try clear hi); have hcz58_0 : w57.cell? ⟨gb170, 0, none⟩ = some (.int .i64 a0_0) := (blk_cell BK170.out 0).trans rfl; have hcz58_1 : w57.cell? ⟨gb170, 1, none⟩ = some (.int .i64 a0_1) := (blk_cell BK170.out 1).trans rfl; have hcz58_2 : w57.cell? ⟨gb170, 2, none⟩ = some (.int .i64 a0_2) := (blk_cell BK170.out 2).trans rfl; have hcz58_3 : w57.cell? ⟨gb170, 3, none⟩ = some (.bool false) := (blk_cell BK170.out 3).trans rfl; have hcz58_4 : w57.cell? ⟨gb170, 4, none⟩ = some (.int .i64 a0_4) := (blk_cell BK170.out 4).trans rfl; have hcz58_5 : w57.cell? ⟨gb170, 5, none⟩ = some (.int .i64 a0_5) := (blk_cell BK170.out 5).trans rfl; have hcz58_6 : w57.cell? ⟨gb170, 6, none⟩ = some (.int .i32 a0_6) := (blk_cell BK170.out 6).trans rfl; have hfz58_0 := blk_frozen BK170.out 0; have hfz58_1 := blk_frozen BK170.out 1; have hfz58_2 := blk_frozen BK170.out 2; have hfz58_3 := blk_frozen BK170.out 3; have hfz58_4 := blk_frozen BK170.out 4; have hfz58_5 := blk_frozen BK170.out 5; have hfz58_6 := blk_frozen BK170.out 6))
              go_ret
              exact ⟨by first | rfl | (simp [errW_none, errW_some] <;> rfl) | (simp [*, errW_none, errW_some] <;> rfl), by repeat (first | (with_reducible first | exact HB.out | apply below_alloc | apply pw_below_drewN | apply below_drew1 | refine below_set ?_ GE170.out) | exact HB.out)⟩
          · rw [if_neg c43] at H
            have c43b0 : decide (1 ≤ a0_2) = false := decide_eq_false c43
            clear c43
            obtain rfl := Option.some.inj H
            have hcz59_0 : wc.cell? ⟨gb170, 0, none⟩ = some (.int .i64 a0_0) := (blk_cell BK170.out 0).trans rfl
            have hcz59_1 : wc.cell? ⟨gb170, 1, none⟩ = some (.int .i64 a0_1) := (blk_cell BK170.out 1).trans rfl
            have hcz59_2 : wc.cell? ⟨gb170, 2, none⟩ = some (.int .i64 a0_2) := (blk_cell BK170.out 2).trans rfl
            have hcz59_3 : wc.cell? ⟨gb170, 3, none⟩ = some (.bool false) := (blk_cell BK170.out 3).trans rfl
            have hcz59_4 : wc.cell? ⟨gb170, 4, none⟩ = some (.int .i64 a0_4) := (blk_cell BK170.out 4).trans rfl
            have hcz59_5 : wc.cell? ⟨gb170, 5, none⟩ = some (.int .i64 a0_5) := (blk_cell BK170.out 5).trans rfl
            have hcz59_6 : wc.cell? ⟨gb170, 6, none⟩ = some (.int .i32 a0_6) := (blk_cell BK170.out 6).trans rfl
            have hfz59_0 := blk_frozen BK170.out 0
            have hfz59_1 := blk_frozen BK170.out 1
            have hfz59_2 := blk_frozen BK170.out 2
            have hfz59_3 := blk_frozen BK170.out 3
            have hfz59_4 := blk_frozen BK170.out 4
            have hfz59_5 := blk_frozen BK170.out 5
            have hfz59_6 := blk_frozen BK170.out 6
            go_wp2_with (first | ((with_reducible refine gate_callee (f := 72) rfl ?_); refine goesL_ (some 31) rfl rfl Try.func72 (by kernel_rfl) rfl #[.agg #[.int .i64 a0_0, .int .i64 a0_1]] rfl (by (try simp only [List.map_toArray, List.map_cons, List.map_nil]); first | done | rfl | (simp only [List.length_drop, List.length_take]; rfl)) ?_; (with_reducible refine (foolscapref12_right.calls a0_0 a0_1 true _ A41.out).mono ?_); rintro e w60 ⟨rfl, hb⟩; refine ⟨_, rfl, ?_⟩; have n0_ := Aside0.mk (blk_below (g := gb170) (o := .cells #[.int .i64 a0_0, .int .i64 a0_1, .int .i64 a0_2, .bool false, .int .i64 a0_4, .int .i64 a0_5, .int .i32 a0_6] 34 (0, 0)) (by (with_reducible repeat (first | refine blk_drewN ?_ _ | refine blk_drew ?_ | refine blk_alloc ?_ _)); exact BK170.out) hb); have n1_ := Aside0.mk (below_step (by repeat (first | (with_reducible first | exact HB.out | apply below_alloc | apply pw_below_drewN | apply below_drew1 | refine below_set ?_ GE170.out) | exact HB.out)) hb); clear BK170; clear HB; have BK170 := n0_; have HB := n1_; clear n0_ n1_; (try clear hb); (try clear hb2); (try clear hk); (try clear hi); have hcz61_0 : w60.cell? ⟨gb170, 0, none⟩ = some (.int .i64 a0_0) := (blk_cell BK170.out 0).trans rfl; have hcz61_1 : w60.cell? ⟨gb170, 1, none⟩ = some (.int .i64 a0_1) := (blk_cell BK170.out 1).trans rfl; have hcz61_2 : w60.cell? ⟨gb170, 2, none⟩ = some (.int .i64 a0_2) := (blk_cell BK170.out 2).trans rfl; have hcz61_3 : w60.cell? ⟨gb170, 3, none⟩ = some (.bool false) := (blk_cell BK170.out 3).trans rfl; have hcz61_4 : w60.cell? ⟨gb170, 4, none⟩ = some (.int .i64 a0_4) := (blk_cell BK170.out 4).trans rfl; have hcz61_5 : w60.cell? ⟨gb170, 5, none⟩ = some (.int .i64 a0_5) := (blk_cell BK170.out 5).trans rfl; have hcz61_6 : w60.cell? ⟨gb170, 6, none⟩ = some (.int .i32 a0_6) := (blk_cell BK170.out 6).trans rfl; have hfz61_0 := blk_frozen BK170.out 0; have hfz61_1 := blk_frozen BK170.out 1; have hfz61_2 := blk_frozen BK170.out 2; have hfz61_3 := blk_frozen BK170.out 3; have hfz61_4 := blk_frozen BK170.out 4; have hfz61_5 := blk_frozen BK170.out 5; have hfz61_6 := blk_frozen BK170.out 6))
            go_ret
            exact ⟨by first | rfl | (simp [errW_none, errW_some] <;> rfl) | (simp [*, errW_none, errW_some] <;> rfl), by repeat (first | (with_reducible first | exact HB.out | apply below_alloc | apply pw_below_drewN | apply below_drew1 | refine below_set ?_ GE170.out) | exact HB.out)⟩
        · replace c42 := Bool.eq_false_iff.mpr c42
          subst c42
          have H1 : (some false) = some r := by rw [if_neg (show ¬ (false = true) by decide)] at H; exact H
          clear H
          have H := H1
          clear H1
          obtain rfl := Option.some.inj H
          have hcz62_0 : wc.cell? ⟨gb170, 0, none⟩ = some (.int .i64 a0_0) := (blk_cell BK170.out 0).trans rfl
          have hcz62_1 : wc.cell? ⟨gb170, 1, none⟩ = some (.int .i64 a0_1) := (blk_cell BK170.out 1).trans rfl
          have hcz62_2 : wc.cell? ⟨gb170, 2, none⟩ = some (.int .i64 a0_2) := (blk_cell BK170.out 2).trans rfl
          have hcz62_3 : wc.cell? ⟨gb170, 3, none⟩ = some (.bool false) := (blk_cell BK170.out 3).trans rfl
          have hcz62_4 : wc.cell? ⟨gb170, 4, none⟩ = some (.int .i64 a0_4) := (blk_cell BK170.out 4).trans rfl
          have hcz62_5 : wc.cell? ⟨gb170, 5, none⟩ = some (.int .i64 a0_5) := (blk_cell BK170.out 5).trans rfl
          have hcz62_6 : wc.cell? ⟨gb170, 6, none⟩ = some (.int .i32 a0_6) := (blk_cell BK170.out 6).trans rfl
          have hfz62_0 := blk_frozen BK170.out 0
          have hfz62_1 := blk_frozen BK170.out 1
          have hfz62_2 := blk_frozen BK170.out 2
          have hfz62_3 := blk_frozen BK170.out 3
          have hfz62_4 := blk_frozen BK170.out 4
          have hfz62_5 := blk_frozen BK170.out 5
          have hfz62_6 := blk_frozen BK170.out 6
          go_wp2_with (first | ((with_reducible refine gate_callee (f := 72) rfl ?_); refine goesL_ (some 31) rfl rfl Try.func72 (by kernel_rfl) rfl #[.agg #[.int .i64 a0_0, .int .i64 a0_1]] rfl (by (try simp only [List.map_toArray, List.map_cons, List.map_nil]); first | done | rfl | (simp only [List.length_drop, List.length_take]; rfl)) ?_; (with_reducible refine (foolscapref12_right.calls a0_0 a0_1 false _ A41.out).mono ?_); rintro e w63 ⟨rfl, hb⟩; refine ⟨_, rfl, ?_⟩; have n0_ := Aside0.mk (blk_below (g := gb170) (o := .cells #[.int .i64 a0_0, .int .i64 a0_1, .int .i64 a0_2, .bool false, .int .i64 a0_4, .int .i64 a0_5, .int .i32 a0_6] 34 (0, 0)) (by (with_reducible repeat (first | refine blk_drewN ?_ _ | refine blk_drew ?_ | refine blk_alloc ?_ _)); exact BK170.out) hb); have n1_ := Aside0.mk (below_step (by repeat (first | (with_reducible first | exact HB.out | apply below_alloc | apply pw_below_drewN | apply below_drew1 | refine below_set ?_ GE170.out) | exact HB.out)) hb); clear BK170; clear HB; have BK170 := n0_; have HB := n1_; clear n0_ n1_; (try clear hb); (try clear hb2); (try clear hk); (try clear hi)))
          go_ret
          exact ⟨by first | rfl | (simp [errW_none, errW_some] <;> rfl) | (simp [*, errW_none, errW_some] <;> rfl), by repeat (first | (with_reducible first | exact HB.out | apply below_alloc | apply pw_below_drewN | apply below_drew1 | refine below_set ?_ GE170.out) | exact HB.out)⟩
def foolscapref01_Same.l0 : Nat → List Int → List Int → Int → Option (Bool)
  | 0, _, _, _ => none
  | k + 1, x0, x1, x5 => if x5 < (x0.length : Int) then (if 0 ≤ x5 then (if x5 < (x1.length : Int) then (if (rd x0 x5) = (rd x1 x5) then (foolscapref01_Same.l0 k x0 x1 (wrap64 (x5 + 1))) else (some false)) else (none)) else (none)) else (some true)
def foolscapref01_Same.f (k : Nat) (l0 : List Int) (l1 : List Int) : Option (Bool) := if (l0.length : Int) = (l1.length : Int) then (foolscapref01_Same.l0 k l0 l1 0) else (some false)
theorem foolscapref01_Same.mono_l : ∀ k, (∀ y0 y1 y2, LeO (foolscapref01_Same.l0 k y0 y1 y2) (foolscapref01_Same.l0 (k + 1) y0 y1 y2))
  | 0 => fun _ _ _ r h => by simp [foolscapref01_Same.l0] at h
  | k + 1 => by
    have ih0 := foolscapref01_Same.mono_l k
    · intro y0 y1 y2
      unfold foolscapref01_Same.l0
      repeat' first
      | (with_reducible exact ih0 _ _ _)
      | (with_reducible exact LeO.refl _)
      | (with_reducible exact LeO.none _)
      | (with_reducible refine LeO.ite ?_ ?_)
      | (with_reducible refine LeO.bind ?_ (fun _ => ?_))
      | exact ih0 _ _ _
      | exact LeO.none _
      | refine LeO.ite ?_ ?_
      | refine LeO.bind ?_ (fun _ => ?_)
theorem foolscapref01_Same.mono : ∀ a0 a1 k, LeO (foolscapref01_Same.f k a0 a1) (foolscapref01_Same.f (k + 1) a0 a1) := by
  intro a0 a1 k
  have ih0 := foolscapref01_Same.mono_l k
  unfold foolscapref01_Same.f
  repeat' first
      | (with_reducible exact ih0 _ _ _)
      | (with_reducible exact LeO.refl _)
      | (with_reducible exact LeO.none _)
      | (with_reducible refine LeO.ite ?_ ?_)
      | (with_reducible refine LeO.bind ?_ (fun _ => ?_))
      | exact ih0 _ _ _
      | exact LeO.none _
      | refine LeO.ite ?_ ?_
      | refine LeO.bind ?_ (fun _ => ?_)
set_option maxHeartbeats 8000000 in
set_option maxRecDepth 100000 in
theorem foolscapref01_Same.calls (k : Nat) (A0 : Option Addr) (c0 : Nat) (l0 : List Int) (A1 : Option Addr) (c1 : Nat) (l1 : List Int) (r : Bool) (w : World) (hr0 : Kd.C (Kd.int .i32) w A0 l0.length l0) (hc0 : l0.length ≤ c0) (hr1 : Kd.C (Kd.int .i32) w A1 l1.length l1) (hc1 : l1.length ≤ c1) (h : foolscapref01_Same.f k l0 l1 = some r) :
    Calls Try.prog 16 #[.slice A0 l0.length c0, .slice A1 l1.length c1] w fun e w' => e = .returned (.bool r) ∧ Drawn0 w w' := by
  have HR0 := Aside0.mk hr0
  have HC0 := Aside0.mk hc0
  clear hr0 hc0
  have HR1 := Aside0.mk hr1
  have HC1 := Aside0.mk hc1
  clear hr1 hc1
  have H : (if (l0.length : Int) = (l1.length : Int) then (foolscapref01_Same.l0 k l0 l1 0) else (some false)) = some r := h
  clear h
  by_cases c3 : (l0.length : Int) = (l1.length : Int)
  · rw [if_pos c3] at H
    have c3b0 : ((l0.length : Int) == (l1.length : Int)) = true := beq_iff_eq.mpr c3
    have c3b1 : ((l0.length : Int) != (l1.length : Int)) = false := bne_eq_false_iff_eq.mpr c3
    have c3b2 : (l0.length == l1.length) = true := by first | simpa using c3 | (simp at c3 ⊢; omega)
    clear c3
    have H' := Aside0.mk H
    clear H
    go_enter Try.func16, Try.ntmps16
    go_wp2
    repeat (go_quiet (fail); try go_wp2)
    go_loopg [5] k (fun kq v5 w' => ∃ (x5_1 : Int), v5 = .int .i64 x5_1 ∧ Aside0 (foolscapref01_Same.l0 kq l0 l1 x5_1 = some r) ∧ Aside0 (kq ≤ k) ∧ Drawn0 w w')
    case atStart => exact ⟨(0), (by first | rfl | (simp; done) | (simp [*]; done)), H', ⟨Nat.le_refl _⟩, by repeat (first | exact Drawn0.refl _ | apply Drawn0.step)⟩
    case round =>
      clear H'
      try clear c1
      try clear p2
      try clear c3
      try clear c3b0
      try clear c3b1
      try clear c3b2
      obtain ⟨x5_1, rfl, HA, HK1, ⟨m1, rfl⟩⟩ := hrel
      cases gk with
      | zero => exact absurd HA.out (by simp [foolscapref01_Same.l0])
      | succ k1 =>
        have H := HA.out
        clear HA
        simp only [foolscapref01_Same.l0] at H
        by_cases c4 : x5_1 < (l0.length : Int)
        · rw [if_pos c4] at H
          have c4b0 : decide (x5_1 < (l0.length : Int)) = true := decide_eq_true c4
          clear c4
          by_cases c5 : 0 ≤ x5_1
          · rw [if_pos c5] at H
            have c5b0 : decide (0 ≤ x5_1) = true := decide_eq_true c5
            clear c5
            by_cases c6 : x5_1 < (l1.length : Int)
            · rw [if_pos c6] at H
              have c6b0 : decide (x5_1 < (l1.length : Int)) = true := decide_eq_true c6
              clear c6
              by_cases c7 : (rd l0 x5_1) = (rd l1 x5_1)
              · rw [if_pos c7] at H
                have c7b0 : ((rd l0 x5_1) == (rd l1 x5_1)) = true := beq_iff_eq.mpr c7
                have c7b1 : ((rd l0 x5_1) != (rd l1 x5_1)) = false := bne_eq_false_iff_eq.mpr c7
                clear c7
                have H' := Aside0.mk H
                clear H
                have p181 : 0 ≤ (x5_1 : Int) := of_decide_eq_true (by first | (with_reducible assumption) | assumption)
                have q181 : x5_1 < (l0.length : Int) := of_decide_eq_true (by first | (with_reducible assumption) | assumption)
                obtain ⟨ad181, e181, hx181_0⟩ := Kd.at_int HR0.out x5_1 p181 q181
                cases e181
                replace p181 := eq_true p181
                replace q181 := eq_true q181
                have p182 : 0 ≤ (x5_1 : Int) := of_decide_eq_true (by first | (with_reducible assumption) | assumption)
                have q182 : x5_1 < (l1.length : Int) := of_decide_eq_true (by first | (with_reducible assumption) | assumption)
                obtain ⟨ad182, e182, hx182_0⟩ := Kd.at_int HR1.out x5_1 p182 q182
                cases e182
                replace p182 := eq_true p182
                replace q182 := eq_true q182
                go_wp2
                repeat (go_quiet (fail); try go_wp2)
                go_roundg k1
                case measure => have := HK1.out; omega
                case rel => exact ⟨(wrap64 (x5_1 + 1)), (by first | rfl | (simp; done) | (simp [*]; done)), H', ⟨by have := HK1.out; omega⟩, by repeat (first | exact Drawn0.refl _ | apply Drawn0.step)⟩
              · rw [if_neg c7] at H
                have c7b0 : ((rd l0 x5_1) == (rd l1 x5_1)) = false := beq_eq_false_iff_ne.mpr c7
                have c7b1 : ((rd l0 x5_1) != (rd l1 x5_1)) = true := bne_iff_ne.mpr c7
                obtain rfl := Option.some.inj H
                have p181 : 0 ≤ (x5_1 : Int) := of_decide_eq_true (by first | (with_reducible assumption) | assumption)
                have q181 : x5_1 < (l0.length : Int) := of_decide_eq_true (by first | (with_reducible assumption) | assumption)
                obtain ⟨ad181, e181, hx181_0⟩ := Kd.at_int HR0.out x5_1 p181 q181
                cases e181
                replace p181 := eq_true p181
                replace q181 := eq_true q181
                have p182 : 0 ≤ (x5_1 : Int) := of_decide_eq_true (by first | (with_reducible assumption) | assumption)
                have q182 : x5_1 < (l1.length : Int) := of_decide_eq_true (by first | (with_reducible assumption) | assumption)
                obtain ⟨ad182, e182, hx182_0⟩ := Kd.at_int HR1.out x5_1 p182 q182
                cases e182
                replace p182 := eq_true p182
                replace q182 := eq_true q182
                go_wp2
                repeat (go_quiet (fail); try go_wp2)
                go_ret
                exact ⟨by first | rfl | (simp; done) | (simp [*]; done), by repeat (first | exact Drawn0.refl _ | apply Drawn0.step)⟩
            · rw [if_neg c6] at H
              exact absurd H (by simp)
          · rw [if_neg c5] at H
            exact absurd H (by simp)
        · rw [if_neg c4] at H
          have c4b0 : decide (x5_1 < (l0.length : Int)) = false := decide_eq_false c4
          clear c4
          obtain rfl := Option.some.inj H
          go_wp2
          repeat (go_quiet (fail); try go_wp2)
          go_ret
          exact ⟨by first | rfl | (simp; done) | (simp [*]; done), by repeat (first | exact Drawn0.refl _ | apply Drawn0.step)⟩
  · rw [if_neg c3] at H
    have c3b0 : ((l0.length : Int) == (l1.length : Int)) = false := beq_eq_false_iff_ne.mpr c3
    have c3b1 : ((l0.length : Int) != (l1.length : Int)) = true := bne_iff_ne.mpr c3
    have c3b2 : (l0.length == l1.length) = false := by first | simpa using c3 | (simp at c3 ⊢; omega)
    obtain rfl := Option.some.inj H
    go_enter Try.func16, Try.ntmps16
    go_wp2
    repeat (go_quiet (fail); try go_wp2)
    go_ret
    exact ⟨by first | rfl | (simp; done) | (simp [*]; done), by repeat (first | exact Drawn0.refl _ | apply Drawn0.step)⟩
end Go.Proofs.Ytehdjdediobemaa.PC
