/- A part of the proof of cursorBounds_holds: its texts, one behind the other, as far as the proof stands on them. (Lines of its texts on the printed words and functions began as lines that a program of the kit had written for this statement.) -/
import Derived.ArgAppend
import Derived.Below
import Derived.BigQuiet
import Derived.BigRegion
import Derived.ChangeMaps4
import Derived.ChangeMaps5
import Derived.Deep.AppendLies
import Derived.Deep.CutBlock
import Derived.Deep.CutRange
import Derived.Deep.DeepCutAuto
import Derived.Deep.DrawnRows
import Derived.Deep.Draws
import Derived.Deep.LoopGhost
import Derived.Deep.OwnRows
import Derived.Deep.QuietTactic
import Derived.Deep.RegionHeld3
import Derived.Deep.RegionLaw
import Derived.Deep.RegionWith
import Derived.KernelRfl
import Derived.Laws.BitsLemmas
import Derived.Laws.BytesArg
import Derived.Laws.CopyRow
import Derived.Laws.Externs
import Derived.Laws.IdiomCopy
import Derived.Laws.MakeOwn
import Derived.Laws.NewBlocks
import Derived.Laws.OwnMore
import Derived.Laws.Rows
import Derived.Laws.Slices
import Derived.Laws.StructEq
import Derived.Lib.AppendStr
import Derived.Lib.AppendZerosOnto
import Derived.Lib.ConvBytes
import Derived.Lib.Hide
import Derived.Lib.JoinLaws
import Derived.Lib.Overlaps
import Derived.Lib.Walk
import Derived.MapKept
import Derived.Maps.AppendAt
import Derived.OrdersHeld
import Derived.OwnWalk
import Derived.RegionTactic
import Derived.RowKit
import Derived.RowKit3
import Derived.StillTail
import Derived.StillTailTactics
import Derived.Tactics
import Derived.Test.YtefnpalkkhhkfaaProg
import Derived.WalkKit
import Derived.WalkSpells
import Derived.WideLaws
import Derived.Test.YtefnpalkkhhkfaaBA7
namespace Go.Proofs.Ytefnpalkkhhkfaa.PC
open Go.RowKit Go.Proofs.YtefnpalkkhhkfaaW.PrintWords Go.Proofs.YtefnpalkkhhkfaaW.PrintLast Go.Proofs.YtefnpalkkhhkfaaW.PrintMore Go.Proofs.Ytefnpalkkhhkfaa.K Go.Proofs.Ytefnpalkkhhkfaa.IX Go.Proofs.Ytefnpalkkhhkfaa.I
attribute [local go_sem] max2_int min2_int max_two min_two max_three min_three max_four min_four
attribute [local go_sem high] eqA24
set_option linter.unusedVariables false
set_option linter.unusedSimpArgs false
set_option maxHeartbeats 4000000 in
set_option maxRecDepth 100000 in
theorem put_noref (w : World) (F : List Nat) (p : Nat) (T : TS) (o : S49) (h : Tx w F p T) (hr : rightS o) (hv : upS T.v) (hvl : T.v.length ≤ 1000000) (hl : T.l.length ≤ 500000) (hk0 : 0 ≤ knownS T o) (ho : o.f1 = knownS T o + 1) (hn : placeS T.l o.f3 < 0) (hz : idq o.f3 zid = false) : Calls Try.prog 24 #[.pointer (some ⟨p, 0, none⟩), opV o] w fun e w' => e = .returned (.tuple #[.bool false, .int .i64 6]) ∧ Below w.heap.size w w' := by
  have K1 := right_is o
  rw [decide_eq_true hr] at K1
  have HK := Lib.hid K1
  obtain ⟨A1, c1, x, A2, c2, A3, c3, mb, FI, h0, h1, h2, h3, h4, h5, _, _, _, ⟨hc, hrv⟩, _⟩ := h.read
  have K2 := Lib.hid (fun W (hb : Below w.heap.size w W) a => seq_calls T.v a A3 c3 W (Kd.C_below hrv hb) hc hv hvl)
  have K3 := Lib.hid (fun W (hb : Below w.heap.size w W) => tplace_calls W F p T o.f3 (h.below hb) (by omega))
  obtain ⟨kn, hkn⟩ : ∃ kn, knownS T o = kn := ⟨_, rfl⟩
  obtain ⟨at_, hat⟩ : ∃ at_, placeS T.l o.f3 = at_ := ⟨_, rfl⟩
  rw [hat] at K3 hn
  rw [hkn] at ho hk0
  have ho2 : o.f1 ≤ 4294967295 := hr.2.2.1
  unfold knownS at hkn
  obtain ⟨⟨o0, o1⟩, o2, o3, ⟨o4, o5⟩, o6⟩ := o
  unfold opV at *
  have K2b := Lib.hid (fun W (hb : Below w.heap.size w W) => (hkn ▸ K2.out W hb o1 : Calls Try.prog 37 #[.slice A3 T.v.length c3, .int .i64 o1] W fun e w' => e = .returned (.int .i64 kn) ∧ Below W.heap.size W w'))
  obtain ⟨W1, hW1⟩ : ∃ W1, w.alloc (.cells #[.int .i64 o0, .int .i64 o1, .int .i64 o2, .bool o3, .int .i64 o4, .int .i64 o5, .int .i32 o6] 49) = W1 := ⟨_, rfl⟩
  have hb : Below w.heap.size w W1 := by rw [← hW1]; exact (Below.refl _ w).alloc (Nat.le_refl _) _
  have hnew : W1.heap[w.heap.size]? = some (.cells #[.int .i64 o0, .int .i64 o1, .int .i64 o2, .bool o3, .int .i64 o4, .int .i64 o5, .int .i32 o6] 49 (0, 0)) := by rw [← hW1]; exact heap_new w _
  have HB := Lib.hid hb
  have HS : Aside0 (∀ W, Below W1.heap.size W1 W → W.cell? ⟨p, 3, none⟩ = some (.slice A3 T.v.length c3) ∧ W.cell? ⟨w.heap.size, 1, none⟩ = some (.int .i64 o1)) :=
    ⟨fun W hb2 => ⟨((below_step hb hb2).cell (World.block_lt_of_cell? w _ h3)).trans h3, (hb2.cell (lt_of hnew)).trans ((cell_of hnew 1).trans rfl)⟩⟩
  have HO : Aside0 (∀ W, Below W1.heap.size W1 W → W.cell? ⟨w.heap.size, 2, none⟩ = some (.int .i64 o2) ∧ W.cell? ⟨w.heap.size, 4, none⟩ = some (.int .i64 o4) ∧ W.cell? ⟨w.heap.size, 5, none⟩ = some (.int .i64 o5)) :=
    ⟨fun W hb2 => ⟨(hb2.cell (lt_of hnew)).trans ((cell_of hnew 2).trans rfl), (hb2.cell (lt_of hnew)).trans ((cell_of hnew 4).trans rfl), (hb2.cell (lt_of hnew)).trans ((cell_of hnew 5).trans rfl)⟩⟩
  generalize T.v.length = vl at *
  clear h hr hb K1 hnew hkn hat hrv hv hvl hl h0 h1 h2 h3 h4 h5
  subst hW1
  have hw1 : IntKind.i64.wrap (kn + 1) = kn + 1 := by rw [IntKind.wrap_i64]; simp only at ho ho2; omega
  have hno : ¬ o2 ≤ kn := by simp only at ho; omega
  have hye : ¬ kn + 1 < o2 := by simp only at ho; omega
  have hz2 : (o4 == 0 && o5 == 0) = false := hz
  clear ho ho2 hz
  go_enter Try.func24, Try.ntmps24
  go_wp2_with (go_at_call 36; refine (HK.out _).mono ?_; rintro e w2 ⟨rfl, hb⟩; have HB2 := Lib.hid hb; have HBW := Lib.hid (below_step HB.out hb); obtain ⟨s0, s1⟩ := HS.out _ hb; clear hb)
  have HB3 := Lib.hid HB2.out.drew
  go_region_held3 (fun W => W.cell? ⟨p, 3, none⟩ = some (.slice A3 vl c3) ∧ W.cell? ⟨w.heap.size, 1, none⟩ = some (.int .i64 o1)) ((first | exact HS.out _ HB2.out | exact HS.out _ HB3.out | exact HS.out _ HB4.out)) (first
    | (go_at_call 37; refine (K2b.out _ (below_step HB.out HB3.out)).mono ?_; rintro e w4 ⟨rfl, hb⟩; have HB4 := Lib.hid (below_step HB3.out hb); obtain ⟨t2, t4, t5⟩ := HO.out _ HB4.out; clear hb))
  go_wp2_with (go_at_call 38; refine (K3.out _ (below_step HB.out HB4.out)).mono ?_; rintro e w5 ⟨rfl, hb⟩; have HB5 := Lib.hid (below_step HB4.out hb); obtain ⟨u2, u4, u5⟩ := HO.out _ HB5.out; clear hb)
  go_ret2
  exact ⟨rfl, below_step HB.out HB5.out⟩
end Go.Proofs.Ytefnpalkkhhkfaa.PC
namespace Go.Proofs.Ytefnpalkkhhkfaa.PC
open Go.RowKit Go.Proofs.YtefnpalkkhhkfaaW.PrintWords Go.Proofs.YtefnpalkkhhkfaaW.PrintLast Go.Proofs.YtefnpalkkhhkfaaW.PrintMore Go.Proofs.Ytefnpalkkhhkfaa.K Go.Proofs.Ytefnpalkkhhkfaa.IX Go.Proofs.Ytefnpalkkhhkfaa.I
attribute [local go_sem] max2_int min2_int max_two min_two max_three min_three max_four min_four
attribute [local go_sem high] eqA24
set_option linter.unusedVariables false
set_option linter.unusedSimpArgs false
theorem zero_int (w : World) : (zeroValue 3).run Try.prog w = .ok (.int .i64 0) w := by
  have h : (Try.prog.info? 3).map (·.zero) = some (some (.int .i64 0)) := by kernel_rfl
  obtain ⟨i, hi, hz⟩ := Option.map_eq_some_iff.1 h
  simp [zeroValue, typeInfo, hi, hz, Sem.run, Result.andThen]
set_option maxHeartbeats 4000000 in
set_option maxRecDepth 100000 in
theorem put_ctr (w : World) (F : List Nat) (p : Nat) (T : TS) (o : S49) (h : Tx w F p T) (hr : rightS o) (hv : upS T.v) (hvl : T.v.length ≤ 1000000) (hl : T.l.length ≤ 500000) (hk0 : 0 ≤ knownS T o) (ho : o.f1 = knownS T o + 1) (hn : 0 ≤ placeS T.l o.f3) (hlast : o.f0.f0 ≤ T.last o.f0.f1) : Calls Try.prog 24 #[.pointer (some ⟨p, 0, none⟩), opV o] w fun e w' => e = .returned (.tuple #[.bool false, .int .i64 1]) ∧ Below w.heap.size w w' := by
  have K1 := right_is o
  rw [decide_eq_true hr] at K1
  have HK := Lib.hid K1
  obtain ⟨A1, c1, x, A2, c2, A3, c3, mb, FI, h0, h1, h2, h3, h4, h5, _, _, _, ⟨hc, hrv⟩, him⟩ := h.read
  have K2 := Lib.hid (fun W (hb : Below w.heap.size w W) a => seq_calls T.v a A3 c3 W (Kd.C_below hrv hb) hc hv hvl)
  have K3 := Lib.hid (fun W (hb : Below w.heap.size w W) => tplace_calls W F p T o.f3 (h.below hb) (by omega))
  obtain ⟨kn, hkn⟩ : ∃ kn, knownS T o = kn := ⟨_, rfl⟩
  obtain ⟨at_, hat⟩ : ∃ at_, placeS T.l o.f3 = at_ := ⟨_, rfl⟩
  rw [hat] at K3 hn
  rw [hkn] at ho hk0
  have ho2 : o.f1 ≤ 4294967295 := hr.2.2.1
  unfold knownS at hkn
  obtain ⟨⟨o0, o1⟩, o2, o3, ⟨o4, o5⟩, o6⟩ := o
  unfold opV at *
  have K2b := Lib.hid (fun W (hb : Below w.heap.size w W) => (hkn ▸ K2.out W hb o1 : Calls Try.prog 37 #[.slice A3 T.v.length c3, .int .i64 o1] W fun e w' => e = .returned (.int .i64 kn) ∧ Below W.heap.size W w'))
  obtain ⟨W1, hW1⟩ : ∃ W1, w.alloc (.cells #[.int .i64 o0, .int .i64 o1, .int .i64 o2, .bool o3, .int .i64 o4, .int .i64 o5, .int .i32 o6] 49) = W1 := ⟨_, rfl⟩
  have hb : Below w.heap.size w W1 := by rw [← hW1]; exact (Below.refl _ w).alloc (Nat.le_refl _) _
  have hnew : W1.heap[w.heap.size]? = some (.cells #[.int .i64 o0, .int .i64 o1, .int .i64 o2, .bool o3, .int .i64 o4, .int .i64 o5, .int .i32 o6] 49 (0, 0)) := by rw [← hW1]; exact heap_new w _
  have HB := Lib.hid hb
  have HS : Aside0 (∀ W, Below W1.heap.size W1 W → W.cell? ⟨p, 3, none⟩ = some (.slice A3 T.v.length c3) ∧ W.cell? ⟨w.heap.size, 1, none⟩ = some (.int .i64 o1)) :=
    ⟨fun W hb2 => ⟨((below_step hb hb2).cell (World.block_lt_of_cell? w _ h3)).trans h3, (hb2.cell (lt_of hnew)).trans ((cell_of hnew 1).trans rfl)⟩⟩
  have HO : Aside0 (∀ W, Below W1.heap.size W1 W → W.cell? ⟨w.heap.size, 2, none⟩ = some (.int .i64 o2) ∧ W.cell? ⟨w.heap.size, 4, none⟩ = some (.int .i64 o4) ∧ W.cell? ⟨w.heap.size, 5, none⟩ = some (.int .i64 o5)) :=
    ⟨fun W hb2 => ⟨(hb2.cell (lt_of hnew)).trans ((cell_of hnew 2).trans rfl), (hb2.cell (lt_of hnew)).trans ((cell_of hnew 4).trans rfl), (hb2.cell (lt_of hnew)).trans ((cell_of hnew 5).trans rfl)⟩⟩
  have HM : Aside0 (∀ W, Below w.heap.size w W → (Instr.lookup 72 (.map (some mb)) (.int .i64 o1) false).run Try.prog W = .ok (.int .i64 (T.last o1)) W) := ⟨fun W hb2 => (him.keep (hb2.block mb him.lt)).look_ Try.underlying72 Try.underlying3 (zero_int W) o1⟩
  have HC : Aside0 (∀ W, Below W1.heap.size W1 W → W.cell? ⟨p, 4, none⟩ = some (.map (some mb)) ∧ W.cell? ⟨w.heap.size, 0, none⟩ = some (.int .i64 o0)) := ⟨fun W hb2 => ⟨((below_step hb hb2).cell (World.block_lt_of_cell? w _ h4)).trans h4, (hb2.cell (lt_of hnew)).trans ((cell_of hnew 0).trans rfl)⟩⟩
  have hlast2 : o0 ≤ T.last o1 := hlast
  generalize T.last o1 = la at HM hlast2
  clear him hlast
  generalize T.v.length = vl at *
  clear h hr hb K1 hnew hkn hat hrv hv hvl hl h0 h1 h2 h3 h4 h5
  subst hW1
  have hw1 : IntKind.i64.wrap (kn + 1) = kn + 1 := by rw [IntKind.wrap_i64]; simp only at ho ho2; omega
  have hno : ¬ o2 ≤ kn := by simp only at ho; omega
  have hye : ¬ kn + 1 < o2 := by simp only at ho; omega
  have hn2 : ¬ at_ < 0 := by omega
  have hd : decide (at_ < 0) = false := by simpa using hn
  clear ho ho2
  go_enter Try.func24, Try.ntmps24
  go_wp2_with (go_at_call 36; refine (HK.out _).mono ?_; rintro e w2 ⟨rfl, hb⟩; have HB2 := Lib.hid hb; have HBW := Lib.hid (below_step HB.out hb); obtain ⟨s0, s1⟩ := HS.out _ hb; clear hb)
  have HB3 := Lib.hid HB2.out.drew
  go_region_held3 (fun W => W.cell? ⟨p, 3, none⟩ = some (.slice A3 vl c3) ∧ W.cell? ⟨w.heap.size, 1, none⟩ = some (.int .i64 o1)) ((first | exact HS.out _ HB2.out | exact HS.out _ HB3.out | exact HS.out _ HB4.out)) (first
    | (go_at_call 37; refine (K2b.out _ (below_step HB.out HB3.out)).mono ?_; rintro e w4 ⟨rfl, hb⟩; have HB4 := Lib.hid (below_step HB3.out hb); obtain ⟨t2, t4, t5⟩ := HO.out _ HB4.out; clear hb))
  go_wp2_with (go_at_call 38; refine (K3.out _ (below_step HB.out HB4.out)).mono ?_; rintro e w5 ⟨rfl, hb⟩; have HB5 := Lib.hid (below_step HB4.out hb); obtain ⟨u2, u4, u5⟩ := HO.out _ HB5.out; obtain ⟨x4, x0⟩ := HC.out _ HB5.out; obtain ⟨_, x1⟩ := HS.out _ HB5.out; have hlk := HM.out _ (below_step HB.out HB5.out); have hlk2 := HM.out _ (below_step HB.out HB5.out).drew; clear hb)
  go_region
  all_goals go_wp2
  all_goals go_ret2
  all_goals exact ⟨rfl, (below_step HB.out HB5.out).drew⟩
end Go.Proofs.Ytefnpalkkhhkfaa.PC
namespace Go.Proofs.Ytefnpalkkhhkfaa.PC
open Go.RowKit Go.Proofs.YtefnpalkkhhkfaaW.PrintWords Go.Proofs.YtefnpalkkhhkfaaW.PrintLast Go.Proofs.YtefnpalkkhhkfaaW.PrintMore Go.Proofs.Ytefnpalkkhhkfaa.K Go.Proofs.Ytefnpalkkhhkfaa.IX Go.Proofs.Ytefnpalkkhhkfaa.I
attribute [local go_sem] max2_int min2_int max_two min_two max_three min_three max_four min_four
attribute [local go_sem high] eqA24
set_option linter.unusedVariables false
set_option linter.unusedSimpArgs false
set_option maxHeartbeats 4000000 in
set_option maxRecDepth 100000 in
theorem put_ctr0 (w : World) (F : List Nat) (p : Nat) (T : TS) (o : S49) (h : Tx w F p T) (hr : rightS o) (hv : upS T.v) (hvl : T.v.length ≤ 1000000) (hl : T.l.length ≤ 500000) (hk0 : 0 ≤ knownS T o) (ho : o.f1 = knownS T o + 1) (hn : placeS T.l o.f3 < 0) (hz : idq o.f3 zid = true) (hlast : o.f0.f0 ≤ T.last o.f0.f1) : Calls Try.prog 24 #[.pointer (some ⟨p, 0, none⟩), opV o] w fun e w' => e = .returned (.tuple #[.bool false, .int .i64 1]) ∧ Below w.heap.size w w' := by
  have K1 := right_is o
  rw [decide_eq_true hr] at K1
  have HK := Lib.hid K1
  obtain ⟨A1, c1, x, A2, c2, A3, c3, mb, FI, h0, h1, h2, h3, h4, h5, _, _, _, ⟨hc, hrv⟩, him⟩ := h.read
  have K2 := Lib.hid (fun W (hb : Below w.heap.size w W) a => seq_calls T.v a A3 c3 W (Kd.C_below hrv hb) hc hv hvl)
  have K3 := Lib.hid (fun W (hb : Below w.heap.size w W) => tplace_calls W F p T o.f3 (h.below hb) (by omega))
  obtain ⟨kn, hkn⟩ : ∃ kn, knownS T o = kn := ⟨_, rfl⟩
  obtain ⟨at_, hat⟩ : ∃ at_, placeS T.l o.f3 = at_ := ⟨_, rfl⟩
  rw [hat] at K3 hn
  rw [hkn] at ho hk0
  have ho2 : o.f1 ≤ 4294967295 := hr.2.2.1
  unfold knownS at hkn
  obtain ⟨⟨o0, o1⟩, o2, o3, ⟨o4, o5⟩, o6⟩ := o
  unfold opV at *
  have K2b := Lib.hid (fun W (hb : Below w.heap.size w W) => (hkn ▸ K2.out W hb o1 : Calls Try.prog 37 #[.slice A3 T.v.length c3, .int .i64 o1] W fun e w' => e = .returned (.int .i64 kn) ∧ Below W.heap.size W w'))
  obtain ⟨W1, hW1⟩ : ∃ W1, w.alloc (.cells #[.int .i64 o0, .int .i64 o1, .int .i64 o2, .bool o3, .int .i64 o4, .int .i64 o5, .int .i32 o6] 49) = W1 := ⟨_, rfl⟩
  have hb : Below w.heap.size w W1 := by rw [← hW1]; exact (Below.refl _ w).alloc (Nat.le_refl _) _
  have hnew : W1.heap[w.heap.size]? = some (.cells #[.int .i64 o0, .int .i64 o1, .int .i64 o2, .bool o3, .int .i64 o4, .int .i64 o5, .int .i32 o6] 49 (0, 0)) := by rw [← hW1]; exact heap_new w _
  have HB := Lib.hid hb
  have HS : Aside0 (∀ W, Below W1.heap.size W1 W → W.cell? ⟨p, 3, none⟩ = some (.slice A3 T.v.length c3) ∧ W.cell? ⟨w.heap.size, 1, none⟩ = some (.int .i64 o1)) :=
    ⟨fun W hb2 => ⟨((below_step hb hb2).cell (World.block_lt_of_cell? w _ h3)).trans h3, (hb2.cell (lt_of hnew)).trans ((cell_of hnew 1).trans rfl)⟩⟩
  have HO : Aside0 (∀ W, Below W1.heap.size W1 W → W.cell? ⟨w.heap.size, 2, none⟩ = some (.int .i64 o2) ∧ W.cell? ⟨w.heap.size, 4, none⟩ = some (.int .i64 o4) ∧ W.cell? ⟨w.heap.size, 5, none⟩ = some (.int .i64 o5)) :=
    ⟨fun W hb2 => ⟨(hb2.cell (lt_of hnew)).trans ((cell_of hnew 2).trans rfl), (hb2.cell (lt_of hnew)).trans ((cell_of hnew 4).trans rfl), (hb2.cell (lt_of hnew)).trans ((cell_of hnew 5).trans rfl)⟩⟩
  have HM : Aside0 (∀ W, Below w.heap.size w W → (Instr.lookup 72 (.map (some mb)) (.int .i64 o1) false).run Try.prog W = .ok (.int .i64 (T.last o1)) W) := ⟨fun W hb2 => (him.keep (hb2.block mb him.lt)).look_ Try.underlying72 Try.underlying3 (zero_int W) o1⟩
  have HC : Aside0 (∀ W, Below W1.heap.size W1 W → W.cell? ⟨p, 4, none⟩ = some (.map (some mb)) ∧ W.cell? ⟨w.heap.size, 0, none⟩ = some (.int .i64 o0)) := ⟨fun W hb2 => ⟨((below_step hb hb2).cell (World.block_lt_of_cell? w _ h4)).trans h4, (hb2.cell (lt_of hnew)).trans ((cell_of hnew 0).trans rfl)⟩⟩
  have hlast2 : o0 ≤ T.last o1 := hlast
  generalize T.last o1 = la at HM hlast2
  clear him hlast
  generalize T.v.length = vl at *
  clear h hr hb K1 hnew hkn hat hrv hv hvl hl h0 h1 h2 h3 h4 h5
  subst hW1
  have hw1 : IntKind.i64.wrap (kn + 1) = kn + 1 := by rw [IntKind.wrap_i64]; simp only at ho ho2; omega
  have hno : ¬ o2 ≤ kn := by simp only at ho; omega
  have hye : ¬ kn + 1 < o2 := by simp only at ho; omega
  have hz2 : (o4 == 0 && o5 == 0) = true := hz
  have hd : decide (at_ < 0) = true := by simpa using hn
  clear ho ho2 hz
  go_enter Try.func24, Try.ntmps24
  go_wp2_with (go_at_call 36; refine (HK.out _).mono ?_; rintro e w2 ⟨rfl, hb⟩; have HB2 := Lib.hid hb; have HBW := Lib.hid (below_step HB.out hb); obtain ⟨s0, s1⟩ := HS.out _ hb; clear hb)
  have HB3 := Lib.hid HB2.out.drew
  go_region_held3 (fun W => W.cell? ⟨p, 3, none⟩ = some (.slice A3 vl c3) ∧ W.cell? ⟨w.heap.size, 1, none⟩ = some (.int .i64 o1)) ((first | exact HS.out _ HB2.out | exact HS.out _ HB3.out | exact HS.out _ HB4.out)) (first
    | (go_at_call 37; refine (K2b.out _ (below_step HB.out HB3.out)).mono ?_; rintro e w4 ⟨rfl, hb⟩; have HB4 := Lib.hid (below_step HB3.out hb); obtain ⟨t2, t4, t5⟩ := HO.out _ HB4.out; clear hb))
  go_wp2_with (go_at_call 38; refine (K3.out _ (below_step HB.out HB4.out)).mono ?_; rintro e w5 ⟨rfl, hb⟩; have HB5 := Lib.hid (below_step HB4.out hb); obtain ⟨u2, u4, u5⟩ := HO.out _ HB5.out; obtain ⟨x4, x0⟩ := HC.out _ HB5.out; obtain ⟨_, x1⟩ := HS.out _ HB5.out; have hlk := HM.out _ (below_step HB.out HB5.out); have hlk2 := HM.out _ (below_step HB.out HB5.out).drew; clear hb)
  go_region
  all_goals go_wp2
  all_goals go_ret2
  all_goals exact ⟨rfl, (below_step HB.out HB5.out).drew⟩
end Go.Proofs.Ytefnpalkkhhkfaa.PC
namespace Go.Proofs.Ytefnpalkkhhkfaa.K
open Go
set_option linter.unusedVariables false
section
variable {P : Program} {ops : Array Oper} {Q : Exit → Act → World → Prop} {md : Region.Mode} {S : World → Prop} {z : Nat}
/-- Whatever order is picked from here on; S holds behind every operation, as long as z has not come up. -/
def wpZ (P : Program) (md : Region.Mode) (ops : Array Oper) (Q : Exit → Act → World → Prop) (S : World → Prop) (z : Nat) : Nat → Array Bool → Act → World → Prop
  | 0, listed, a, w => Region.ready md ops listed = [] ∧ Q .normal a w
  | fuel + 1, listed, a, w =>
    (Region.ready md ops listed = [] → Q .normal a w) ∧
    ∀ i ∈ Region.ready md ops listed, wpOp P ops Q i (fun a' w' => ((listed.setIfInBounds i true).getD z false = false → S w') ∧ wpZ P md ops Q S z fuel (listed.setIfInBounds i true) a' w') a w
theorem wpAny_of_Z : ∀ (fuel : Nat) (listed : Array Bool) (a : Act) (w : World), wpZ P md ops Q S z fuel listed a w → wpAny P md ops Q fuel listed a w
  | 0, _, _, _, h => h
  | fuel + 1, _, _, _, h => ⟨h.1, fun i hi => wpOp_mono (fun a' w' h' => wpAny_of_Z fuel _ a' w' h'.2) (h.2 i hi)⟩
/-- z comes up behind i, by whatever way. -/
def needB (md : Region.Mode) (ops : Array Oper) (i : Nat) : Nat → Nat → Bool
  | 0, _ => false
  | f + 1, z => Region.waitsFor md ops z i || (List.range ops.size).any fun j => Region.waitsFor md ops z j && needB md ops i f j
theorem needB_spec {n i : Nat} {listed : Array Bool} (inv : HeadInv md ops n listed) : ∀ (f z : Nat), needB md ops i f z = true → listed.getD i false = false → listed.getD z false = false
  | 0, _, h, _ => by cases h
  | f + 1, z, h, hi => by
    have one : ∀ j, Region.waitsFor md ops z j = true → listed.getD j false = false → listed.getD z false = false := fun j hw hj => by
      obtain ⟨oz, hoz, e, he, hb, hon⟩ := Region.waitsFor_spec hw
      cases hz : listed.getD z false with
      | false => rfl
      | true =>
        have := inv.closed z oz hoz hz e he hb
        rw [hon, hj] at this
        cases this
    simp only [needB, Bool.or_eq_true, List.any_eq_true, Bool.and_eq_true] at h
    rcases h with h | ⟨j, _, h1, h2⟩
    · exact one i h hi
    · exact one j h1 (needB_spec inv f j h2 hi)
/-- The goal of such a walk, with what is known of what has come up. -/
def ZG (P : Program) (md : Region.Mode) (ops : Array Oper) (Q : Exit → Act → World → Prop) (S : World → Prop) (z : Nat) (fuel : Nat) (listed : Array Bool) (a : Act) (w : World) : Prop :=
  HeadInv md ops ops.size listed → wpZ P md ops Q S z fuel listed a w
theorem wpZ_first {i f0 : Nat} {oi : Oper} {v : Value} (hi : ops[i]? = some oi) (hsel : ∀ (j : Nat) (o : Oper) cs b, ops[j]? = some o → o.op ≠ .select cs b)
    (hQ : ∀ c a w, Q (.panic c) (a.put oi.dst v) w → Q (.panic c) a w) (hiz : i ≠ z) (hz : needB md ops i f0 z = true) :
    ∀ (fuel : Nat) (listed : Array Bool) (a : Act) (w : World), HeadInv md ops ops.size listed →
      (∀ j oj, ops[j]? = some oj → j ≠ i → listed.getD j true = false → (∀ e ∈ oj.after, Region.binds md e = true → e.on ≠ i) → oi.apart ops oj = true) →
      i ∈ Region.ready md ops listed → YieldsIf P ops S oi v a → S w →
      wpZ P md ops Q S z fuel (listed.setIfInBounds i true) (a.put oi.dst v) w → wpZ P md ops Q S z (fuel + 1) listed a w := by
  intro fuel
  induction fuel with
  | zero =>
    intro listed a w inv _ hr hy hS H
    refine ⟨fun h => (by rw [h] at hr; cases hr), fun j hj => ?_⟩
    by_cases hji : j = i
    · subst hji; exact hy.wpOp hi hS ⟨fun _ => hS, H⟩
    · have := ready_mono hj hji
      rw [H.1] at this
      cases this
  | succ fuel ih =>
    intro listed a w inv hfree hr hy hS H
    refine ⟨fun h => (by rw [h] at hr; cases hr), fun j hj => ?_⟩
    by_cases hji : j = i
    · subst hji; exact hy.wpOp hi hS ⟨fun _ => hS, H⟩
    · have h1 := H.2 j (ready_mono hj hji)
      obtain ⟨hjun, oj, hoj, hall⟩ := mem_ready.1 hj
      have hjlt : j < ops.size := (Array.getElem?_eq_some_iff.1 hoj).1
      have hun := getD_both (mem_ready.1 hr).1
      have hnot : ∀ e ∈ oj.after, Region.binds md e = true → e.on ≠ i := fun e he hb heq => by
        have h1 := hall e he hb
        rw [heq, hun] at h1
        cases h1
      have h2 := wpOp_putIf hoj (hfree j oj hoj hji hjun hnot) (fun cs b => hsel i oi cs b hi) (fun cs b => hsel j oj cs b hoj) hQ hy h1
      have inv' := inv.set hj hjlt
      have hzun : (listed.setIfInBounds j true).getD z false = false := needB_spec inv' f0 z hz (by rw [getD_set_ne false hji]; exact hun)
      have hfree' : ∀ k ok, ops[k]? = some ok → k ≠ i → (listed.setIfInBounds j true).getD k true = false →
          (∀ e ∈ ok.after, Region.binds md e = true → e.on ≠ i) → oi.apart ops ok = true := fun k ok hk hki hun2 hno => by
        refine hfree k ok hk hki ?_ hno
        by_cases hjk : j = k
        · subst hjk; exact hjun
        · rw [getD_set_ne true hjk] at hun2; exact hun2
      refine wpOp_mono (fun a' w' h3 => ?_) h2
      have hS' : S w' := by
        refine h3.2.1 ?_
        rw [Array.setIfInBounds_comm _ _ (Ne.symm hji), getD_set_ne false hiz]
        exact hzun
      refine ⟨fun _ => hS', ih (listed.setIfInBounds j true) a' w' inv' hfree' (ready_mono hr (Ne.symm hji)) h3.1 hS' ?_⟩
      rw [Array.setIfInBounds_comm _ _ hji]
      exact h3.2.2
theorem wpZ_any {i : Nat} {oi : Oper} {v : Value} (hi : ops[i]? = some oi) (hsel : ∀ (j : Nat) (o : Oper) cs b, ops[j]? = some o → o.op ≠ .select cs b)
    (hQ : ∀ c a w, Q (.panic c) (a.put oi.dst v) w → Q (.panic c) a w) (hiz : i ≠ z) :
    ∀ (fuel : Nat) (listed : Array Bool) (a : Act) (w : World), HeadInv md ops ops.size listed →
      (∀ j oj, ops[j]? = some oj → j ≠ i → listed.getD j true = false → (∀ e ∈ oj.after, Region.binds md e = true → e.on ≠ i) → oi.apart ops oj = true) →
      i ∈ Region.ready md ops listed → YieldsIf P ops (fun _ => True) oi v a → (listed.getD z false = false → S w) →
      wpZ P md ops Q S z fuel (listed.setIfInBounds i true) (a.put oi.dst v) w → wpZ P md ops Q S z (fuel + 1) listed a w := by
  intro fuel
  induction fuel with
  | zero =>
    intro listed a w inv _ hr hy hS H
    refine ⟨fun h => (by rw [h] at hr; cases hr), fun j hj => ?_⟩
    by_cases hji : j = i
    · subst hji; exact hy.wpOp hi trivial ⟨fun e => hS (by rwa [getD_set_ne false hiz] at e), H⟩
    · have := ready_mono hj hji
      rw [H.1] at this
      cases this
  | succ fuel ih =>
    intro listed a w inv hfree hr hy hS H
    refine ⟨fun h => (by rw [h] at hr; cases hr), fun j hj => ?_⟩
    by_cases hji : j = i
    · subst hji; exact hy.wpOp hi trivial ⟨fun e => hS (by rwa [getD_set_ne false hiz] at e), H⟩
    · have h1 := H.2 j (ready_mono hj hji)
      obtain ⟨hjun, oj, hoj, hall⟩ := mem_ready.1 hj
      have hjlt : j < ops.size := (Array.getElem?_eq_some_iff.1 hoj).1
      have hun := getD_both (mem_ready.1 hr).1
      have hnot : ∀ e ∈ oj.after, Region.binds md e = true → e.on ≠ i := fun e he hb heq => by
        have h1 := hall e he hb
        rw [heq, hun] at h1
        cases h1
      have h2 := wpOp_putIf hoj (hfree j oj hoj hji hjun hnot) (fun cs b => hsel i oi cs b hi) (fun cs b => hsel j oj cs b hoj) hQ hy h1
      have hfree' : ∀ k ok, ops[k]? = some ok → k ≠ i → (listed.setIfInBounds j true).getD k true = false →
          (∀ e ∈ ok.after, Region.binds md e = true → e.on ≠ i) → oi.apart ops ok = true := fun k ok hk hki hun2 hno => by
        refine hfree k ok hk hki ?_ hno
        by_cases hjk : j = k
        · subst hjk; exact hjun
        · rw [getD_set_ne true hjk] at hun2; exact hun2
      refine wpOp_mono (fun a' w' h3 => ?_) h2
      have hS' : (listed.setIfInBounds j true).getD z false = false → S w' := fun e => h3.2.1 (by
        rw [Array.setIfInBounds_comm _ _ (Ne.symm hji), getD_set_ne false hiz]
        exact e)
      refine ⟨hS', ih (listed.setIfInBounds j true) a' w' (inv.set hj hjlt) hfree' (ready_mono hr (Ne.symm hji)) h3.1 hS' ?_⟩
      rw [Array.setIfInBounds_comm _ _ hji]
      exact h3.2.2
theorem drop_get {i : Nat} {oi : Oper} {rest : List Oper} (hd : ops.toList.drop i = oi :: rest) : ops[i]? = some oi := by
  have h0 : (ops.toList.drop i)[0]? = some oi := by rw [hd]; rfl
  rw [List.getElem?_drop, Nat.add_zero, Array.getElem?_toList] at h0
  exact h0
/-- Operation i, which reads nothing, is taken first. -/
theorem takeW {i fuel : Nat} {oi : Oper} {rest : List Oper} {v : Value} {listed : Array Bool} {a : Act} {w : World} (hd : ops.toList.drop i = oi :: rest) (hs : Region.noSelect ops = true) (hf : Region.free md ops listed i = true)
    (hr : (Region.ready md ops listed).contains i = true) (hiz : i ≠ z) (hQ : ∀ c a w, Q (.panic c) (a.put oi.dst v) w → Q (.panic c) a w) (hg : oi.guard = none) (hS : S w) (hy : ∀ w, (execOp a.eval oi).run P w = .ok (.value v) w)
    (h : ZG P md ops Q S z fuel (listed.setIfInBounds i true) (a.put oi.dst v) w) : ZG P md ops Q S z (fuel + 1) listed a w := fun inv => by
  have hi := drop_get hd
  have hr' : i ∈ Region.ready md ops listed := by simpa using hr
  have hw : Region.wanted oi (yielded ops a.tmps) = true := by simp [Region.wanted, hg]
  exact wpZ_any hi (Region.noSelect_spec hs) hQ hiz fuel listed a w inv (Region.free_spec hi hf) hr' (.inl ⟨hw, fun w _ => hy w⟩) (fun _ => hS) (h (inv.set hr' (Array.getElem?_eq_some_iff.1 hi).1))
/-- Operation i, which reads what S tells, is taken first. -/
theorem takeZ {i f0 fuel : Nat} {oi : Oper} {rest : List Oper} {v : Value} {listed : Array Bool} {a : Act} {w : World} (hd : ops.toList.drop i = oi :: rest) (hs : Region.noSelect ops = true) (hf : Region.free md ops listed i = true)
    (hr : (Region.ready md ops listed).contains i = true) (hiz : i ≠ z) (hz : needB md ops i f0 z = true) (hQ : ∀ c a w, Q (.panic c) (a.put oi.dst v) w → Q (.panic c) a w) (hg : oi.guard = none) (hS : S w) (hy : ∀ w, S w → (execOp a.eval oi).run P w = .ok (.value v) w)
    (h : ZG P md ops Q S z fuel (listed.setIfInBounds i true) (a.put oi.dst v) w) : ZG P md ops Q S z (fuel + 1) listed a w := fun inv => by
  have hi := drop_get hd
  have hr' : i ∈ Region.ready md ops listed := by simpa using hr
  have hw : Region.wanted oi (yielded ops a.tmps) = true := by simp [Region.wanted, hg]
  exact wpZ_first hi (Region.noSelect_spec hs) hQ hiz hz fuel listed a w inv (Region.free_spec hi hf) hr' (.inl ⟨hw, hy⟩) hS (h (inv.set hr' (Array.getElem?_eq_some_iff.1 hi).1))
/-- Operation i alone may come up. -/
theorem oneZ {i fuel : Nat} {oi : Oper} {rest : List Oper} {listed : Array Bool} {a : Act} {w : World} (hd : ops.toList.drop i = oi :: rest) (hr : Region.ready md ops listed = [i]) (hg : oi.guard = none)
    (h : ∀ K : Act → World → Prop, (∀ a' w', S w' → ZG P md ops Q S z fuel (listed.setIfInBounds i true) a' w' → K a' w') → Oper.wp P oi a w K Q) : ZG P md ops Q S z (fuel + 1) listed a w := fun inv => by
  have hi := drop_get hd
  have hr' : i ∈ Region.ready md ops listed := by rw [hr]; simp
  refine ⟨fun h => (by rw [hr] at h; cases h), fun j hj => ?_⟩
  rw [hr] at hj
  obtain rfl : j = i := by simpa using hj
  unfold wpOp
  simp only [hi]
  have hw : Region.wanted oi (yielded ops a.tmps) = true := by simp [Region.wanted, hg]
  rw [if_pos hw]
  exact .inl (h _ fun a' w' h1 h2 => ⟨fun _ => h1, h2 (inv.set hr' (Array.getElem?_eq_some_iff.1 hi).1)⟩)
/-- From z on the operations come one behind the other. -/
theorem seqZ {fuel : Nat} {listed : Array Bool} {a : Act} {w : World} {l : List Oper} (hl : ops.toList.drop z = l) (hlen : l.length = fuel) (hB : Region.seqB md ops fuel z listed = true) (hsz : z < listed.size) (h : wpList P ops Q l a w) : ZG P md ops Q S z fuel listed a w := fun _ => by
  subst hlen
  subst hl
  have go : ∀ (l : List Oper) (k : Nat) (listed : Array Bool) (a : Act) (w : World), (∀ j, l[j]? = ops[k + j]?) → Region.seqB md ops l.length k listed = true → (k = z ∨ listed.getD z false = true) → z < listed.size → wpList P ops Q l a w → wpZ P md ops Q S z l.length listed a w := by
    intro l
    induction l with
    | nil => intro k listed a w _ hB _ _ h; exact ⟨by simpa [Region.seqB] using hB, h⟩
    | cons o l ih =>
      intro k listed a w hl hB hk hsz h
      have h0 : ops[k]? = some o := by simpa using (hl 0).symm
      simp only [List.length_cons, Region.seqB, Bool.and_eq_true, decide_eq_true_eq] at hB
      refine ⟨fun h1 => (by rw [hB.1] at h1; cases h1), fun i hi => ?_⟩
      rw [hB.1] at hi
      obtain rfl : i = k := by simpa using hi
      have hw : wpOp P ops Q i (wpList P ops Q l) a w := by unfold wpOp; simp only [h0]; exact h
      have hz : (listed.setIfInBounds i true).getD z false = true := by
        rcases hk with rfl | hk
        · simp [hsz]
        · exact getD_set_true hk
      refine wpOp_mono (fun a' w' h' => ⟨fun e => ?_, ih (i + 1) _ a' w' (fun j => by have := hl (j + 1); simpa [Nat.add_assoc, Nat.add_comm 1 j] using this) hB.2 (.inr hz) (by simpa using hsz) h'⟩) hw
      rw [hz] at e
      cases e
  exact go _ z listed a w (fun j => by rw [List.getElem?_drop, Array.getElem?_toList]) hB (.inl rfl) hsz h
/-- The beginning. -/
theorem startZ {id : Nat} {a : Act} {w : World} (hm : P.follows .mixedOrders = true) (h : ZG P .any ops Q S z ops.size (Array.replicate ops.size false) a w.drew) : (Code.region id ops true).wp P Q a w :=
  wp_region_any hm (wpAny_of_Z _ _ _ _ (h ⟨by simp, fun j oj _ hl => (by rw [getD_replicate_false] at hl; cases hl), fun t h1 h2 => by omega⟩))
end
end Go.Proofs.Ytefnpalkkhhkfaa.K
namespace Go.Proofs.Ytefnpalkkhhkfaa.PC
open Go.RowKit Go.Proofs.YtefnpalkkhhkfaaW.PrintWords Go.Proofs.YtefnpalkkhhkfaaW.PrintLast Go.Proofs.YtefnpalkkhhkfaaW.PrintMore Go.Proofs.Ytefnpalkkhhkfaa.K Go.Proofs.Ytefnpalkkhhkfaa.IX
set_option linter.unusedVariables false
set_option linter.unusedSimpArgs false
def flO (o : S49) : List Value := [.int .i64 o.f0.f0, .int .i64 o.f0.f1, .int .i64 o.f1, .bool o.f2, .int .i64 o.f3.f0, .int .i64 o.f3.f1, .int .i32 o.f4]
theorem flO_len (x : S49) : (flO x).length = k49.sz := rfl
theorem ownsO {w : World} {base : Nat} {ok : Nat → Prop} {v : Value} {xs : List S49} (h : Kd.R k49 49 w base ok v xs) : w.ownsRow base 49 7 v xs.length (xs.flatMap flO) :=
  owns_of_R (d := k49) flO_len (fun h => k49_openM h) h
theorem RO {w : World} {base : Nat} {v : Value} {xs : List S49} (h : w.ownsRow base 49 7 v xs.length (xs.flatMap flO)) : Kd.R k49 49 w base (fun _ => True) v xs :=
  R_of_owns (d := k49) (fl := flO) flO_len (fun _ _ _ _ => k49_mkM _ _ _ _) (fun _ _ => trivial) h
theorem app_op (w : World) (ov : Value) (os : List S49) (vb : Nat) (o : S49) (h : Rw k49 49 w ov os) (hv : w.heap[vb]? = some (.cells (flO o).toArray 49 (0, 0))) (hl : os.length ≤ 1000000) (ty : TypeId) :
    ∃ v' w', (Builtin.append_ #[22, 22] ty #[ov, .slice (some ⟨vb, 0, none⟩) 1 1]).run Try.prog w = .ok v' w' ∧ Rw k49 49 w' v' (os ++ [o]) ∧ w.grownBy w' ov.ownBlock ∧ ∀ k ∈ ob v', k ∈ ob ov ∨ w.heap.size ≤ k := by
  obtain ⟨v', w', hr, hI⟩ := app_one (P := Try.prog) w 22 49 _ 7 56 True ov os.length (os.flatMap flO) (flO o) vb 1 Try.underlying22 info49 rfl (by decide) (srow_of_owns (ownsO h)) hv rfl (by intro v hv; simp [flO] at hv; rcases hv with rfl | rfl | rfl | rfl | rfl | rfl | rfl <;> rfl) (by omega) (by unfold maxLen; omega) ty
  have e : os.flatMap flO ++ flO o = (os ++ [o]).flatMap flO := by simp
  rw [e] at hI
  have ho := owns_of_srow (base := 0) hI.1 (fun _ _ => Nat.zero_le _)
  rw [show os.length + 1 = (os ++ [o]).length by simp] at ho
  refine ⟨v', w', hr, Rw.of rfl (RO ho), hI.2.1, fun k hk => ?_⟩
  have hk2 := mem_ob.1 hk
  rcases hI.2.2.1 with q | ⟨b, q, hb⟩
  · exact .inl (mem_ob.2 (hk2.trans q))
  · rw [q] at hk2
    injection hk2 with hk2
    exact .inr (by omega)
end Go.Proofs.Ytefnpalkkhhkfaa.PC
namespace Go.Proofs.Ytefnpalkkhhkfaa.PC
open Go.RowKit Go.Proofs.YtefnpalkkhhkfaaW.PrintWords Go.Proofs.YtefnpalkkhhkfaaW.PrintLast Go.Proofs.YtefnpalkkhhkfaaW.PrintMore Go.Proofs.Ytefnpalkkhhkfaa.K Go.Proofs.Ytefnpalkkhhkfaa.IX
set_option linter.unusedVariables false
set_option linter.unusedSimpArgs false
/-- A text's parts, written out, in a world. -/
structure Parts (w : World) (p : Nat) (lv : Value) (x : Nat) (ov vv : Value) (mb : Nat) (FI : List Nat) (top : Int) (l : List S83) (os : List S49) (vs : List S104) (f : Int → Int) : Prop where
  head : w.heap[p]? = some (.cells #[lv, .pointer (some ⟨x, 0, none⟩), ov, vv, .map (some mb), .int .i64 top] 74 (0, 0))
  row : Rw k83 83 w lv l
  idx : Ix w FI x (l.map (·.f2))
  ops : Rw k49 49 w ov os
  vec : Rw k104 104 w vv vs
  map : IM w mb f
theorem Tx.parts {w : World} {F : List Nat} {p : Nat} {T : TS} (h : Tx w F p T) : ∃ lv x ov vv mb FI, Parts w p lv x ov vv mb FI T.top T.l T.ops T.v T.last ∧ F = p :: mb :: (ob lv ++ (FI ++ (ob ov ++ ob vv))) := by
  obtain ⟨lv, x, ov, vv, mb, FI, h1, h2, h3, h4, h5, h6, rfl⟩ := h
  exact ⟨lv, x, ov, vv, mb, FI, ⟨h1, h2, h3, h4, h5, h6⟩, rfl⟩
theorem Parts.tx {w : World} {p : Nat} {lv : Value} {x : Nat} {ov vv : Value} {mb : Nat} {FI : List Nat} {top : Int} {l : List S83} {os : List S49} {vs : List S104} {f : Int → Int} (h : Parts w p lv x ov vv mb FI top l os vs f) : Tx w (p :: mb :: (ob lv ++ (FI ++ (ob ov ++ ob vv)))) p ⟨l, os, vs, f, top⟩ :=
  ⟨lv, x, ov, vv, mb, FI, h.head, h.row, h.idx, h.ops, h.vec, h.map, rfl⟩
theorem Parts.keep {w w' : World} {p : Nat} {lv : Value} {x : Nat} {ov vv : Value} {mb : Nat} {FI : List Nat} {top : Int} {l : List S83} {os : List S49} {vs : List S104} {f : Int → Int} (h : Parts w p lv x ov vv mb FI top l os vs f) (hk : ∀ k, k < w.heap.size → w'.heap[k]? = w.heap[k]?) : Parts w' p lv x ov vv mb FI top l os vs f :=
  ⟨(hk p (lt_of h.head)).trans h.head, h.row.keep fun k m => hk k (h.row.lt k m), h.idx.keep fun k m => hk k (h.idx.lt k m), h.ops.keep fun k m => hk k (h.ops.lt k m), h.vec.keep fun k m => hk k (h.vec.lt k m), h.map.keep (hk mb h.map.lt)⟩
theorem Parts.below {w w' : World} {p : Nat} {lv : Value} {x : Nat} {ov vv : Value} {mb : Nat} {FI : List Nat} {top : Int} {l : List S83} {os : List S49} {vs : List S104} {f : Int → Int} (h : Parts w p lv x ov vv mb FI top l os vs f) (hb : Below w.heap.size w w') : Parts w' p lv x ov vv mb FI top l os vs f := h.keep fun k hk => hb.block k hk
/-- The same, without the operations' row. -/
structure Rest (w : World) (p : Nat) (lv : Value) (x : Nat) (ov vv : Value) (mb : Nat) (FI : List Nat) (top : Int) (l : List S83) (vs : List S104) (f : Int → Int) : Prop where
  head : w.heap[p]? = some (.cells #[lv, .pointer (some ⟨x, 0, none⟩), ov, vv, .map (some mb), .int .i64 top] 74 (0, 0))
  row : Rw k83 83 w lv l
  idx : Ix w FI x (l.map (·.f2))
  vec : Rw k104 104 w vv vs
  map : IM w mb f
theorem Parts.rest {w : World} {p : Nat} {lv : Value} {x : Nat} {ov vv : Value} {mb : Nat} {FI : List Nat} {top : Int} {l : List S83} {os : List S49} {vs : List S104} {f : Int → Int} (h : Parts w p lv x ov vv mb FI top l os vs f) : Rest w p lv x ov vv mb FI top l vs f := ⟨h.head, h.row, h.idx, h.vec, h.map⟩
theorem Rest.below {w w' : World} {p : Nat} {lv : Value} {x : Nat} {ov vv : Value} {mb : Nat} {FI : List Nat} {top : Int} {l : List S83} {vs : List S104} {f : Int → Int} (h : Rest w p lv x ov vv mb FI top l vs f) (hb : Below w.heap.size w w') : Rest w' p lv x ov vv mb FI top l vs f :=
  ⟨(hb.block p (lt_of h.head)).trans h.head, h.row.keep fun k m => hb.block k (h.row.lt k m), h.idx.below hb, h.vec.keep fun k m => hb.block k (h.vec.lt k m), h.map.keep (hb.block mb h.map.lt)⟩
/-- Behind what may have written into the operations' row alone. -/
theorem Parts.grown {w w' : World} {p : Nat} {lv : Value} {x : Nat} {ov vv : Value} {mb : Nat} {FI : List Nat} {top : Int} {l : List S83} {os : List S49} {vs : List S104} {f : Int → Int} (h : Parts w p lv x ov vv mb FI top l os vs f) (hg : w.grownBy w' ov.ownBlock) : Rest w' p lv x ov vv mb FI top l vs f := by
  have ha := apart_of h.head h.row h.idx h.ops h.vec h.map
  have hk : ∀ k, k < w.heap.size → k ∉ ob ov → w'.heap[k]? = w.heap[k]? := fun k hk hn => hg.block k hk (fun e => hn (mem_ob.2 e))
  exact ⟨(hk p (lt_of h.head) ha.po).trans h.head, h.row.keep fun k m => hk k (h.row.lt k m) (ha.lo k m), h.idx.keep fun k m => hk k (h.idx.lt k m) (fun q => ha.oi k q m), h.vec.keep fun k m => hk k (h.vec.lt k m) (fun q => ha.ow k q m), h.map.keep (hk mb h.map.lt ha.mo)⟩
/-- Behind the two stores. -/
theorem Rest.store {w : World} {p : Nat} {lv : Value} {x : Nat} {ov vv : Value} {mb : Nat} {FI : List Nat} {top : Int} {l : List S83} {vs : List S104} {f : Int → Int} (h : Rest w p lv x ov vv mb FI top l vs f) {v1 v2 : Value} {os' : List S49} {vs' : List S104} (h1 : Rw k49 49 w v1 os') (h2 : Rw k104 104 w v2 vs') :
    Parts ((w.setCell ⟨p, 2, none⟩ v1).setCell ⟨p, 3, none⟩ v2) p lv x v1 v2 mb FI top l os' vs' f := by
  have ha := apart_of h.head h.row h.idx h1 h2 h.map
  have far : ∀ k, k ≠ p → ((w.setCell ⟨p, 2, none⟩ v1).setCell ⟨p, 3, none⟩ v2).heap[k]? = w.heap[k]? := fun k hk => (heap_far _ ⟨p, 3, none⟩ _ hk).trans (heap_far _ ⟨p, 2, none⟩ _ hk)
  refine ⟨(heap_set _ p 3 _ (heap_set w p 2 _ h.head)).trans rfl, h.row.keep fun k m => far k (fun e => ha.pl (e ▸ m)), h.idx.keep fun k m => far k (fun e => ha.pi (e ▸ m)), h1.keep fun k m => far k (fun e => ha.po (e ▸ m)), h2.keep fun k m => far k (fun e => ha.pv (e ▸ m)), h.map.keep (far mb (fun e => ha.pm e.symm))⟩
end Go.Proofs.Ytefnpalkkhhkfaa.PC
namespace Go.Proofs.Ytefnpalkkhhkfaa.PC
open Go.RowKit Go.ChangeMaps Go.Proofs.YtefnpalkkhhkfaaW.PrintWords Go.Proofs.YtefnpalkkhhkfaaW.PrintLast Go.Proofs.YtefnpalkkhhkfaaW.PrintMore Go.Proofs.Ytefnpalkkhhkfaa.K Go.Proofs.Ytefnpalkkhhkfaa.IX Go.Proofs.Ytefnpalkkhhkfaa.I
set_option linter.unusedVariables false
set_option linter.unusedSimpArgs false
def opCells (o : S49) : Obj := .cells #[.int .i64 o.f0.f0, .int .i64 o.f0.f1, .int .i64 o.f1, .bool o.f2, .int .i64 o.f3.f0, .int .i64 o.f3.f1, .int .i32 o.f4] 49 (0, 0)
/-- A text's parts behind the two stores. -/
def Mid (w : World) (b p : Nat) (lv : Value) (x : Nat) (ov : Value) (mb : Nat) (FI : List Nat) (top : Int) (l : List S83) (os : List S49) (vs : List S104) (f : Int → Int) (blk : Obj) (w' : World) : Prop :=
  ∃ ov' vv', Parts w' p lv x ov' vv' mb FI top l os vs f ∧ w'.heap[b]? = some blk ∧ Fr (p :: ob ov) w w' ∧ (∀ k ∈ ob ov', k ∈ ob ov ∨ w.heap.size ≤ k) ∧ ∀ k ∈ ob vv', w.heap.size ≤ k
set_option maxHeartbeats 1000000 in
theorem mid_state {w wa : World} {b p : Nat} {lv : Value} {x : Nat} {ov vv : Value} {mb : Nat} {FI : List Nat} {top : Int} {l : List S83} {os : List S49} {vs : List S104} {f : Int → Int} (hP : Parts w p lv x ov vv mb FI top l os vs f) (o : S49) (hblk : w.heap[b]? = some (opCells o)) (hnb : b ∉ ob ov) (hpb : p ≠ b) (hup : upS vs) (hol : os.length ≤ 1000000) (hvl : vs.length ≤ 1000000)
    (hwa : Below w.heap.size w wa) (hnew : wa.heap[w.heap.size]? = some (opCells o)) (ty : TypeId) :
    ∃ A7 n7 c7 w7, (Builtin.append_ #[22, 22] ty #[ov, .slice (some ⟨w.heap.size, 0, none⟩) 1 1]).run Try.prog wa = .ok (.slice A7 n7 c7) w7 ∧ w7.heap[p]? = some (.cells #[lv, .pointer (some ⟨x, 0, none⟩), ov, vv, .map (some mb), .int .i64 top] 74 (0, 0)) ∧ w7.heap[b]? = some (opCells o) ∧
      Calls Try.prog 41 #[vv, .int .i64 o.f0.f1, .int .i64 o.f1] w7 fun e w8 => ∃ A8 n8 c8, e = .returned (.slice A8 n8 c8) ∧ w8.heap[p]? = some (.cells #[lv, .pointer (some ⟨x, 0, none⟩), ov, vv, .map (some mb), .int .i64 top] 74 (0, 0)) ∧ w8.heap[b]? = some (opCells o) ∧
        Mid w b p lv x ov mb FI top l (os ++ [o]) (wtS vs o.f0.f1 o.f1) f (opCells o) ((w8.setCell ⟨p, 2, none⟩ (.slice A7 n7 c7)).setCell ⟨p, 3, none⟩ (.slice A8 n8 c8)) := by
  have hPa := hP.below hwa
  have hsz := hwa.size
  have hne : w.heap.size < wa.heap.size := lt_of hnew
  obtain ⟨v7, w7, e7, r7, g7, o7⟩ := app_op wa ov os w.heap.size o hPa.ops hnew hol ty
  obtain ⟨A7, c7, rfl⟩ := Kd.R_slice r7
  have hR7 := hPa.grown g7
  have hb7 : w7.heap[b]? = some (opCells o) := (g7.block b (by have := lt_of hblk; omega) (fun e => hnb (mem_ob.2 e))).trans ((hwa.block b (lt_of hblk)).trans hblk)
  refine ⟨A7, _, c7, w7, e7, hR7.head, hb7, ?_⟩
  have hg := g7.size
  obtain ⟨A5, c5, rfl, h5, h6⟩ := Kd.R_reads hR7.vec
  refine (with_calls vs o.f0.f1 o.f1 A5 c5 w7 h6 hup hvl).mono ?_
  rintro e w8 ⟨v8, rfl, r8, b8⟩
  obtain ⟨A8, c8, rfl⟩ := Kd.R_slice r8
  have hR8 := hR7.below b8
  have hp8 := hR8.head
  have hb8 : w8.heap[b]? = some (opCells o) := (b8.block b (lt_of hb7)).trans hb7
  have q8 : Rw k104 104 w8 (.slice A8 (wtS vs o.f0.f1 o.f1).length c8) (wtS vs o.f0.f1 o.f1) := Rw.of rfl r8
  have q7 : Rw k49 49 w8 (.slice A7 (os ++ [o]).length c7) (os ++ [o]) := r7.keep fun k hk => b8.block k (r7.lt k hk)
  refine ⟨A8, _, c8, rfl, hp8, hb8, _, _, hR8.store q7 q8, ?_, ?_, ?_, ?_⟩
  · exact (heap_far _ ⟨p, 3, none⟩ _ (fun e => hpb e.symm)).trans ((heap_far _ ⟨p, 2, none⟩ _ (fun e => hpb e.symm)).trans hb8)
  · have f1 : Fr (p :: ob ov) w w7 := (Fr.of_below hwa).trans (Fr.of_grown (F := p :: ob ov) g7 fun g hg => by
      have : g ∈ ob ov := mem_ob.2 hg.symm
      simp [this]) (fun _ h => .inl h)
    have f2 : Fr (p :: ob ov) w w8 := f1.trans (Fr.of_below (F := p :: ob ov) b8) (fun _ h => .inl h)
    have f3 := f2.trans (Fr.of_set (F := p :: ob ov) w8 ⟨p, 2, none⟩ (.slice A7 (os ++ [o]).length c7) (by simp)) (fun _ h => .inl h)
    exact f3.trans (Fr.of_set (F := p :: ob ov) _ ⟨p, 3, none⟩ _ (by simp)) (fun _ h => .inl h)
  · intro k hk
    rcases o7 k hk with q | q
    · exact .inl q
    · exact .inr (by omega)
  · intro k hk
    have := ((Kd.R_bound r8).1 k (mem_ob.1 hk).symm).2.1
    omega
set_option maxHeartbeats 1000000 in
theorem top_state {w : World} {b p : Nat} {lv : Value} {x : Nat} {ov vv : Value} {mb : Nat} {FI : List Nat} {top : Int} {l : List S83} {os : List S49} {vs : List S104} {f : Int → Int} (hP : Parts w p lv x ov vv mb FI top l os vs f) (o : S49) (hblk : w.heap[b]? = some (opCells o)) (hpb : p ≠ b) :
    ∃ (st : Nat) (w1 : World), (Instr.mapEntry 72 (.map (some mb)) (.int .i64 o.f0.f1)).run Try.prog w = .ok (.tuple #[.int .i64 (f o.f0.f1), .int .i64 (st : Int)]) w1 ∧ w1.heap[p]? = some (.cells #[lv, .pointer (some ⟨x, 0, none⟩), ov, vv, .map (some mb), .int .i64 top] 74 (0, 0)) ∧ w1.heap[b]? = some (opCells o) ∧
      ∃ w2, (Instr.entryStore 72 (.map (some mb)) (.int .i64 (st : Int)) (.int .i64 o.f0.f0)).run Try.prog w1 = .ok () w2 ∧ w2.heap[p]? = some (.cells #[lv, .pointer (some ⟨x, 0, none⟩), ov, vv, .map (some mb), .int .i64 top] 74 (0, 0)) ∧ w2.heap[b]? = some (opCells o) ∧
        ∀ top', Parts (w2.setCell ⟨p, 5, none⟩ (.int .i64 top')) p lv x ov vv mb FI top' l os vs (upd f o.f0.f1 o.f0.f0) ∧ Fr [p, mb] w (w2.setCell ⟨p, 5, none⟩ (.int .i64 top')) := by
  obtain ⟨st, ob1, e1, h1, h2⟩ := hP.map.entry (P := Try.prog) Try.underlying72 Try.underlying3 zero_int o.f0.f1
  obtain ⟨ob2, e2, h3⟩ := h2 _ o.f0.f0 h1
  have ha := apart_of hP.head hP.row hP.idx hP.ops hP.vec hP.map
  have hmb := hP.map.lt
  have far : ∀ (W : World) (ob' : Obj) (k : Nat), k ≠ mb → (setBlock W mb ob').heap[k]? = W.heap[k]? := fun W ob' k hk => by
    simp only [setBlock]
    rw [Array.getElem?_setIfInBounds_ne (fun e => hk e.symm)]
  have hbm : b ≠ mb := fun e => by
    have := hP.map.ne hblk
    exact this e.symm
  obtain ⟨w1, hw1⟩ : ∃ w1, setBlock w mb ob1 = w1 := ⟨_, rfl⟩
  have far1 : ∀ k, k ≠ mb → w1.heap[k]? = w.heap[k]? := fun k hk => by rw [← hw1]; exact far _ _ k hk
  have sz1 : w1.heap.size = w.heap.size := by rw [← hw1]; simp [setBlock]
  have fr1 : Fr [p, mb] w w1 := ⟨by rw [← hw1]; rfl, by rw [← hw1]; rfl, by rw [← hw1]; rfl, by omega, fun k hk hn => far1 k (fun e => hn (by simp [e]))⟩
  rw [hw1] at e1 e2 h3
  obtain ⟨w2, hw2⟩ : ∃ w2, setBlock w1 mb ob2 = w2 := ⟨_, rfl⟩
  have far2 : ∀ k, k ≠ mb → w2.heap[k]? = w1.heap[k]? := fun k hk => by rw [← hw2]; exact far _ _ k hk
  have sz2 : w2.heap.size = w1.heap.size := by rw [← hw2]; simp [setBlock]
  have fr2 : Fr [p, mb] w1 w2 := ⟨by rw [← hw2]; rfl, by rw [← hw2]; rfl, by rw [← hw2]; rfl, by omega, fun k hk hn => far2 k (fun e => hn (by simp [e]))⟩
  rw [hw2] at e2 h3
  have far3 : ∀ k, k ≠ mb → w2.heap[k]? = w.heap[k]? := fun k hk => (far2 k hk).trans (far1 k hk)
  refine ⟨st, w1, e1, (far1 p ha.pm).trans hP.head, (far1 b hbm).trans hblk, w2, e2, (far3 p ha.pm).trans hP.head, (far3 b hbm).trans hblk, fun top' => ⟨?_, ?_⟩⟩
  · have fs : ∀ k, k ≠ p → (w2.setCell ⟨p, 5, none⟩ (.int .i64 top')).heap[k]? = w2.heap[k]? := fun k hk => heap_far _ ⟨p, 5, none⟩ _ hk
    have ft : ∀ k, k ≠ p → k ≠ mb → (w2.setCell ⟨p, 5, none⟩ (.int .i64 top')).heap[k]? = w.heap[k]? := fun k h1 h2 => (fs k h1).trans (far3 k h2)
    refine ⟨(heap_set _ p 5 _ ((far3 p ha.pm).trans hP.head)).trans rfl, hP.row.keep fun k m => ft k (fun e => ha.pl (e ▸ m)) (fun e => ha.ml (e ▸ m)), hP.idx.keep fun k m => ft k (fun e => ha.pi (e ▸ m)) (fun e => ha.mi (e ▸ m)), hP.ops.keep fun k m => ft k (fun e => ha.po (e ▸ m)) (fun e => ha.mo (e ▸ m)), hP.vec.keep fun k m => ft k (fun e => ha.pv (e ▸ m)) (fun e => ha.mv (e ▸ m)), h3.keep (fs mb (fun e => ha.pm e.symm))⟩
  · have f2 := fr1.trans fr2 (fun _ h => .inl h)
    exact f2.trans (Fr.of_set (F := [p, mb]) w2 ⟨p, 5, none⟩ (.int .i64 top') (by simp)) (fun _ h => .inl h)
/-- What taking an operation does to a text. -/
def TakeFin (w : World) (F : List Nat) (p : Nat) (T : TS) (w' : World) : Prop :=
  ∃ F', Tx w' F' p T ∧ Fr F w w' ∧ ∀ k ∈ F', k ∈ F ∨ w.heap.size ≤ k
/-- All three steps, behind the element. -/
theorem take_fin {w0 w w9 wz : World} {F F6 : List Nat} {p : Nat} {lv : Value} {x : Nat} {ov vv : Value} {mb : Nat} {FI : List Nat} {top' : Int} {l : List S83} {vs' : List S104} {os' : List S49} {f' : Int → Int} (hF6 : F6 = p :: mb :: (ob lv ++ (FI ++ (ob ov ++ ob vv)))) (hf : Fr F w0 w) (hs : ∀ k ∈ F6, k ∈ F ∨ w0.heap.size ≤ k)
    {ov' vv' : Value} (h1 : Fr (p :: ob ov) w w9) (h2 : ∀ k ∈ ob ov', k ∈ ob ov ∨ w.heap.size ≤ k) (h3 : ∀ k ∈ ob vv', w.heap.size ≤ k) (hz : Parts wz p lv x ov' vv' mb FI top' l os' vs' f') (h4 : Fr [p, mb] w9 wz) : TakeFin w0 F p ⟨l, os', vs', f', top'⟩ wz := by
  subst hF6
  have hsz := hf.size
  refine ⟨_, hz.tx, ?_, ?_⟩
  · refine (hf.trans h1 ?_).trans h4 ?_
    · intro k hk
      simp only [List.mem_cons] at hk
      rcases hk with rfl | hk
      · exact hs _ (by simp)
      · exact hs _ (by simp [hk])
    · intro k hk
      simp only [List.mem_cons, List.not_mem_nil, or_false] at hk
      rcases hk with rfl | rfl
      · exact hs _ (by simp)
      · exact hs _ (by simp)
  · intro k hk
    simp only [List.mem_cons, List.mem_append] at hk
    rcases hk with rfl | rfl | hk | hk | hk | hk
    · exact hs _ (by simp)
    · exact hs _ (by simp)
    · exact hs _ (by simp [hk])
    · exact hs _ (by simp [hk])
    · rcases h2 k hk with q | q
      · exact hs _ (by simp [q])
      · exact .inr (by omega)
    · have := h3 k hk
      exact .inr (by omega)
end Go.Proofs.Ytefnpalkkhhkfaa.PC
namespace Go.Proofs.Ytefnpalkkhhkfaa.PC
open Go.RowKit Go.Proofs.YtefnpalkkhhkfaaW.PrintWords Go.Proofs.YtefnpalkkhhkfaaW.PrintLast Go.Proofs.YtefnpalkkhhkfaaW.PrintMore Go.Proofs.Ytefnpalkkhhkfaa.K Go.Proofs.Ytefnpalkkhhkfaa.IX Go.Proofs.Ytefnpalkkhhkfaa.I
attribute [local go_sem] max2_int min2_int max_two min_two max_three min_three max_four min_four
attribute [local go_sem high] eqA24
set_option linter.unusedVariables false
set_option linter.unusedSimpArgs false
set_option maxHeartbeats 4000000 in
set_option maxRecDepth 100000 in
theorem put_ins (w : World) (F : List Nat) (p : Nat) (T : TS) (o : S49) (h : Tx w F p T) (hr : rightS o) (hv : upS T.v) (hvl : T.v.length ≤ 1000000) (hl : T.l.length ≤ 500000) (hol : T.ops.length ≤ 1000000) (hk0 : 0 ≤ knownS T o) (ho : o.f1 = knownS T o + 1) (hn : 0 ≤ placeS T.l o.f3) (hlast : T.last o.f0.f1 < o.f0.f0) (hins : o.f2 = true) : Calls Try.prog 24 #[.pointer (some ⟨p, 0, none⟩), opV o] w fun e w' => e = .returned (.tuple #[.bool true, .int .i64 0]) ∧ TakeFin w F p ⟨insT T.l (skT T.l (placeS T.l o.f3 + 1).toNat o) o, T.ops ++ [o], wtS T.v o.f0.f1 o.f1, upd T.last o.f0.f1 o.f0.f0, max T.top o.f0.f0⟩ w' := by
  obtain ⟨TT, hTT⟩ : ∃ TT, (⟨insT T.l (skT T.l (placeS T.l o.f3 + 1).toNat o) o, T.ops ++ [o], wtS T.v o.f0.f1 o.f1, upd T.last o.f0.f1 o.f0.f0, max T.top o.f0.f0⟩ : TS) = TT := ⟨_, rfl⟩
  rw [hTT]
  have HTT := Lib.hid hTT
  clear hTT
  have HOL := Lib.hid hol
  have KI := Lib.hid (fun W (hb : Below w.heap.size w W) n hn => insert_calls W F p T n o (h.below hb) hn hl)
  have hpl := placeS_range T.l o.f3
  have K1 := right_is o
  rw [decide_eq_true hr] at K1
  have HK := Lib.hid K1
  obtain ⟨A1, c1, x, A2, c2, A3, c3, mb, FI, h0, h1, h2, h3, h4, h5, _, _, _, ⟨hc, hrv⟩, him⟩ := h.read
  have K2 := Lib.hid (fun W (hb : Below w.heap.size w W) a => seq_calls T.v a A3 c3 W (Kd.C_below hrv hb) hc hv hvl)
  have K3 := Lib.hid (fun W (hb : Below w.heap.size w W) => tplace_calls W F p T o.f3 (h.below hb) (by omega))
  obtain ⟨kn, hkn⟩ : ∃ kn, knownS T o = kn := ⟨_, rfl⟩
  obtain ⟨at_, hat⟩ : ∃ at_, placeS T.l o.f3 = at_ := ⟨_, rfl⟩
  rw [hat] at K3 hn hpl
  have HAT := Lib.hid hat
  rw [hkn] at ho hk0
  have ho2 : o.f1 ≤ 4294967295 := hr.2.2.1
  unfold knownS at hkn
  obtain ⟨⟨o0, o1⟩, o2, o3, ⟨o4, o5⟩, o6⟩ := o
  have hins2 : o3 = true := hins
  subst hins2
  unfold opV at *
  have K2b := Lib.hid (fun W (hb : Below w.heap.size w W) => (hkn ▸ K2.out W hb o1 : Calls Try.prog 37 #[.slice A3 T.v.length c3, .int .i64 o1] W fun e w' => e = .returned (.int .i64 kn) ∧ Below W.heap.size W w'))
  obtain ⟨W1, hW1⟩ : ∃ W1, w.alloc (.cells #[.int .i64 o0, .int .i64 o1, .int .i64 o2, .bool true, .int .i64 o4, .int .i64 o5, .int .i32 o6] 49) = W1 := ⟨_, rfl⟩
  have hb : Below w.heap.size w W1 := by rw [← hW1]; exact (Below.refl _ w).alloc (Nat.le_refl _) _
  have hnew : W1.heap[w.heap.size]? = some (.cells #[.int .i64 o0, .int .i64 o1, .int .i64 o2, .bool true, .int .i64 o4, .int .i64 o5, .int .i32 o6] 49 (0, 0)) := by rw [← hW1]; exact heap_new w _
  have HB := Lib.hid hb
  have HS : Aside0 (∀ W, Below W1.heap.size W1 W → W.cell? ⟨p, 3, none⟩ = some (.slice A3 T.v.length c3) ∧ W.cell? ⟨w.heap.size, 1, none⟩ = some (.int .i64 o1)) :=
    ⟨fun W hb2 => ⟨((below_step hb hb2).cell (World.block_lt_of_cell? w _ h3)).trans h3, (hb2.cell (lt_of hnew)).trans ((cell_of hnew 1).trans rfl)⟩⟩
  have HO : Aside0 (∀ W, Below W1.heap.size W1 W → W.cell? ⟨w.heap.size, 2, none⟩ = some (.int .i64 o2) ∧ W.cell? ⟨w.heap.size, 4, none⟩ = some (.int .i64 o4) ∧ W.cell? ⟨w.heap.size, 5, none⟩ = some (.int .i64 o5)) :=
    ⟨fun W hb2 => ⟨(hb2.cell (lt_of hnew)).trans ((cell_of hnew 2).trans rfl), (hb2.cell (lt_of hnew)).trans ((cell_of hnew 4).trans rfl), (hb2.cell (lt_of hnew)).trans ((cell_of hnew 5).trans rfl)⟩⟩
  have HM : Aside0 (∀ W, Below w.heap.size w W → (Instr.lookup 72 (.map (some mb)) (.int .i64 o1) false).run Try.prog W = .ok (.int .i64 (T.last o1)) W) := ⟨fun W hb2 => (him.keep (hb2.block mb him.lt)).look_ Try.underlying72 Try.underlying3 (zero_int W) o1⟩
  have HC : Aside0 (∀ W, Below W1.heap.size W1 W → W.cell? ⟨p, 4, none⟩ = some (.map (some mb)) ∧ W.cell? ⟨w.heap.size, 0, none⟩ = some (.int .i64 o0)) := ⟨fun W hb2 => ⟨((below_step hb hb2).cell (World.block_lt_of_cell? w _ h4)).trans h4, (hb2.cell (lt_of hnew)).trans ((cell_of hnew 0).trans rfl)⟩⟩
  have HBLK : Aside0 (∀ W, Below W1.heap.size W1 W → W.heap[w.heap.size]? = some (.cells #[.int .i64 o0, .int .i64 o1, .int .i64 o2, .bool true, .int .i64 o4, .int .i64 o5, .int .i32 o6] 49 (0, 0))) := ⟨fun W hb2 => (hb2.block _ (lt_of hnew)).trans hnew⟩
  have HFLT := Lib.hid h.lt
  have HUP := Lib.hid hv
  have HVL := Lib.hid (show ∀ vs, vs = T.v → vs.length ≤ 1000000 from fun vs e => by rw [e]; exact hvl)
  have HO2 : Aside0 (∀ W, Below W1.heap.size W1 W → W.cell? ⟨w.heap.size, 3, none⟩ = some (.bool true) ∧ W.cell? ⟨w.heap.size, 6, none⟩ = some (.int .i32 o6)) :=
    ⟨fun W hb2 => ⟨(hb2.cell (lt_of hnew)).trans ((cell_of hnew 3).trans rfl), (hb2.cell (lt_of hnew)).trans ((cell_of hnew 6).trans rfl)⟩⟩
  have hlast2 : ¬ o0 ≤ T.last o1 := by simp only at hlast; omega
  generalize T.last o1 = la at HM hlast2
  clear him hlast
  generalize T.v.length = vl at *
  have HL := Lib.hid hl
  clear h hr hb K1 hnew hkn hat hrv hv hvl hl hol h0 h1 h2 h3 h4 h5
  subst hW1
  have hw1 : IntKind.i64.wrap (kn + 1) = kn + 1 := by rw [IntKind.wrap_i64]; simp only at ho ho2; omega
  have hno : ¬ o2 ≤ kn := by simp only at ho; omega
  have hye : ¬ kn + 1 < o2 := by simp only at ho; omega
  have hn2 : ¬ at_ < 0 := by omega
  have hd : decide (at_ < 0) = false := by simpa using hn
  clear ho ho2
  go_enter Try.func24, Try.ntmps24
  go_wp2_with (go_at_call 36; refine (HK.out _).mono ?_; rintro e w2 ⟨rfl, hb⟩; have HB2 := Lib.hid hb; have HBW := Lib.hid (below_step HB.out hb); obtain ⟨s0, s1⟩ := HS.out _ hb; clear hb)
  have HB3 := Lib.hid HB2.out.drew
  go_region_held3 (fun W => W.cell? ⟨p, 3, none⟩ = some (.slice A3 vl c3) ∧ W.cell? ⟨w.heap.size, 1, none⟩ = some (.int .i64 o1)) ((first | exact HS.out _ HB2.out | exact HS.out _ HB3.out | exact HS.out _ HB4.out)) (first
    | (go_at_call 37; refine (K2b.out _ (below_step HB.out HB3.out)).mono ?_; rintro e w4 ⟨rfl, hb⟩; have HB4 := Lib.hid (below_step HB3.out hb); obtain ⟨t2, t4, t5⟩ := HO.out _ HB4.out; clear hb))
  go_wp2_with (go_at_call 38; refine (K3.out _ (below_step HB.out HB4.out)).mono ?_; rintro e w5 ⟨rfl, hb⟩; have HB5 := Lib.hid (below_step HB4.out hb); obtain ⟨u2, u4, u5⟩ := HO.out _ HB5.out; obtain ⟨x4, x0⟩ := HC.out _ HB5.out; obtain ⟨_, x1⟩ := HS.out _ HB5.out; have hlk := HM.out _ (below_step HB.out HB5.out); have hlk2 := HM.out _ (below_step HB.out HB5.out).drew; clear hb)
  obtain ⟨u3, u6⟩ := HO2.out _ HB5.out
  go_region
  have hw2 : IntKind.i64.wrap (at_ + 1) = at_ + 1 := by rw [IntKind.wrap_i64]; have := HL.out; omega
  obtain ⟨m, hm⟩ : ∃ m : Nat, at_ + 1 = (m : Int) := ⟨(at_ + 1).toNat, by omega⟩
  have KI2 := Lib.hid (KI.out w5.drew (below_step HB.out HB5.out).drew m (by omega))
  unfold opV at KI2
  rw [hm] at hw2
  have HM2 := Lib.hid (show (placeS T.l ⟨o4, o5⟩ + 1).toNat = m by rw [HAT.out, hm]; rfl)
  go_upto_region 16 with (go_at_call 39; refine KI2.out.mono ?_; rintro e w6 ⟨rfl, hfin⟩; have HFIN := Lib.hid hfin; clear hfin)
  obtain ⟨F6, hT6, hF6, hsub⟩ := HFIN.out
  obtain ⟨lv, x6, ov, vv, mb6, FI6, hP, hFe⟩ := hT6.parts
  have hblk : w6.heap[w.heap.size]? = some (opCells ⟨⟨o0, o1⟩, o2, true, ⟨o4, o5⟩, o6⟩) := (hF6.block w.heap.size (show w.heap.size < w5.drew.heap.size from lt_of (w := w5) (HBLK.out w5 HB5.out)) (fun hm => by have := HFLT.out _ hm; omega)).trans (show w5.drew.heap[w.heap.size]? = _ from HBLK.out w5 HB5.out)
  have hb6 : w.heap.size ∉ F6 := fun hk => by
    rcases hsub _ hk with q | q
    · have := HFLT.out _ q; omega
    · have h5 := lt_of (HBLK.out w5 HB5.out); have q2 : w5.heap.size ≤ w.heap.size := q; omega
  have hfr := (Fr.of_below (F := F) (below_step HB.out HB5.out).drew).trans hF6 (fun _ h => .inl h)
  have hsub2 : ∀ k ∈ F6, k ∈ F ∨ w.heap.size ≤ k := fun k hk => by
    rcases hsub _ hk with q | q
    · exact .inl q
    · have := (below_step HB.out HB5.out).drew.size; exact .inr (by omega)
  have hpb : p ≠ w.heap.size := fun e => hb6 (by rw [hFe, ← e]; simp)
  have hnb : w.heap.size ∉ ob ov := fun hk => hb6 (by rw [hFe]; simp [hk])
  obtain ⟨A4, c4, rfl⟩ := Kd.R_slice hP.ops
  obtain ⟨A5, c5, rfl⟩ := Kd.R_slice hP.vec
  have hwa : Below w6.heap.size w6 ((w6.alloc (.cells #[.int .i64 o0, .int .i64 o1, .int .i64 o2, .bool true, .int .i64 o4, .int .i64 o5, .int .i32 o6] 49)).drew) := ((Below.refl _ w6).alloc (Nat.le_refl _) _).drew
  obtain ⟨A7, n7, c7, w7, e7, hp7, hb7, k7⟩ := mid_state hP ⟨⟨o0, o1⟩, o2, true, ⟨o4, o5⟩, o6⟩ hblk hnb hpb HUP.out HOL.out (HVL.out T.v rfl) hwa (heap_new w6 _) 22
  have HK7 := Lib.hid k7
  have HE7 := Lib.hid e7
  have HSG := Lib.hid (fun (W : World) (h : W.heap[w.heap.size]? = some (opCells ⟨⟨o0, o1⟩, o2, true, ⟨o4, o5⟩, o6⟩)) => show (W.cell? ⟨w.heap.size, 0, none⟩ = some (.int .i64 o0) ∧ W.cell? ⟨w.heap.size, 1, none⟩ = some (.int .i64 o1) ∧ W.cell? ⟨w.heap.size, 2, none⟩ = some (.int .i64 o2) ∧ W.cell? ⟨w.heap.size, 3, none⟩ = some (.bool true) ∧ W.cell? ⟨w.heap.size, 4, none⟩ = some (.int .i64 o4) ∧ W.cell? ⟨w.heap.size, 5, none⟩ = some (.int .i64 o5) ∧ W.cell? ⟨w.heap.size, 6, none⟩ = some (.int .i32 o6)) from
    ⟨(cell_of h 0).trans rfl, (cell_of h 1).trans rfl, (cell_of h 2).trans rfl, (cell_of h 3).trans rfl, (cell_of h 4).trans rfl, (cell_of h 5).trans rfl, (cell_of h 6).trans rfl⟩)
  have HX6 := Lib.hid hblk
  have HXa := Lib.hid ((hwa.block _ (lt_of hblk)).trans hblk)
  have HX7 := Lib.hid hb7
  have HPB := Lib.hid hpb
  have p2 : w6.cell? ⟨p, 2, none⟩ = some (.slice A4 T.ops.length c4) := (cell_of hP.head 2).trans rfl
  have p3 : w6.cell? ⟨p, 3, none⟩ = some (.slice A5 T.v.length c5) := (cell_of hP.head 3).trans rfl
  have pa2 : (w6.alloc (.cells #[.int .i64 o0, .int .i64 o1, .int .i64 o2, .bool true, .int .i64 o4, .int .i64 o5, .int .i32 o6] 49)).cell? ⟨p, 2, none⟩ = some (.slice A4 T.ops.length c4) := (((Below.refl _ w6).alloc (Nat.le_refl _) _).cell (World.block_lt_of_cell? w6 _ p2)).trans p2
  have pa3 : (w6.alloc (.cells #[.int .i64 o0, .int .i64 o1, .int .i64 o2, .bool true, .int .i64 o4, .int .i64 o5, .int .i32 o6] 49)).cell? ⟨p, 3, none⟩ = some (.slice A5 T.v.length c5) := (((Below.refl _ w6).alloc (Nat.le_refl _) _).cell (World.block_lt_of_cell? w6 _ p3)).trans p3
  have q72 : w7.cell? ⟨p, 2, none⟩ = some (.slice A4 T.ops.length c4) := (cell_of hp7 2).trans rfl
  have q73 : w7.cell? ⟨p, 3, none⟩ = some (.slice A5 T.v.length c5) := (cell_of hp7 3).trans rfl
  have HFI := Lib.hid (show Fr F w w6 ∧ (∀ k ∈ F6, k ∈ F ∨ w.heap.size ≤ k) ∧ F6 = p :: mb6 :: (ob lv ++ (FI6 ++ (ob (.slice A4 T.ops.length c4) ++ ob (.slice A5 T.v.length c5)))) from ⟨hfr, hsub2, hFe⟩)
  generalize T.ops.length = nO at *
  generalize T.v.length = nV at *
  clear hP k7 e7 hblk hwa hb7 hp7 hfr hsub2 hFe hpb hnb hT6 hF6 hsub hb6
  go_cut [] from 75 to 97 (fun wx => Aside0 (Mid w6 w.heap.size p lv x6 (.slice A4 nO c4) mb6 FI6 T.top (insT T.l (skT T.l m ⟨⟨o0, o1⟩, o2, true, ⟨o4, o5⟩, o6⟩) ⟨⟨o0, o1⟩, o2, true, ⟨o4, o5⟩, o6⟩) (T.ops ++ [⟨⟨o0, o1⟩, o2, true, ⟨o4, o5⟩, o6⟩]) (wtS T.v o1 o2) T.last (opCells ⟨⟨o0, o1⟩, o2, true, ⟨o4, o5⟩, o6⟩) wx))
  case first =>
    have HZ0 := Lib.hid (And.intro (HSG.out w6 HX6.out) (And.intro p2 p3))
    have HZa := Lib.hid (And.intro (HSG.out _ HXa.out) (And.intro pa2 pa3))
    have HZ7 := Lib.hid (And.intro (HSG.out w7 HX7.out) (And.intro q72 q73))
    clear p2 p3 pa2 pa3 q72 q73
    refine startZ (z := 18) (S := (fun W => (W.cell? ⟨w.heap.size, 0, none⟩ = some (.int .i64 o0) ∧ W.cell? ⟨w.heap.size, 1, none⟩ = some (.int .i64 o1) ∧ W.cell? ⟨w.heap.size, 2, none⟩ = some (.int .i64 o2) ∧ W.cell? ⟨w.heap.size, 3, none⟩ = some (.bool true) ∧ W.cell? ⟨w.heap.size, 4, none⟩ = some (.int .i64 o4) ∧ W.cell? ⟨w.heap.size, 5, none⟩ = some (.int .i64 o5) ∧ W.cell? ⟨w.heap.size, 6, none⟩ = some (.int .i32 o6)) ∧ W.cell? ⟨p, 2, none⟩ = some (.slice A4 nO c4) ∧ W.cell? ⟨p, 3, none⟩ = some (.slice A5 nV c5))) (by kernel_rfl) ?_
    show ZG _ _ _ _ _ _ 25 _ _ _
    refine takeW (i := 0) (v := ?_) rfl (by kernel_rfl) (by kernel_rfl) (by kernel_rfl) (by decide) (fun _ _ _ h => h) rfl (by exact HZ0.out) ?_ ?_
    rotate_left
    · intro wq; go_simp; try (with_reducible rfl)
    try simp only [Act.put, List.setIfInBounds_toArray, List.set_cons_zero, List.set_cons_succ]
    refine takeW (i := 1) (v := ?_) rfl (by kernel_rfl) (by kernel_rfl) (by kernel_rfl) (by decide) (fun _ _ _ h => h) rfl (by exact HZ0.out) ?_ ?_
    rotate_left
    · intro wq; go_simp; try (with_reducible rfl)
    try simp only [Act.put, List.setIfInBounds_toArray, List.set_cons_zero, List.set_cons_succ]
    refine takeW (i := 2) (v := ?_) rfl (by kernel_rfl) (by kernel_rfl) (by kernel_rfl) (by decide) (fun _ _ _ h => h) rfl (by exact HZ0.out) ?_ ?_
    rotate_left
    · intro wq; go_simp; try (with_reducible rfl)
    try simp only [Act.put, List.setIfInBounds_toArray, List.set_cons_zero, List.set_cons_succ]
    refine takeW (i := 3) (v := ?_) rfl (by kernel_rfl) (by kernel_rfl) (by kernel_rfl) (by decide) (fun _ _ _ h => h) rfl (by exact HZ0.out) ?_ ?_
    rotate_left
    · intro wq; go_simp; try (with_reducible rfl)
    try simp only [Act.put, List.setIfInBounds_toArray, List.set_cons_zero, List.set_cons_succ]
    refine takeW (i := 4) (v := ?_) rfl (by kernel_rfl) (by kernel_rfl) (by kernel_rfl) (by decide) (fun _ _ _ h => h) rfl (by exact HZ0.out) ?_ ?_
    rotate_left
    · intro wq; go_simp; try (with_reducible rfl)
    try simp only [Act.put, List.setIfInBounds_toArray, List.set_cons_zero, List.set_cons_succ]
    refine takeZ (i := 5) (f0 := 6) (v := ?_) rfl (by kernel_rfl) (by kernel_rfl) (by kernel_rfl) (by decide) (by kernel_rfl) (fun _ _ _ h => h) rfl (by exact HZ0.out) ?_ ?_
    rotate_left
    · intro wq hSw; (try dsimp only at hSw); go_split_ands; go_simp; try (with_reducible rfl)
    try simp only [Act.put, List.setIfInBounds_toArray, List.set_cons_zero, List.set_cons_succ]
    refine takeZ (i := 6) (f0 := 6) (v := ?_) rfl (by kernel_rfl) (by kernel_rfl) (by kernel_rfl) (by decide) (by kernel_rfl) (fun _ _ _ h => h) rfl (by exact HZ0.out) ?_ ?_
    rotate_left
    · intro wq hSw; (try dsimp only at hSw); go_split_ands; go_simp; try (with_reducible rfl)
    try simp only [Act.put, List.setIfInBounds_toArray, List.set_cons_zero, List.set_cons_succ]
    refine takeW (i := 9) (v := ?_) rfl (by kernel_rfl) (by kernel_rfl) (by kernel_rfl) (by decide) (fun _ _ _ h => h) rfl (by exact HZ0.out) ?_ ?_
    rotate_left
    · intro wq; go_simp; try (with_reducible rfl)
    try simp only [Act.put, List.setIfInBounds_toArray, List.set_cons_zero, List.set_cons_succ]
    refine takeW (i := 10) (v := ?_) rfl (by kernel_rfl) (by kernel_rfl) (by kernel_rfl) (by decide) (fun _ _ _ h => h) rfl (by exact HZ0.out) ?_ ?_
    rotate_left
    · intro wq; go_simp; try (with_reducible rfl)
    try simp only [Act.put, List.setIfInBounds_toArray, List.set_cons_zero, List.set_cons_succ]
    refine takeW (i := 11) (v := ?_) rfl (by kernel_rfl) (by kernel_rfl) (by kernel_rfl) (by decide) (fun _ _ _ h => h) rfl (by exact HZ0.out) ?_ ?_
    rotate_left
    · intro wq; go_simp; try (with_reducible rfl)
    try simp only [Act.put, List.setIfInBounds_toArray, List.set_cons_zero, List.set_cons_succ]
    refine takeZ (i := 12) (f0 := 6) (v := ?_) rfl (by kernel_rfl) (by kernel_rfl) (by kernel_rfl) (by decide) (by kernel_rfl) (fun _ _ _ h => h) rfl (by exact HZ0.out) ?_ ?_
    rotate_left
    · intro wq hSw; (try dsimp only at hSw); go_split_ands; go_simp; try (with_reducible rfl)
    try simp only [Act.put, List.setIfInBounds_toArray, List.set_cons_zero, List.set_cons_succ]
    refine takeW (i := 13) (v := ?_) rfl (by kernel_rfl) (by kernel_rfl) (by kernel_rfl) (by decide) (fun _ _ _ h => h) rfl (by exact HZ0.out) ?_ ?_
    rotate_left
    · intro wq; go_simp; try (with_reducible rfl)
    try simp only [Act.put, List.setIfInBounds_toArray, List.set_cons_zero, List.set_cons_succ]
    refine takeW (i := 14) (v := ?_) rfl (by kernel_rfl) (by kernel_rfl) (by kernel_rfl) (by decide) (fun _ _ _ h => h) rfl (by exact HZ0.out) ?_ ?_
    rotate_left
    · intro wq; go_simp; try (with_reducible rfl)
    try simp only [Act.put, List.setIfInBounds_toArray, List.set_cons_zero, List.set_cons_succ]
    refine takeZ (i := 15) (f0 := 6) (v := ?_) rfl (by kernel_rfl) (by kernel_rfl) (by kernel_rfl) (by decide) (by kernel_rfl) (fun _ _ _ h => h) rfl (by exact HZ0.out) ?_ ?_
    rotate_left
    · intro wq hSw; (try dsimp only at hSw); go_split_ands; go_simp; try (with_reducible rfl)
    try simp only [Act.put, List.setIfInBounds_toArray, List.set_cons_zero, List.set_cons_succ]
    refine takeW (i := 16) (v := ?_) rfl (by kernel_rfl) (by kernel_rfl) (by kernel_rfl) (by decide) (fun _ _ _ h => h) rfl (by exact HZ0.out) ?_ ?_
    rotate_left
    · intro wq; go_simp; try (with_reducible rfl)
    try simp only [Act.put, List.setIfInBounds_toArray, List.set_cons_zero, List.set_cons_succ]
    refine takeZ (i := 17) (f0 := 6) (v := ?_) rfl (by kernel_rfl) (by kernel_rfl) (by kernel_rfl) (by decide) (by kernel_rfl) (fun _ _ _ h => h) rfl (by exact HZ0.out) ?_ ?_
    rotate_left
    · intro wq hSw; (try dsimp only at hSw); go_split_ands; go_simp; try (with_reducible rfl)
    try simp only [Act.put, List.setIfInBounds_toArray, List.set_cons_zero, List.set_cons_succ]
    refine oneZ (i := 7) rfl (by kernel_rfl) rfl (fun K hK => ?_)
    go_simp
    refine hK _ _ (by exact HZa.out) ?_
    clear hK K
    refine oneZ (i := 8) rfl (by kernel_rfl) rfl (fun K hK => ?_)
    refine Lib.wp_append_run _ _ _ _ _ (by rfl) _ _ (by rfl) (by rfl) _ _ HE7.out ?_
    refine hK _ _ (by exact HZ7.out) ?_
    clear hK K
    try simp only [Act.put, List.setIfInBounds_toArray, List.set_cons_zero, List.set_cons_succ]
    refine seqZ rfl rfl (by kernel_rfl) (by decide) ?_
    go_wp2_with (go_at_call 41; with_reducible refine HK7.out.mono ?_; rintro e w8 ⟨A8, n8, c8, rfl, hp8, hb8, hM⟩; have HM8 := Lib.hid hM; have HX8 := Lib.hid hb8; have q82 : w8.cell? ⟨p, 2, none⟩ = some (.slice A4 nO c4) := (cell_of hp8 2).trans rfl; have q83 : w8.cell? ⟨p, 3, none⟩ = some (.slice A5 nV c5) := (cell_of hp8 3).trans rfl; have qf := free_of hp8; clear hp8 hb8 hM)
    go_meet
    exact ⟨HM8.out⟩
  case rest =>
    obtain ⟨W9, rfl⟩ : ∃ W9 : World, W9 = wc := ⟨_, rfl⟩
    obtain ⟨ov9, vv9, hP9, hb9, hf9, ho9, hv9⟩ := hcut.out
    have hP9d := hP9.keep (w' := W9.drew) (fun _ _ => rfl)
    have hb9d : W9.drew.heap[w.heap.size]? = some (opCells ⟨⟨o0, o1⟩, o2, true, ⟨o4, o5⟩, o6⟩) := hb9
    obtain ⟨st, w1, e1, hp1, hb1, w2, e2, hp2, hb2, hfin⟩ := top_state hP9d ⟨⟨o0, o1⟩, o2, true, ⟨o4, o5⟩, o6⟩ hb9d HPB.out
    have HSG2 := Lib.hid (fun (W : World) (h4 : W.cell? ⟨p, 4, none⟩ = some (.map (some mb6))) (h : W.heap[w.heap.size]? = some (opCells ⟨⟨o0, o1⟩, o2, true, ⟨o4, o5⟩, o6⟩)) => show (W.cell? ⟨w.heap.size, 0, none⟩ = some (.int .i64 o0) ∧ W.cell? ⟨w.heap.size, 1, none⟩ = some (.int .i64 o1) ∧ W.cell? ⟨p, 4, none⟩ = some (.map (some mb6))) from ⟨(cell_of h 0).trans rfl, (cell_of h 1).trans rfl, h4⟩)
    have HS0 := Lib.hid (And.intro (HSG2.out W9 ((cell_of hP9.head 4).trans rfl) hb9) (show W9.cell? ⟨p, 5, none⟩ = some (.int .i64 T.top) from (cell_of hP9.head 5).trans rfl))
    have HS1 := Lib.hid (And.intro (HSG2.out w1 ((cell_of hp1 4).trans rfl) hb1) (show w1.cell? ⟨p, 5, none⟩ = some (.int .i64 T.top) from (cell_of hp1 5).trans rfl))
    have HS2 := Lib.hid (And.intro (HSG2.out w2 ((cell_of hp2 4).trans rfl) hb2) (show w2.cell? ⟨p, 5, none⟩ = some (.int .i64 T.top) from (cell_of hp2 5).trans rfl))
    have g52 : w2.cell? ⟨p, 5, none⟩ = some (.int .i64 T.top) := (cell_of hp2 5).trans rfl
    have gf := free_of hp2
    have HFIN9 := Lib.hid hfin
    have H9 := Lib.hid (show Fr (p :: ob (.slice A4 nO c4)) w6 W9 ∧ _ ∧ _ from ⟨hf9, ho9, hv9⟩)
    generalize T.top = tp at *
    generalize T.last o1 = lo at e1
    obtain ⟨mm, hmm⟩ : ∃ mm, (if tp < o0 then o0 else tp) = mm := ⟨_, rfl⟩
    have HMM := Lib.hid (show max tp o0 = mm by rw [← hmm]; split <;> omega)
    clear hP9 hP9d hb9 hb9d hp1 hb1 hp2 hb2 hfin hf9 ho9 hv9 hcut
    go_wp2
    refine startZ (z := 22) (S := (fun W => (W.cell? ⟨w.heap.size, 0, none⟩ = some (.int .i64 o0) ∧ W.cell? ⟨w.heap.size, 1, none⟩ = some (.int .i64 o1) ∧ W.cell? ⟨p, 4, none⟩ = some (.map (some mb6))) ∧ W.cell? ⟨p, 5, none⟩ = some (.int .i64 tp))) (by kernel_rfl) ?_
    show ZG _ _ _ _ _ _ 25 _ _ _
    refine takeW (i := 0) (v := ?_) rfl (by kernel_rfl) (by kernel_rfl) (by kernel_rfl) (by decide) (fun _ _ _ h => h) rfl (by exact HS0.out) ?_ ?_
    rotate_left
    · intro wq; go_simp; try (with_reducible rfl)
    try simp only [Act.put, List.setIfInBounds_toArray, List.set_cons_zero, List.set_cons_succ]
    refine takeW (i := 1) (v := ?_) rfl (by kernel_rfl) (by kernel_rfl) (by kernel_rfl) (by decide) (fun _ _ _ h => h) rfl (by exact HS0.out) ?_ ?_
    rotate_left
    · intro wq; go_simp; try (with_reducible rfl)
    try simp only [Act.put, List.setIfInBounds_toArray, List.set_cons_zero, List.set_cons_succ]
    refine takeW (i := 2) (v := ?_) rfl (by kernel_rfl) (by kernel_rfl) (by kernel_rfl) (by decide) (fun _ _ _ h => h) rfl (by exact HS0.out) ?_ ?_
    rotate_left
    · intro wq; go_simp; try (with_reducible rfl)
    try simp only [Act.put, List.setIfInBounds_toArray, List.set_cons_zero, List.set_cons_succ]
    refine takeZ (i := 3) (f0 := 6) (v := ?_) rfl (by kernel_rfl) (by kernel_rfl) (by kernel_rfl) (by decide) (by kernel_rfl) (fun _ _ _ h => h) rfl (by exact HS0.out) ?_ ?_
    rotate_left
    · intro wq hSw; (try dsimp only at hSw); go_split_ands; go_simp; try (with_reducible rfl)
    try simp only [Act.put, List.setIfInBounds_toArray, List.set_cons_zero, List.set_cons_succ]
    refine takeW (i := 4) (v := ?_) rfl (by kernel_rfl) (by kernel_rfl) (by kernel_rfl) (by decide) (fun _ _ _ h => h) rfl (by exact HS0.out) ?_ ?_
    rotate_left
    · intro wq; go_simp; try (with_reducible rfl)
    try simp only [Act.put, List.setIfInBounds_toArray, List.set_cons_zero, List.set_cons_succ]
    refine takeW (i := 5) (v := ?_) rfl (by kernel_rfl) (by kernel_rfl) (by kernel_rfl) (by decide) (fun _ _ _ h => h) rfl (by exact HS0.out) ?_ ?_
    rotate_left
    · intro wq; go_simp; try (with_reducible rfl)
    try simp only [Act.put, List.setIfInBounds_toArray, List.set_cons_zero, List.set_cons_succ]
    refine takeZ (i := 6) (f0 := 6) (v := ?_) rfl (by kernel_rfl) (by kernel_rfl) (by kernel_rfl) (by decide) (by kernel_rfl) (fun _ _ _ h => h) rfl (by exact HS0.out) ?_ ?_
    rotate_left
    · intro wq hSw; (try dsimp only at hSw); go_split_ands; go_simp; try (with_reducible rfl)
    try simp only [Act.put, List.setIfInBounds_toArray, List.set_cons_zero, List.set_cons_succ]
    refine takeW (i := 7) (v := ?_) rfl (by kernel_rfl) (by kernel_rfl) (by kernel_rfl) (by decide) (fun _ _ _ h => h) rfl (by exact HS0.out) ?_ ?_
    rotate_left
    · intro wq; go_simp; try (with_reducible rfl)
    try simp only [Act.put, List.setIfInBounds_toArray, List.set_cons_zero, List.set_cons_succ]
    refine takeW (i := 8) (v := ?_) rfl (by kernel_rfl) (by kernel_rfl) (by kernel_rfl) (by decide) (fun _ _ _ h => h) rfl (by exact HS0.out) ?_ ?_
    rotate_left
    · intro wq; go_simp; try (with_reducible rfl)
    try simp only [Act.put, List.setIfInBounds_toArray, List.set_cons_zero, List.set_cons_succ]
    refine takeW (i := 9) (v := ?_) rfl (by kernel_rfl) (by kernel_rfl) (by kernel_rfl) (by decide) (fun _ _ _ h => h) rfl (by exact HS0.out) ?_ ?_
    rotate_left
    · intro wq; go_simp; try (with_reducible rfl)
    try simp only [Act.put, List.setIfInBounds_toArray, List.set_cons_zero, List.set_cons_succ]
    refine takeZ (i := 10) (f0 := 6) (v := ?_) rfl (by kernel_rfl) (by kernel_rfl) (by kernel_rfl) (by decide) (by kernel_rfl) (fun _ _ _ h => h) rfl (by exact HS0.out) ?_ ?_
    rotate_left
    · intro wq hSw; (try dsimp only at hSw); go_split_ands; go_simp; try (with_reducible rfl)
    try simp only [Act.put, List.setIfInBounds_toArray, List.set_cons_zero, List.set_cons_succ]
    refine takeW (i := 11) (v := ?_) rfl (by kernel_rfl) (by kernel_rfl) (by kernel_rfl) (by decide) (fun _ _ _ h => h) rfl (by exact HS0.out) ?_ ?_
    rotate_left
    · intro wq; go_simp; try (with_reducible rfl)
    try simp only [Act.put, List.setIfInBounds_toArray, List.set_cons_zero, List.set_cons_succ]
    refine takeW (i := 12) (v := ?_) rfl (by kernel_rfl) (by kernel_rfl) (by kernel_rfl) (by decide) (fun _ _ _ h => h) rfl (by exact HS0.out) ?_ ?_
    rotate_left
    · intro wq; go_simp; try (with_reducible rfl)
    try simp only [Act.put, List.setIfInBounds_toArray, List.set_cons_zero, List.set_cons_succ]
    refine takeW (i := 13) (v := ?_) rfl (by kernel_rfl) (by kernel_rfl) (by kernel_rfl) (by decide) (fun _ _ _ h => h) rfl (by exact HS0.out) ?_ ?_
    rotate_left
    · intro wq; go_simp; try (with_reducible rfl)
    try simp only [Act.put, List.setIfInBounds_toArray, List.set_cons_zero, List.set_cons_succ]
    refine takeZ (i := 14) (f0 := 6) (v := ?_) rfl (by kernel_rfl) (by kernel_rfl) (by kernel_rfl) (by decide) (by kernel_rfl) (fun _ _ _ h => h) rfl (by exact HS0.out) ?_ ?_
    rotate_left
    · intro wq hSw; (try dsimp only at hSw); go_split_ands; go_simp; try (with_reducible rfl)
    try simp only [Act.put, List.setIfInBounds_toArray, List.set_cons_zero, List.set_cons_succ]
    refine takeW (i := 15) (v := ?_) rfl (by kernel_rfl) (by kernel_rfl) (by kernel_rfl) (by decide) (fun _ _ _ h => h) rfl (by exact HS0.out) ?_ ?_
    rotate_left
    · intro wq; go_simp; try (with_reducible rfl)
    try simp only [Act.put, List.setIfInBounds_toArray, List.set_cons_zero, List.set_cons_succ]
    refine takeW (i := 16) (v := ?_) rfl (by kernel_rfl) (by kernel_rfl) (by kernel_rfl) (by decide) (fun _ _ _ h => h) rfl (by exact HS0.out) ?_ ?_
    rotate_left
    · intro wq; go_simp; try (with_reducible rfl)
    try simp only [Act.put, List.setIfInBounds_toArray, List.set_cons_zero, List.set_cons_succ]
    refine takeZ (i := 17) (f0 := 6) (v := ?_) rfl (by kernel_rfl) (by kernel_rfl) (by kernel_rfl) (by decide) (by kernel_rfl) (fun _ _ _ h => h) rfl (by exact HS0.out) ?_ ?_
    rotate_left
    · intro wq hSw; (try dsimp only at hSw); go_split_ands; go_simp; try (with_reducible rfl)
    try simp only [Act.put, List.setIfInBounds_toArray, List.set_cons_zero, List.set_cons_succ]
    refine takeW (i := 18) (v := ?_) rfl (by kernel_rfl) (by kernel_rfl) (by kernel_rfl) (by decide) (fun _ _ _ h => h) rfl (by exact HS0.out) ?_ ?_
    rotate_left
    · intro wq; go_simp; try (with_reducible rfl)
    try simp only [Act.put, List.setIfInBounds_toArray, List.set_cons_zero, List.set_cons_succ]
    refine oneZ (i := 19) rfl (by kernel_rfl) rfl (fun K hK => ?_)
    go_simp
    refine hK _ _ (by exact HS1.out) ?_
    clear hK K
    try simp only [Act.put, List.setIfInBounds_toArray, List.set_cons_zero, List.set_cons_succ]
    refine oneZ (i := 20) rfl (by kernel_rfl) rfl (fun K hK => ?_)
    go_simp
    refine hK _ _ (by exact HS1.out) ?_
    clear hK K
    try simp only [Act.put, List.setIfInBounds_toArray, List.set_cons_zero, List.set_cons_succ]
    refine oneZ (i := 21) rfl (by kernel_rfl) rfl (fun K hK => ?_)
    go_simp
    refine hK _ _ (by exact HS2.out) ?_
    clear hK K
    try simp only [Act.put, List.setIfInBounds_toArray, List.set_cons_zero, List.set_cons_succ]
    refine seqZ rfl rfl (by kernel_rfl) (by decide) ?_
    go_wp2
    go_ret2
    refine ⟨rfl, ?_⟩
    rw [← HTT.out, HM2.out, HMM.out]
    exact take_fin HFI.out.2.2 HFI.out.1 HFI.out.2.1 H9.out.1 H9.out.2.1 H9.out.2.2 (HFIN9.out mm).1 ((Fr.of_drew (F := [p, mb6]) W9).trans (HFIN9.out mm).2 (fun _ h => .inl h))
end Go.Proofs.Ytefnpalkkhhkfaa.PC
namespace Go.Proofs.Ytefnpalkkhhkfaa.PC
open Go.RowKit Go.Proofs.YtefnpalkkhhkfaaW.PrintWords Go.Proofs.YtefnpalkkhhkfaaW.PrintLast Go.Proofs.YtefnpalkkhhkfaaW.PrintMore Go.Proofs.Ytefnpalkkhhkfaa.K Go.Proofs.Ytefnpalkkhhkfaa.IX Go.Proofs.Ytefnpalkkhhkfaa.I
attribute [local go_sem] max2_int min2_int max_two min_two max_three min_three max_four min_four
attribute [local go_sem high] eqA24
set_option linter.unusedVariables false
set_option linter.unusedSimpArgs false
set_option maxHeartbeats 4000000 in
set_option maxRecDepth 100000 in
theorem put_ins0 (w : World) (F : List Nat) (p : Nat) (T : TS) (o : S49) (h : Tx w F p T) (hr : rightS o) (hv : upS T.v) (hvl : T.v.length ≤ 1000000) (hl : T.l.length ≤ 500000) (hol : T.ops.length ≤ 1000000) (hk0 : 0 ≤ knownS T o) (ho : o.f1 = knownS T o + 1) (hn : placeS T.l o.f3 < 0) (hz : idq o.f3 zid = true) (hlast : T.last o.f0.f1 < o.f0.f0) (hins : o.f2 = true) : Calls Try.prog 24 #[.pointer (some ⟨p, 0, none⟩), opV o] w fun e w' => e = .returned (.tuple #[.bool true, .int .i64 0]) ∧ TakeFin w F p ⟨insT T.l (skT T.l (placeS T.l o.f3 + 1).toNat o) o, T.ops ++ [o], wtS T.v o.f0.f1 o.f1, upd T.last o.f0.f1 o.f0.f0, max T.top o.f0.f0⟩ w' := by
  obtain ⟨TT, hTT⟩ : ∃ TT, (⟨insT T.l (skT T.l (placeS T.l o.f3 + 1).toNat o) o, T.ops ++ [o], wtS T.v o.f0.f1 o.f1, upd T.last o.f0.f1 o.f0.f0, max T.top o.f0.f0⟩ : TS) = TT := ⟨_, rfl⟩
  rw [hTT]
  have HTT := Lib.hid hTT
  clear hTT
  have HOL := Lib.hid hol
  have KI := Lib.hid (fun W (hb : Below w.heap.size w W) n hn => insert_calls W F p T n o (h.below hb) hn hl)
  have hpl := placeS_range T.l o.f3
  have K1 := right_is o
  rw [decide_eq_true hr] at K1
  have HK := Lib.hid K1
  obtain ⟨A1, c1, x, A2, c2, A3, c3, mb, FI, h0, h1, h2, h3, h4, h5, _, _, _, ⟨hc, hrv⟩, him⟩ := h.read
  have K2 := Lib.hid (fun W (hb : Below w.heap.size w W) a => seq_calls T.v a A3 c3 W (Kd.C_below hrv hb) hc hv hvl)
  have K3 := Lib.hid (fun W (hb : Below w.heap.size w W) => tplace_calls W F p T o.f3 (h.below hb) (by omega))
  obtain ⟨kn, hkn⟩ : ∃ kn, knownS T o = kn := ⟨_, rfl⟩
  obtain ⟨at_, hat⟩ : ∃ at_, placeS T.l o.f3 = at_ := ⟨_, rfl⟩
  rw [hat] at K3 hn hpl
  have HAT := Lib.hid hat
  rw [hkn] at ho hk0
  have ho2 : o.f1 ≤ 4294967295 := hr.2.2.1
  unfold knownS at hkn
  obtain ⟨⟨o0, o1⟩, o2, o3, ⟨o4, o5⟩, o6⟩ := o
  have hins2 : o3 = true := hins
  subst hins2
  unfold opV at *
  have K2b := Lib.hid (fun W (hb : Below w.heap.size w W) => (hkn ▸ K2.out W hb o1 : Calls Try.prog 37 #[.slice A3 T.v.length c3, .int .i64 o1] W fun e w' => e = .returned (.int .i64 kn) ∧ Below W.heap.size W w'))
  obtain ⟨W1, hW1⟩ : ∃ W1, w.alloc (.cells #[.int .i64 o0, .int .i64 o1, .int .i64 o2, .bool true, .int .i64 o4, .int .i64 o5, .int .i32 o6] 49) = W1 := ⟨_, rfl⟩
  have hb : Below w.heap.size w W1 := by rw [← hW1]; exact (Below.refl _ w).alloc (Nat.le_refl _) _
  have hnew : W1.heap[w.heap.size]? = some (.cells #[.int .i64 o0, .int .i64 o1, .int .i64 o2, .bool true, .int .i64 o4, .int .i64 o5, .int .i32 o6] 49 (0, 0)) := by rw [← hW1]; exact heap_new w _
  have HB := Lib.hid hb
  have HS : Aside0 (∀ W, Below W1.heap.size W1 W → W.cell? ⟨p, 3, none⟩ = some (.slice A3 T.v.length c3) ∧ W.cell? ⟨w.heap.size, 1, none⟩ = some (.int .i64 o1)) :=
    ⟨fun W hb2 => ⟨((below_step hb hb2).cell (World.block_lt_of_cell? w _ h3)).trans h3, (hb2.cell (lt_of hnew)).trans ((cell_of hnew 1).trans rfl)⟩⟩
  have HO : Aside0 (∀ W, Below W1.heap.size W1 W → W.cell? ⟨w.heap.size, 2, none⟩ = some (.int .i64 o2) ∧ W.cell? ⟨w.heap.size, 4, none⟩ = some (.int .i64 o4) ∧ W.cell? ⟨w.heap.size, 5, none⟩ = some (.int .i64 o5)) :=
    ⟨fun W hb2 => ⟨(hb2.cell (lt_of hnew)).trans ((cell_of hnew 2).trans rfl), (hb2.cell (lt_of hnew)).trans ((cell_of hnew 4).trans rfl), (hb2.cell (lt_of hnew)).trans ((cell_of hnew 5).trans rfl)⟩⟩
  have HM : Aside0 (∀ W, Below w.heap.size w W → (Instr.lookup 72 (.map (some mb)) (.int .i64 o1) false).run Try.prog W = .ok (.int .i64 (T.last o1)) W) := ⟨fun W hb2 => (him.keep (hb2.block mb him.lt)).look_ Try.underlying72 Try.underlying3 (zero_int W) o1⟩
  have HC : Aside0 (∀ W, Below W1.heap.size W1 W → W.cell? ⟨p, 4, none⟩ = some (.map (some mb)) ∧ W.cell? ⟨w.heap.size, 0, none⟩ = some (.int .i64 o0)) := ⟨fun W hb2 => ⟨((below_step hb hb2).cell (World.block_lt_of_cell? w _ h4)).trans h4, (hb2.cell (lt_of hnew)).trans ((cell_of hnew 0).trans rfl)⟩⟩
  have HBLK : Aside0 (∀ W, Below W1.heap.size W1 W → W.heap[w.heap.size]? = some (.cells #[.int .i64 o0, .int .i64 o1, .int .i64 o2, .bool true, .int .i64 o4, .int .i64 o5, .int .i32 o6] 49 (0, 0))) := ⟨fun W hb2 => (hb2.block _ (lt_of hnew)).trans hnew⟩
  have HFLT := Lib.hid h.lt
  have HUP := Lib.hid hv
  have HVL := Lib.hid (show ∀ vs, vs = T.v → vs.length ≤ 1000000 from fun vs e => by rw [e]; exact hvl)
  have HO2 : Aside0 (∀ W, Below W1.heap.size W1 W → W.cell? ⟨w.heap.size, 3, none⟩ = some (.bool true) ∧ W.cell? ⟨w.heap.size, 6, none⟩ = some (.int .i32 o6)) :=
    ⟨fun W hb2 => ⟨(hb2.cell (lt_of hnew)).trans ((cell_of hnew 3).trans rfl), (hb2.cell (lt_of hnew)).trans ((cell_of hnew 6).trans rfl)⟩⟩
  have hlast2 : ¬ o0 ≤ T.last o1 := by simp only at hlast; omega
  generalize T.last o1 = la at HM hlast2
  clear him hlast
  generalize T.v.length = vl at *
  have HL := Lib.hid hl
  clear h hr hb K1 hnew hkn hat hrv hv hvl hl hol h0 h1 h2 h3 h4 h5
  subst hW1
  have hw1 : IntKind.i64.wrap (kn + 1) = kn + 1 := by rw [IntKind.wrap_i64]; simp only at ho ho2; omega
  have hno : ¬ o2 ≤ kn := by simp only at ho; omega
  have hye : ¬ kn + 1 < o2 := by simp only at ho; omega
  have hz2 : (o4 == 0 && o5 == 0) = true := hz
  have hd : decide (at_ < 0) = true := by simpa using hn
  clear ho ho2 hz
  go_enter Try.func24, Try.ntmps24
  go_wp2_with (go_at_call 36; refine (HK.out _).mono ?_; rintro e w2 ⟨rfl, hb⟩; have HB2 := Lib.hid hb; have HBW := Lib.hid (below_step HB.out hb); obtain ⟨s0, s1⟩ := HS.out _ hb; clear hb)
  have HB3 := Lib.hid HB2.out.drew
  go_region_held3 (fun W => W.cell? ⟨p, 3, none⟩ = some (.slice A3 vl c3) ∧ W.cell? ⟨w.heap.size, 1, none⟩ = some (.int .i64 o1)) ((first | exact HS.out _ HB2.out | exact HS.out _ HB3.out | exact HS.out _ HB4.out)) (first
    | (go_at_call 37; refine (K2b.out _ (below_step HB.out HB3.out)).mono ?_; rintro e w4 ⟨rfl, hb⟩; have HB4 := Lib.hid (below_step HB3.out hb); obtain ⟨t2, t4, t5⟩ := HO.out _ HB4.out; clear hb))
  go_wp2_with (go_at_call 38; refine (K3.out _ (below_step HB.out HB4.out)).mono ?_; rintro e w5 ⟨rfl, hb⟩; have HB5 := Lib.hid (below_step HB4.out hb); obtain ⟨u2, u4, u5⟩ := HO.out _ HB5.out; obtain ⟨x4, x0⟩ := HC.out _ HB5.out; obtain ⟨_, x1⟩ := HS.out _ HB5.out; have hlk := HM.out _ (below_step HB.out HB5.out); have hlk2 := HM.out _ (below_step HB.out HB5.out).drew; clear hb)
  obtain ⟨u3, u6⟩ := HO2.out _ HB5.out
  go_region
  have hw2 : IntKind.i64.wrap (at_ + 1) = at_ + 1 := by rw [IntKind.wrap_i64]; have := HL.out; omega
  obtain ⟨m, hm⟩ : ∃ m : Nat, at_ + 1 = (m : Int) := ⟨(at_ + 1).toNat, by omega⟩
  have KI2 := Lib.hid (KI.out w5.drew (below_step HB.out HB5.out).drew m (by omega))
  unfold opV at KI2
  rw [hm] at hw2
  have HM2 := Lib.hid (show (placeS T.l ⟨o4, o5⟩ + 1).toNat = m by rw [HAT.out, hm]; rfl)
  go_upto_region 16 with (go_at_call 39; refine KI2.out.mono ?_; rintro e w6 ⟨rfl, hfin⟩; have HFIN := Lib.hid hfin; clear hfin)
  obtain ⟨F6, hT6, hF6, hsub⟩ := HFIN.out
  obtain ⟨lv, x6, ov, vv, mb6, FI6, hP, hFe⟩ := hT6.parts
  have hblk : w6.heap[w.heap.size]? = some (opCells ⟨⟨o0, o1⟩, o2, true, ⟨o4, o5⟩, o6⟩) := (hF6.block w.heap.size (show w.heap.size < w5.drew.heap.size from lt_of (w := w5) (HBLK.out w5 HB5.out)) (fun hm => by have := HFLT.out _ hm; omega)).trans (show w5.drew.heap[w.heap.size]? = _ from HBLK.out w5 HB5.out)
  have hb6 : w.heap.size ∉ F6 := fun hk => by
    rcases hsub _ hk with q | q
    · have := HFLT.out _ q; omega
    · have h5 := lt_of (HBLK.out w5 HB5.out); have q2 : w5.heap.size ≤ w.heap.size := q; omega
  have hfr := (Fr.of_below (F := F) (below_step HB.out HB5.out).drew).trans hF6 (fun _ h => .inl h)
  have hsub2 : ∀ k ∈ F6, k ∈ F ∨ w.heap.size ≤ k := fun k hk => by
    rcases hsub _ hk with q | q
    · exact .inl q
    · have := (below_step HB.out HB5.out).drew.size; exact .inr (by omega)
  have hpb : p ≠ w.heap.size := fun e => hb6 (by rw [hFe, ← e]; simp)
  have hnb : w.heap.size ∉ ob ov := fun hk => hb6 (by rw [hFe]; simp [hk])
  obtain ⟨A4, c4, rfl⟩ := Kd.R_slice hP.ops
  obtain ⟨A5, c5, rfl⟩ := Kd.R_slice hP.vec
  have hwa : Below w6.heap.size w6 ((w6.alloc (.cells #[.int .i64 o0, .int .i64 o1, .int .i64 o2, .bool true, .int .i64 o4, .int .i64 o5, .int .i32 o6] 49)).drew) := ((Below.refl _ w6).alloc (Nat.le_refl _) _).drew
  obtain ⟨A7, n7, c7, w7, e7, hp7, hb7, k7⟩ := mid_state hP ⟨⟨o0, o1⟩, o2, true, ⟨o4, o5⟩, o6⟩ hblk hnb hpb HUP.out HOL.out (HVL.out T.v rfl) hwa (heap_new w6 _) 22
  have HK7 := Lib.hid k7
  have HE7 := Lib.hid e7
  have HSG := Lib.hid (fun (W : World) (h : W.heap[w.heap.size]? = some (opCells ⟨⟨o0, o1⟩, o2, true, ⟨o4, o5⟩, o6⟩)) => show (W.cell? ⟨w.heap.size, 0, none⟩ = some (.int .i64 o0) ∧ W.cell? ⟨w.heap.size, 1, none⟩ = some (.int .i64 o1) ∧ W.cell? ⟨w.heap.size, 2, none⟩ = some (.int .i64 o2) ∧ W.cell? ⟨w.heap.size, 3, none⟩ = some (.bool true) ∧ W.cell? ⟨w.heap.size, 4, none⟩ = some (.int .i64 o4) ∧ W.cell? ⟨w.heap.size, 5, none⟩ = some (.int .i64 o5) ∧ W.cell? ⟨w.heap.size, 6, none⟩ = some (.int .i32 o6)) from
    ⟨(cell_of h 0).trans rfl, (cell_of h 1).trans rfl, (cell_of h 2).trans rfl, (cell_of h 3).trans rfl, (cell_of h 4).trans rfl, (cell_of h 5).trans rfl, (cell_of h 6).trans rfl⟩)
  have HX6 := Lib.hid hblk
  have HXa := Lib.hid ((hwa.block _ (lt_of hblk)).trans hblk)
  have HX7 := Lib.hid hb7
  have HPB := Lib.hid hpb
  have p2 : w6.cell? ⟨p, 2, none⟩ = some (.slice A4 T.ops.length c4) := (cell_of hP.head 2).trans rfl
  have p3 : w6.cell? ⟨p, 3, none⟩ = some (.slice A5 T.v.length c5) := (cell_of hP.head 3).trans rfl
  have pa2 : (w6.alloc (.cells #[.int .i64 o0, .int .i64 o1, .int .i64 o2, .bool true, .int .i64 o4, .int .i64 o5, .int .i32 o6] 49)).cell? ⟨p, 2, none⟩ = some (.slice A4 T.ops.length c4) := (((Below.refl _ w6).alloc (Nat.le_refl _) _).cell (World.block_lt_of_cell? w6 _ p2)).trans p2
  have pa3 : (w6.alloc (.cells #[.int .i64 o0, .int .i64 o1, .int .i64 o2, .bool true, .int .i64 o4, .int .i64 o5, .int .i32 o6] 49)).cell? ⟨p, 3, none⟩ = some (.slice A5 T.v.length c5) := (((Below.refl _ w6).alloc (Nat.le_refl _) _).cell (World.block_lt_of_cell? w6 _ p3)).trans p3
  have q72 : w7.cell? ⟨p, 2, none⟩ = some (.slice A4 T.ops.length c4) := (cell_of hp7 2).trans rfl
  have q73 : w7.cell? ⟨p, 3, none⟩ = some (.slice A5 T.v.length c5) := (cell_of hp7 3).trans rfl
  have HFI := Lib.hid (show Fr F w w6 ∧ (∀ k ∈ F6, k ∈ F ∨ w.heap.size ≤ k) ∧ F6 = p :: mb6 :: (ob lv ++ (FI6 ++ (ob (.slice A4 T.ops.length c4) ++ ob (.slice A5 T.v.length c5)))) from ⟨hfr, hsub2, hFe⟩)
  generalize T.ops.length = nO at *
  generalize T.v.length = nV at *
  clear hP k7 e7 hblk hwa hb7 hp7 hfr hsub2 hFe hpb hnb hT6 hF6 hsub hb6
  go_cut [] from 75 to 97 (fun wx => Aside0 (Mid w6 w.heap.size p lv x6 (.slice A4 nO c4) mb6 FI6 T.top (insT T.l (skT T.l m ⟨⟨o0, o1⟩, o2, true, ⟨o4, o5⟩, o6⟩) ⟨⟨o0, o1⟩, o2, true, ⟨o4, o5⟩, o6⟩) (T.ops ++ [⟨⟨o0, o1⟩, o2, true, ⟨o4, o5⟩, o6⟩]) (wtS T.v o1 o2) T.last (opCells ⟨⟨o0, o1⟩, o2, true, ⟨o4, o5⟩, o6⟩) wx))
  case first =>
    have HZ0 := Lib.hid (And.intro (HSG.out w6 HX6.out) (And.intro p2 p3))
    have HZa := Lib.hid (And.intro (HSG.out _ HXa.out) (And.intro pa2 pa3))
    have HZ7 := Lib.hid (And.intro (HSG.out w7 HX7.out) (And.intro q72 q73))
    clear p2 p3 pa2 pa3 q72 q73
    refine startZ (z := 18) (S := (fun W => (W.cell? ⟨w.heap.size, 0, none⟩ = some (.int .i64 o0) ∧ W.cell? ⟨w.heap.size, 1, none⟩ = some (.int .i64 o1) ∧ W.cell? ⟨w.heap.size, 2, none⟩ = some (.int .i64 o2) ∧ W.cell? ⟨w.heap.size, 3, none⟩ = some (.bool true) ∧ W.cell? ⟨w.heap.size, 4, none⟩ = some (.int .i64 o4) ∧ W.cell? ⟨w.heap.size, 5, none⟩ = some (.int .i64 o5) ∧ W.cell? ⟨w.heap.size, 6, none⟩ = some (.int .i32 o6)) ∧ W.cell? ⟨p, 2, none⟩ = some (.slice A4 nO c4) ∧ W.cell? ⟨p, 3, none⟩ = some (.slice A5 nV c5))) (by kernel_rfl) ?_
    show ZG _ _ _ _ _ _ 25 _ _ _
    refine takeW (i := 0) (v := ?_) rfl (by kernel_rfl) (by kernel_rfl) (by kernel_rfl) (by decide) (fun _ _ _ h => h) rfl (by exact HZ0.out) ?_ ?_
    rotate_left
    · intro wq; go_simp; try (with_reducible rfl)
    try simp only [Act.put, List.setIfInBounds_toArray, List.set_cons_zero, List.set_cons_succ]
    refine takeW (i := 1) (v := ?_) rfl (by kernel_rfl) (by kernel_rfl) (by kernel_rfl) (by decide) (fun _ _ _ h => h) rfl (by exact HZ0.out) ?_ ?_
    rotate_left
    · intro wq; go_simp; try (with_reducible rfl)
    try simp only [Act.put, List.setIfInBounds_toArray, List.set_cons_zero, List.set_cons_succ]
    refine takeW (i := 2) (v := ?_) rfl (by kernel_rfl) (by kernel_rfl) (by kernel_rfl) (by decide) (fun _ _ _ h => h) rfl (by exact HZ0.out) ?_ ?_
    rotate_left
    · intro wq; go_simp; try (with_reducible rfl)
    try simp only [Act.put, List.setIfInBounds_toArray, List.set_cons_zero, List.set_cons_succ]
    refine takeW (i := 3) (v := ?_) rfl (by kernel_rfl) (by kernel_rfl) (by kernel_rfl) (by decide) (fun _ _ _ h => h) rfl (by exact HZ0.out) ?_ ?_
    rotate_left
    · intro wq; go_simp; try (with_reducible rfl)
    try simp only [Act.put, List.setIfInBounds_toArray, List.set_cons_zero, List.set_cons_succ]
    refine takeW (i := 4) (v := ?_) rfl (by kernel_rfl) (by kernel_rfl) (by kernel_rfl) (by decide) (fun _ _ _ h => h) rfl (by exact HZ0.out) ?_ ?_
    rotate_left
    · intro wq; go_simp; try (with_reducible rfl)
    try simp only [Act.put, List.setIfInBounds_toArray, List.set_cons_zero, List.set_cons_succ]
    refine takeZ (i := 5) (f0 := 6) (v := ?_) rfl (by kernel_rfl) (by kernel_rfl) (by kernel_rfl) (by decide) (by kernel_rfl) (fun _ _ _ h => h) rfl (by exact HZ0.out) ?_ ?_
    rotate_left
    · intro wq hSw; (try dsimp only at hSw); go_split_ands; go_simp; try (with_reducible rfl)
    try simp only [Act.put, List.setIfInBounds_toArray, List.set_cons_zero, List.set_cons_succ]
    refine takeZ (i := 6) (f0 := 6) (v := ?_) rfl (by kernel_rfl) (by kernel_rfl) (by kernel_rfl) (by decide) (by kernel_rfl) (fun _ _ _ h => h) rfl (by exact HZ0.out) ?_ ?_
    rotate_left
    · intro wq hSw; (try dsimp only at hSw); go_split_ands; go_simp; try (with_reducible rfl)
    try simp only [Act.put, List.setIfInBounds_toArray, List.set_cons_zero, List.set_cons_succ]
    refine takeW (i := 9) (v := ?_) rfl (by kernel_rfl) (by kernel_rfl) (by kernel_rfl) (by decide) (fun _ _ _ h => h) rfl (by exact HZ0.out) ?_ ?_
    rotate_left
    · intro wq; go_simp; try (with_reducible rfl)
    try simp only [Act.put, List.setIfInBounds_toArray, List.set_cons_zero, List.set_cons_succ]
    refine takeW (i := 10) (v := ?_) rfl (by kernel_rfl) (by kernel_rfl) (by kernel_rfl) (by decide) (fun _ _ _ h => h) rfl (by exact HZ0.out) ?_ ?_
    rotate_left
    · intro wq; go_simp; try (with_reducible rfl)
    try simp only [Act.put, List.setIfInBounds_toArray, List.set_cons_zero, List.set_cons_succ]
    refine takeW (i := 11) (v := ?_) rfl (by kernel_rfl) (by kernel_rfl) (by kernel_rfl) (by decide) (fun _ _ _ h => h) rfl (by exact HZ0.out) ?_ ?_
    rotate_left
    · intro wq; go_simp; try (with_reducible rfl)
    try simp only [Act.put, List.setIfInBounds_toArray, List.set_cons_zero, List.set_cons_succ]
    refine takeZ (i := 12) (f0 := 6) (v := ?_) rfl (by kernel_rfl) (by kernel_rfl) (by kernel_rfl) (by decide) (by kernel_rfl) (fun _ _ _ h => h) rfl (by exact HZ0.out) ?_ ?_
    rotate_left
    · intro wq hSw; (try dsimp only at hSw); go_split_ands; go_simp; try (with_reducible rfl)
    try simp only [Act.put, List.setIfInBounds_toArray, List.set_cons_zero, List.set_cons_succ]
    refine takeW (i := 13) (v := ?_) rfl (by kernel_rfl) (by kernel_rfl) (by kernel_rfl) (by decide) (fun _ _ _ h => h) rfl (by exact HZ0.out) ?_ ?_
    rotate_left
    · intro wq; go_simp; try (with_reducible rfl)
    try simp only [Act.put, List.setIfInBounds_toArray, List.set_cons_zero, List.set_cons_succ]
    refine takeW (i := 14) (v := ?_) rfl (by kernel_rfl) (by kernel_rfl) (by kernel_rfl) (by decide) (fun _ _ _ h => h) rfl (by exact HZ0.out) ?_ ?_
    rotate_left
    · intro wq; go_simp; try (with_reducible rfl)
    try simp only [Act.put, List.setIfInBounds_toArray, List.set_cons_zero, List.set_cons_succ]
    refine takeZ (i := 15) (f0 := 6) (v := ?_) rfl (by kernel_rfl) (by kernel_rfl) (by kernel_rfl) (by decide) (by kernel_rfl) (fun _ _ _ h => h) rfl (by exact HZ0.out) ?_ ?_
    rotate_left
    · intro wq hSw; (try dsimp only at hSw); go_split_ands; go_simp; try (with_reducible rfl)
    try simp only [Act.put, List.setIfInBounds_toArray, List.set_cons_zero, List.set_cons_succ]
    refine takeW (i := 16) (v := ?_) rfl (by kernel_rfl) (by kernel_rfl) (by kernel_rfl) (by decide) (fun _ _ _ h => h) rfl (by exact HZ0.out) ?_ ?_
    rotate_left
    · intro wq; go_simp; try (with_reducible rfl)
    try simp only [Act.put, List.setIfInBounds_toArray, List.set_cons_zero, List.set_cons_succ]
    refine takeZ (i := 17) (f0 := 6) (v := ?_) rfl (by kernel_rfl) (by kernel_rfl) (by kernel_rfl) (by decide) (by kernel_rfl) (fun _ _ _ h => h) rfl (by exact HZ0.out) ?_ ?_
    rotate_left
    · intro wq hSw; (try dsimp only at hSw); go_split_ands; go_simp; try (with_reducible rfl)
    try simp only [Act.put, List.setIfInBounds_toArray, List.set_cons_zero, List.set_cons_succ]
    refine oneZ (i := 7) rfl (by kernel_rfl) rfl (fun K hK => ?_)
    go_simp
    refine hK _ _ (by exact HZa.out) ?_
    clear hK K
    refine oneZ (i := 8) rfl (by kernel_rfl) rfl (fun K hK => ?_)
    refine Lib.wp_append_run _ _ _ _ _ (by rfl) _ _ (by rfl) (by rfl) _ _ HE7.out ?_
    refine hK _ _ (by exact HZ7.out) ?_
    clear hK K
    try simp only [Act.put, List.setIfInBounds_toArray, List.set_cons_zero, List.set_cons_succ]
    refine seqZ rfl rfl (by kernel_rfl) (by decide) ?_
    go_wp2_with (go_at_call 41; with_reducible refine HK7.out.mono ?_; rintro e w8 ⟨A8, n8, c8, rfl, hp8, hb8, hM⟩; have HM8 := Lib.hid hM; have HX8 := Lib.hid hb8; have q82 : w8.cell? ⟨p, 2, none⟩ = some (.slice A4 nO c4) := (cell_of hp8 2).trans rfl; have q83 : w8.cell? ⟨p, 3, none⟩ = some (.slice A5 nV c5) := (cell_of hp8 3).trans rfl; have qf := free_of hp8; clear hp8 hb8 hM)
    go_meet
    exact ⟨HM8.out⟩
  case rest =>
    obtain ⟨W9, rfl⟩ : ∃ W9 : World, W9 = wc := ⟨_, rfl⟩
    obtain ⟨ov9, vv9, hP9, hb9, hf9, ho9, hv9⟩ := hcut.out
    have hP9d := hP9.keep (w' := W9.drew) (fun _ _ => rfl)
    have hb9d : W9.drew.heap[w.heap.size]? = some (opCells ⟨⟨o0, o1⟩, o2, true, ⟨o4, o5⟩, o6⟩) := hb9
    obtain ⟨st, w1, e1, hp1, hb1, w2, e2, hp2, hb2, hfin⟩ := top_state hP9d ⟨⟨o0, o1⟩, o2, true, ⟨o4, o5⟩, o6⟩ hb9d HPB.out
    have HSG2 := Lib.hid (fun (W : World) (h4 : W.cell? ⟨p, 4, none⟩ = some (.map (some mb6))) (h : W.heap[w.heap.size]? = some (opCells ⟨⟨o0, o1⟩, o2, true, ⟨o4, o5⟩, o6⟩)) => show (W.cell? ⟨w.heap.size, 0, none⟩ = some (.int .i64 o0) ∧ W.cell? ⟨w.heap.size, 1, none⟩ = some (.int .i64 o1) ∧ W.cell? ⟨p, 4, none⟩ = some (.map (some mb6))) from ⟨(cell_of h 0).trans rfl, (cell_of h 1).trans rfl, h4⟩)
    have HS0 := Lib.hid (And.intro (HSG2.out W9 ((cell_of hP9.head 4).trans rfl) hb9) (show W9.cell? ⟨p, 5, none⟩ = some (.int .i64 T.top) from (cell_of hP9.head 5).trans rfl))
    have HS1 := Lib.hid (And.intro (HSG2.out w1 ((cell_of hp1 4).trans rfl) hb1) (show w1.cell? ⟨p, 5, none⟩ = some (.int .i64 T.top) from (cell_of hp1 5).trans rfl))
    have HS2 := Lib.hid (And.intro (HSG2.out w2 ((cell_of hp2 4).trans rfl) hb2) (show w2.cell? ⟨p, 5, none⟩ = some (.int .i64 T.top) from (cell_of hp2 5).trans rfl))
    have g52 : w2.cell? ⟨p, 5, none⟩ = some (.int .i64 T.top) := (cell_of hp2 5).trans rfl
    have gf := free_of hp2
    have HFIN9 := Lib.hid hfin
    have H9 := Lib.hid (show Fr (p :: ob (.slice A4 nO c4)) w6 W9 ∧ _ ∧ _ from ⟨hf9, ho9, hv9⟩)
    generalize T.top = tp at *
    generalize T.last o1 = lo at e1
    obtain ⟨mm, hmm⟩ : ∃ mm, (if tp < o0 then o0 else tp) = mm := ⟨_, rfl⟩
    have HMM := Lib.hid (show max tp o0 = mm by rw [← hmm]; split <;> omega)
    clear hP9 hP9d hb9 hb9d hp1 hb1 hp2 hb2 hfin hf9 ho9 hv9 hcut
    go_wp2
    refine startZ (z := 22) (S := (fun W => (W.cell? ⟨w.heap.size, 0, none⟩ = some (.int .i64 o0) ∧ W.cell? ⟨w.heap.size, 1, none⟩ = some (.int .i64 o1) ∧ W.cell? ⟨p, 4, none⟩ = some (.map (some mb6))) ∧ W.cell? ⟨p, 5, none⟩ = some (.int .i64 tp))) (by kernel_rfl) ?_
    show ZG _ _ _ _ _ _ 25 _ _ _
    refine takeW (i := 0) (v := ?_) rfl (by kernel_rfl) (by kernel_rfl) (by kernel_rfl) (by decide) (fun _ _ _ h => h) rfl (by exact HS0.out) ?_ ?_
    rotate_left
    · intro wq; go_simp; try (with_reducible rfl)
    try simp only [Act.put, List.setIfInBounds_toArray, List.set_cons_zero, List.set_cons_succ]
    refine takeW (i := 1) (v := ?_) rfl (by kernel_rfl) (by kernel_rfl) (by kernel_rfl) (by decide) (fun _ _ _ h => h) rfl (by exact HS0.out) ?_ ?_
    rotate_left
    · intro wq; go_simp; try (with_reducible rfl)
    try simp only [Act.put, List.setIfInBounds_toArray, List.set_cons_zero, List.set_cons_succ]
    refine takeW (i := 2) (v := ?_) rfl (by kernel_rfl) (by kernel_rfl) (by kernel_rfl) (by decide) (fun _ _ _ h => h) rfl (by exact HS0.out) ?_ ?_
    rotate_left
    · intro wq; go_simp; try (with_reducible rfl)
    try simp only [Act.put, List.setIfInBounds_toArray, List.set_cons_zero, List.set_cons_succ]
    refine takeZ (i := 3) (f0 := 6) (v := ?_) rfl (by kernel_rfl) (by kernel_rfl) (by kernel_rfl) (by decide) (by kernel_rfl) (fun _ _ _ h => h) rfl (by exact HS0.out) ?_ ?_
    rotate_left
    · intro wq hSw; (try dsimp only at hSw); go_split_ands; go_simp; try (with_reducible rfl)
    try simp only [Act.put, List.setIfInBounds_toArray, List.set_cons_zero, List.set_cons_succ]
    refine takeW (i := 4) (v := ?_) rfl (by kernel_rfl) (by kernel_rfl) (by kernel_rfl) (by decide) (fun _ _ _ h => h) rfl (by exact HS0.out) ?_ ?_
    rotate_left
    · intro wq; go_simp; try (with_reducible rfl)
    try simp only [Act.put, List.setIfInBounds_toArray, List.set_cons_zero, List.set_cons_succ]
    refine takeW (i := 5) (v := ?_) rfl (by kernel_rfl) (by kernel_rfl) (by kernel_rfl) (by decide) (fun _ _ _ h => h) rfl (by exact HS0.out) ?_ ?_
    rotate_left
    · intro wq; go_simp; try (with_reducible rfl)
    try simp only [Act.put, List.setIfInBounds_toArray, List.set_cons_zero, List.set_cons_succ]
    refine takeZ (i := 6) (f0 := 6) (v := ?_) rfl (by kernel_rfl) (by kernel_rfl) (by kernel_rfl) (by decide) (by kernel_rfl) (fun _ _ _ h => h) rfl (by exact HS0.out) ?_ ?_
    rotate_left
    · intro wq hSw; (try dsimp only at hSw); go_split_ands; go_simp; try (with_reducible rfl)
    try simp only [Act.put, List.setIfInBounds_toArray, List.set_cons_zero, List.set_cons_succ]
    refine takeW (i := 7) (v := ?_) rfl (by kernel_rfl) (by kernel_rfl) (by kernel_rfl) (by decide) (fun _ _ _ h => h) rfl (by exact HS0.out) ?_ ?_
    rotate_left
    · intro wq; go_simp; try (with_reducible rfl)
    try simp only [Act.put, List.setIfInBounds_toArray, List.set_cons_zero, List.set_cons_succ]
    refine takeW (i := 8) (v := ?_) rfl (by kernel_rfl) (by kernel_rfl) (by kernel_rfl) (by decide) (fun _ _ _ h => h) rfl (by exact HS0.out) ?_ ?_
    rotate_left
    · intro wq; go_simp; try (with_reducible rfl)
    try simp only [Act.put, List.setIfInBounds_toArray, List.set_cons_zero, List.set_cons_succ]
    refine takeW (i := 9) (v := ?_) rfl (by kernel_rfl) (by kernel_rfl) (by kernel_rfl) (by decide) (fun _ _ _ h => h) rfl (by exact HS0.out) ?_ ?_
    rotate_left
    · intro wq; go_simp; try (with_reducible rfl)
    try simp only [Act.put, List.setIfInBounds_toArray, List.set_cons_zero, List.set_cons_succ]
    refine takeZ (i := 10) (f0 := 6) (v := ?_) rfl (by kernel_rfl) (by kernel_rfl) (by kernel_rfl) (by decide) (by kernel_rfl) (fun _ _ _ h => h) rfl (by exact HS0.out) ?_ ?_
    rotate_left
    · intro wq hSw; (try dsimp only at hSw); go_split_ands; go_simp; try (with_reducible rfl)
    try simp only [Act.put, List.setIfInBounds_toArray, List.set_cons_zero, List.set_cons_succ]
    refine takeW (i := 11) (v := ?_) rfl (by kernel_rfl) (by kernel_rfl) (by kernel_rfl) (by decide) (fun _ _ _ h => h) rfl (by exact HS0.out) ?_ ?_
    rotate_left
    · intro wq; go_simp; try (with_reducible rfl)
    try simp only [Act.put, List.setIfInBounds_toArray, List.set_cons_zero, List.set_cons_succ]
    refine takeW (i := 12) (v := ?_) rfl (by kernel_rfl) (by kernel_rfl) (by kernel_rfl) (by decide) (fun _ _ _ h => h) rfl (by exact HS0.out) ?_ ?_
    rotate_left
    · intro wq; go_simp; try (with_reducible rfl)
    try simp only [Act.put, List.setIfInBounds_toArray, List.set_cons_zero, List.set_cons_succ]
    refine takeW (i := 13) (v := ?_) rfl (by kernel_rfl) (by kernel_rfl) (by kernel_rfl) (by decide) (fun _ _ _ h => h) rfl (by exact HS0.out) ?_ ?_
    rotate_left
    · intro wq; go_simp; try (with_reducible rfl)
    try simp only [Act.put, List.setIfInBounds_toArray, List.set_cons_zero, List.set_cons_succ]
    refine takeZ (i := 14) (f0 := 6) (v := ?_) rfl (by kernel_rfl) (by kernel_rfl) (by kernel_rfl) (by decide) (by kernel_rfl) (fun _ _ _ h => h) rfl (by exact HS0.out) ?_ ?_
    rotate_left
    · intro wq hSw; (try dsimp only at hSw); go_split_ands; go_simp; try (with_reducible rfl)
    try simp only [Act.put, List.setIfInBounds_toArray, List.set_cons_zero, List.set_cons_succ]
    refine takeW (i := 15) (v := ?_) rfl (by kernel_rfl) (by kernel_rfl) (by kernel_rfl) (by decide) (fun _ _ _ h => h) rfl (by exact HS0.out) ?_ ?_
    rotate_left
    · intro wq; go_simp; try (with_reducible rfl)
    try simp only [Act.put, List.setIfInBounds_toArray, List.set_cons_zero, List.set_cons_succ]
    refine takeW (i := 16) (v := ?_) rfl (by kernel_rfl) (by kernel_rfl) (by kernel_rfl) (by decide) (fun _ _ _ h => h) rfl (by exact HS0.out) ?_ ?_
    rotate_left
    · intro wq; go_simp; try (with_reducible rfl)
    try simp only [Act.put, List.setIfInBounds_toArray, List.set_cons_zero, List.set_cons_succ]
    refine takeZ (i := 17) (f0 := 6) (v := ?_) rfl (by kernel_rfl) (by kernel_rfl) (by kernel_rfl) (by decide) (by kernel_rfl) (fun _ _ _ h => h) rfl (by exact HS0.out) ?_ ?_
    rotate_left
    · intro wq hSw; (try dsimp only at hSw); go_split_ands; go_simp; try (with_reducible rfl)
    try simp only [Act.put, List.setIfInBounds_toArray, List.set_cons_zero, List.set_cons_succ]
    refine takeW (i := 18) (v := ?_) rfl (by kernel_rfl) (by kernel_rfl) (by kernel_rfl) (by decide) (fun _ _ _ h => h) rfl (by exact HS0.out) ?_ ?_
    rotate_left
    · intro wq; go_simp; try (with_reducible rfl)
    try simp only [Act.put, List.setIfInBounds_toArray, List.set_cons_zero, List.set_cons_succ]
    refine oneZ (i := 19) rfl (by kernel_rfl) rfl (fun K hK => ?_)
    go_simp
    refine hK _ _ (by exact HS1.out) ?_
    clear hK K
    try simp only [Act.put, List.setIfInBounds_toArray, List.set_cons_zero, List.set_cons_succ]
    refine oneZ (i := 20) rfl (by kernel_rfl) rfl (fun K hK => ?_)
    go_simp
    refine hK _ _ (by exact HS1.out) ?_
    clear hK K
    try simp only [Act.put, List.setIfInBounds_toArray, List.set_cons_zero, List.set_cons_succ]
    refine oneZ (i := 21) rfl (by kernel_rfl) rfl (fun K hK => ?_)
    go_simp
    refine hK _ _ (by exact HS2.out) ?_
    clear hK K
    try simp only [Act.put, List.setIfInBounds_toArray, List.set_cons_zero, List.set_cons_succ]
    refine seqZ rfl rfl (by kernel_rfl) (by decide) ?_
    go_wp2
    go_ret2
    refine ⟨rfl, ?_⟩
    rw [← HTT.out, HM2.out, HMM.out]
    exact take_fin HFI.out.2.2 HFI.out.1 HFI.out.2.1 H9.out.1 H9.out.2.1 H9.out.2.2 (HFIN9.out mm).1 ((Fr.of_drew (F := [p, mb6]) W9).trans (HFIN9.out mm).2 (fun _ h => .inl h))
end Go.Proofs.Ytefnpalkkhhkfaa.PC
