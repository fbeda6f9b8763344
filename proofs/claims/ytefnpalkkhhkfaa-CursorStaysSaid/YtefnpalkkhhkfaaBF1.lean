/- A part of the proof of cursorStays_holds: its texts, one behind the other, as far as the proof stands on them. (Lines of its texts on the printed words and functions began as lines that a program of the kit had written for this statement.) -/
import Derived.ArgAppend
import Derived.Below
import Derived.BigQuiet
import Derived.BigRegion
import Derived.ChangeMaps4
import Derived.ChangeMaps5
import Derived.ChangeOld
import Derived.Deep.AppendLies
import Derived.Deep.CutBlock
import Derived.Deep.CutRange
import Derived.Deep.DeepCutAuto
import Derived.Deep.DrawnRows
import Derived.Deep.Draws
import Derived.Deep.LoopGhost
import Derived.Deep.OwnRows
import Derived.Deep.QuietTactic
import Derived.Deep.RegionHeld3
import Derived.Deep.RegionLaw
import Derived.Deep.RegionWith
import Derived.Deep.Slices
import Derived.KernelRfl
import Derived.Laws.BitsLemmas
import Derived.Laws.BytesArg
import Derived.Laws.CopyRow
import Derived.Laws.Cover4
import Derived.Laws.Externs
import Derived.Laws.IdiomCopy
import Derived.Laws.MakeOwn
import Derived.Laws.NewBlocks
import Derived.Laws.OwnMore
import Derived.Laws.Rows
import Derived.Laws.Slices
import Derived.Laws.StructEq
import Derived.Lib.AppendStr
import Derived.Lib.AppendZeros
import Derived.Lib.AppendZerosOnto
import Derived.Lib.ConvBytes
import Derived.Lib.Hide
import Derived.Lib.JoinLaws
import Derived.Lib.Overlaps
import Derived.Lib.SmallJoins
import Derived.Lib.Walk
import Derived.MapKept
import Derived.Maps.AppendAt
import Derived.OpenShut
import Derived.OrdersHeld
import Derived.OwnWalk
import Derived.ProofKit
import Derived.RegionTactic
import Derived.RowKit
import Derived.RowKit3
import Derived.SizedLaws
import Derived.StillTail
import Derived.StillTailTactics
import Derived.Tactics
import Derived.Test.YtefnpalkkhhkfaaProg
import Derived.Test.YtefnpalkkhhkfaaRows
import Derived.WalkKit
import Derived.WalkSpells
import Derived.WideLaws
import Derived.WideShapes
import Derived.Test.YtefnpalkkhhkfaaBF0
namespace Go.Proofs.Ytefnpalkkhhkfaa.PC
open Go.RowKit Go.Proofs.YtefnpalkkhhkfaaW.PrintWords Go.Proofs.YtefnpalkkhhkfaaW.PrintLast Go.Proofs.YtefnpalkkhhkfaaW.PrintMore
attribute [local go_sem] max2_int min2_int max_two min_two max_three min_three max_four min_four   -- for this text's walks alone
set_option linter.unusedVariables false
set_option linter.unusedSimpArgs false
theorem k24_mk (w : World) (x : S24)  : k24.K w x [.int .i64 x.f0, .int .i64 x.f1] := ⟨[.int .i64 x.f0], [.int .i64 x.f1], rfl, rfl, rfl⟩
def rd_T24 (xs : List S24) (i : Int) : S24 := xs.getD i.toNat z24
theorem at_T24 {w : World} {A : Option Addr} {n : Nat} {xs : List S24} (h : Kd.C k24 w A n xs) (i : Int) (h0 : 0 ≤ i) (h1 : i < n) : ∃ ad , A = some ad ∧ w.cell? (ad.add (i.toNat * 2)) = some (.int .i64 (rd_T24 xs i).f0) ∧ w.cell? ⟨(ad.add (i.toNat * 2)).block, (ad.add (i.toNat * 2)).off + 1, none⟩ = some (.int .i64 (rd_T24 xs i).f1) := by
  obtain ⟨ad, c, e, _, hK, hc0⟩ := Kd.C_get h z24 i h0 h1
  have hc : ∀ j u, c[j]? = some u → w.cell? (ad.add (i.toNat * 2 + j)) = some u := hc0
  obtain rfl := k24_open hK
  exact ⟨ad, e, hc 0 _ rfl, by rw [← add_field _ _ 1 (by omega)]; exact hc 1 _ rfl⟩
def z49 : S49 := ⟨z24, (0 : Int), false, z24, (0 : Int)⟩
theorem k49_open {w : World} {x : S49} {cs : List Value} (h : k49.K w x cs) : cs = [.int .i64 x.f0.f0, .int .i64 x.f0.f1, .int .i64 x.f1, .bool x.f2, .int .i64 x.f3.f0, .int .i64 x.f3.f1, .int .i32 x.f4] := by
  obtain ⟨_, _, rfl, s0, ⟨_, _, rfl, rfl, ⟨_, _, rfl, rfl, ⟨_, _, rfl, s4, rfl⟩⟩⟩⟩ := h
  obtain rfl := k24_open s0
  obtain rfl := k24_open s4
  exact rfl
theorem k49_mk (w : World) (x : S49)  : k49.K w x [.int .i64 x.f0.f0, .int .i64 x.f0.f1, .int .i64 x.f1, .bool x.f2, .int .i64 x.f3.f0, .int .i64 x.f3.f1, .int .i32 x.f4] := ⟨[.int .i64 x.f0.f0, .int .i64 x.f0.f1], [.int .i64 x.f1, .bool x.f2, .int .i64 x.f3.f0, .int .i64 x.f3.f1, .int .i32 x.f4], rfl, (k24_mk w x.f0 ), ⟨[.int .i64 x.f1], [.bool x.f2, .int .i64 x.f3.f0, .int .i64 x.f3.f1, .int .i32 x.f4], rfl, rfl, ⟨[.bool x.f2], [.int .i64 x.f3.f0, .int .i64 x.f3.f1, .int .i32 x.f4], rfl, rfl, ⟨[.int .i64 x.f3.f0, .int .i64 x.f3.f1], [.int .i32 x.f4], rfl, (k24_mk w x.f3 ), rfl⟩⟩⟩⟩
def rd_T49 (xs : List S49) (i : Int) : S49 := xs.getD i.toNat z49
theorem at_T49 {w : World} {A : Option Addr} {n : Nat} {xs : List S49} (h : Kd.C k49 w A n xs) (i : Int) (h0 : 0 ≤ i) (h1 : i < n) : ∃ ad , A = some ad ∧ w.cell? (ad.add (i.toNat * 7)) = some (.int .i64 (rd_T49 xs i).f0.f0) ∧ w.cell? ⟨(ad.add (i.toNat * 7)).block, (ad.add (i.toNat * 7)).off + 1, none⟩ = some (.int .i64 (rd_T49 xs i).f0.f1) ∧ w.cell? ⟨(ad.add (i.toNat * 7)).block, (ad.add (i.toNat * 7)).off + 2, none⟩ = some (.int .i64 (rd_T49 xs i).f1) ∧ w.cell? ⟨(ad.add (i.toNat * 7)).block, (ad.add (i.toNat * 7)).off + 3, none⟩ = some (.bool (rd_T49 xs i).f2) ∧ w.cell? ⟨(ad.add (i.toNat * 7)).block, (ad.add (i.toNat * 7)).off + 4, none⟩ = some (.int .i64 (rd_T49 xs i).f3.f0) ∧ w.cell? ⟨(ad.add (i.toNat * 7)).block, (ad.add (i.toNat * 7)).off + 5, none⟩ = some (.int .i64 (rd_T49 xs i).f3.f1) ∧ w.cell? ⟨(ad.add (i.toNat * 7)).block, (ad.add (i.toNat * 7)).off + 6, none⟩ = some (.int .i32 (rd_T49 xs i).f4) := by
  obtain ⟨ad, c, e, _, hK, hc0⟩ := Kd.C_get h z49 i h0 h1
  have hc : ∀ j u, c[j]? = some u → w.cell? (ad.add (i.toNat * 7 + j)) = some u := hc0
  obtain rfl := k49_open hK
  exact ⟨ad, e, hc 0 _ rfl, by rw [← add_field _ _ 1 (by omega)]; exact hc 1 _ rfl, by rw [← add_field _ _ 2 (by omega)]; exact hc 2 _ rfl, by rw [← add_field _ _ 3 (by omega)]; exact hc 3 _ rfl, by rw [← add_field _ _ 4 (by omega)]; exact hc 4 _ rfl, by rw [← add_field _ _ 5 (by omega)]; exact hc 5 _ rfl, by rw [← add_field _ _ 6 (by omega)]; exact hc 6 _ rfl⟩
end Go.Proofs.Ytefnpalkkhhkfaa.PC
namespace Go.Proofs.Ytefnpalkkhhkfaa.OpenS
open Go.ChangeShapes Go.WideShapes Go.ChangeAt Go.Joins
set_option linter.unusedVariables false
set_option maxRecDepth 100000
variable {H : Type} {enc : TypeId × Value → H} {w : World} {base : Nat} {spare : Nat → Bool} {held : Bool}
/-- The two numbers of an ID's cells. -/
theorem cells24 {fuel : Nat} {cs : List Value} {x : DataW H × List MemPlace} (h : DataW.trod enc Try.prog w base spare held fuel 24 cs = some x) : ∃ a b, cs = [.int .i64 a, .int .i64 b] ∧ (Lit.int .i64 a).wf = true ∧ (Lit.int .i64 b).wf = true := by
  obtain ⟨xs, n, _, _, hl, hlen, hf⟩ := DataW.trod_struct Try.underlying24 h
  have hc : Try.prog.cellsOf 24 = 2 := by kernel_rfl
  have hi : Try.prog.cellsOf 3 = 1 := by kernel_rfl
  rw [hc] at hl
  match cs, hl, xs, hlen with
  | [c0, c1], _, [y0, y1], _ =>
    have g0 := hf 0 _ rfl
    have g1 := hf 1 _ rfl
    simp [hi] at g0 g1
    obtain ⟨a, ha, _, wa⟩ := DataW.trod_int Try.underlying3 (x := y0) (by simpa using g0)
    obtain ⟨b, hb, _, wb⟩ := DataW.trod_int Try.underlying3 (x := y1) (by simpa using g1)
    simp only [List.cons.injEq, and_true] at ha hb
    exact ⟨a, b, by rw [ha, hb], wa, wb⟩
end Go.Proofs.Ytefnpalkkhhkfaa.OpenS
namespace Go.Proofs.Ytefnpalkkhhkfaa.OpenS
open Go.RowKit Go.ChangeShapes Go.WideShapes Go.ChangeAt Go.Joins Go.Proofs.Ytefnpalkkhhkfaa.PC Go.Proofs.Ytefnpalkkhhkfaa.K Go.Proofs.YtefnpalkkhhkfaaW.PrintWords
set_option linter.unusedVariables false
set_option maxRecDepth 100000
variable {H : Type} {enc : TypeId × Value → H} {w : World} {base : Nat} {spare : Nat → Bool} {held : Bool}
theorem cellsOp {fuel : Nat} {cs : List Value} {x : DataW H × List MemPlace} (hf : DataW.trod enc Try.prog w base spare held fuel 49 cs = some x) : ∃ y : S49, k49.K w y cs ∧ True := by
  obtain ⟨xs, n, _, _, hl, hlen, hff⟩ := DataW.trod_struct Try.underlying49 hf
  have hc : Try.prog.cellsOf 49 = 7 := by kernel_rfl
  have h3 : Try.prog.cellsOf 3 = 1 := by kernel_rfl
  have h4 : Try.prog.cellsOf 4 = 1 := by kernel_rfl
  have h21 : Try.prog.cellsOf 21 = 1 := by kernel_rfl
  have h59 : Try.prog.cellsOf 24 = 2 := by kernel_rfl
  rw [hc] at hl
  match cs, hl, xs, hlen with
  | [c0, c1, c2, c3, c4, c5, c6], _, [y0, y1, y2, y3, y4], _ =>
    have g0 := hff 0 _ rfl
    have g1 := hff 1 _ rfl
    have g2 := hff 2 _ rfl
    have g3 := hff 3 _ rfl
    have g4 := hff 4 _ rfl
    simp [h3, h4, h21, h59] at g0 g1 g2 g3 g4
    obtain ⟨a, b, e0, wa, wb⟩ := cells24 (x := y0) (by simpa using g0)
    obtain ⟨c, e1, _, wc⟩ := DataW.trod_int Try.underlying3 (x := y1) (by simpa using g1)
    obtain ⟨e, e2, _⟩ := DataW.trod_bool Try.underlying4 (x := y2) (by simpa using g2)
    obtain ⟨f, g, e3, wf, wg⟩ := cells24 (x := y3) (by simpa using g3)
    obtain ⟨i, e4, _, wi⟩ := DataW.trod_int Try.underlying21 (x := y4) (by simpa using g4)
    simp only [List.cons.injEq, and_true] at e0 e1 e2 e3 e4
    refine ⟨⟨⟨a, b⟩, c, e, ⟨f, g⟩, i⟩, ?_, trivial⟩
    rw [e0.1, e0.2, e1, e2, e3.1, e3.2, e4]
    exact k49_mk w ⟨⟨a, b⟩, c, e, ⟨f, g⟩, i⟩
theorem openOps {ts : List TypeId} {ds : List (DataW H)} {j : Nat} {a : Option Addr} {len cap : Nat} {d : DataW H} {ps : List MemPlace} (hsz : (DataW.weightsEach Try.prog ts ds).all (· ≤ reachBytes) = true) (ht : ts[j]? = some 22) (hd : ds[j]? = some d)
    (h : DataW.Trod enc Try.prog w base spare held 22 (.slice a len cap) d ps) :
    ∃ zs : List S49, zs.length = len ∧ Kd.C k49 w a zs.length zs ∧ zs.length ≤ cap ∧ zs.length * 56 ≤ 140737488351232 ∧ ∀ y ∈ zs, True :=
  open_rows (K := k49.K w) (sz := 7) hsz ht hd Try.underlying22 (by kernel_rfl) (by kernel_rfl) (fun x c hx => by rw [k49_open hx]; rfl) (fun n cs x hx => cellsOp hx) h
end Go.Proofs.Ytefnpalkkhhkfaa.OpenS
namespace Go.Proofs.Ytefnpalkkhhkfaa.PC
open Go.RowKit Go.Proofs.YtefnpalkkhhkfaaW.PrintWords Go.Proofs.YtefnpalkkhhkfaaW.PrintLast Go.Proofs.YtefnpalkkhhkfaaW.PrintMore Go.Proofs.Ytefnpalkkhhkfaa.K Go.Proofs.Ytefnpalkkhhkfaa.IX
attribute [local go_sem] max2_int min2_int max_two min_two max_three min_three max_four min_four
attribute [local go_sem high] eqA24
set_option linter.unusedVariables false
set_option linter.unusedSimpArgs false
theorem info24 : (Try.prog.info? 24).map (fun i => (i.zero, i.size, i.bytes)) = some (some (.agg #[(.int .i64 0), (.int .i64 0)]), 2, 16) := by kernel_rfl
theorem idsS_snoc (so : S83 → Bool) (l : List S83) (e : S83) : idsS so (l ++ [e]) = if so e = true then idsS so l ++ [e.f0] else idsS so l := by
  unfold idsS
  rw [List.filter_append, List.map_append]
  cases h : so e <;> simp [h]
theorem idsS_len (so : S83 → Bool) (l : List S83) : (idsS so l).length ≤ l.length := by
  unfold idsS
  rw [List.length_map]
  exact List.length_filter_le _ _
end Go.Proofs.Ytefnpalkkhhkfaa.PC
namespace Go.Proofs.Ytefnpalkkhhkfaa.PC
open Go.RowKit Go.Proofs.YtefnpalkkhhkfaaW.PrintWords Go.Proofs.YtefnpalkkhhkfaaW.PrintLast Go.Proofs.YtefnpalkkhhkfaaW.PrintMore Go.Proofs.Ytefnpalkkhhkfaa.K Go.Proofs.Ytefnpalkkhhkfaa.IX
attribute [local go_sem] max2_int min2_int max_two min_two max_three min_three max_four min_four
attribute [local go_sem high] eqA24
set_option linter.unusedVariables false
set_option linter.unusedSimpArgs false
theorem cIDs_calls (e : S83) (w : World) : Calls Try.prog 43 #[elV e] w fun e' w' => e' = .returned (.bool e.f2) ∧ Below w.heap.size w w' := by
  unfold elV
  go_enter Try.func43, Try.ntmps43
  go_wp2
  go_ret
  exact ⟨rfl, (Below.refl _ w).alloc (Nat.le_refl _) _⟩
set_option maxHeartbeats 4000000 in
set_option maxRecDepth 100000 in
theorem ids_cIDs (w : World) (F : List Nat) (p : Nat) (T : TS) (h : Tx w F p T) (hl : T.l.length ≤ 1000000) : Calls Try.prog 42 #[.pointer (some ⟨p, 0, none⟩), .func (Fn.func 43) #[] #[]] w fun e w' => ∃ v, e = .returned v ∧ Kd.R k24 24 w' w.heap.size (fun _ => True) v (idsS (fun e : S83 => e.f2) T.l) ∧ Below w.heap.size w w' := by
  obtain ⟨A1, c1, x, A2, c2, A3, c3, mb, FI, h0, h1, h2, h3, h4, h5, ⟨hc, hr⟩, _⟩ := h.read
  generalize T.l = l at *
  have HR := Lib.hid hr
  clear h h1 h2 h3 h4 h5 hr
  go_enter Try.func42, Try.ntmps42
  go_wp2
  go_loopw [5, 13] (fun v5 v13 w' => ∃ i : Nat, v13 = .int .i64 (i : Int) ∧ i ≤ l.length ∧ Aside0 (Kd.R k24 24 w' w.heap.size (fun _ => True) v5 (idsS (fun e : S83 => e.f2) (l.take i)) ∧ Below w.heap.size w w')) (fun _ v13 _ => l.length - (intOf v13).toNat)
  case atStart => exact ⟨0, rfl, by omega, ⟨Kd.R_nil _ _ _ _ _, Below.refl _ _⟩⟩
  case round =>
    obtain ⟨i, rfl, hi, HI⟩ := hrel
    by_cases hlt : i < l.length
    · obtain ⟨ad, eA, e0, e1, e2, e3⟩ := cell_el HR.out HI.out.2 i hlt
      subst eA
      have hta : idsS (fun e : S83 => e.f2) (l.take (i + 1)) = if ((fun e : S83 => e.f2)) l[i] = true then idsS (fun e : S83 => e.f2) (l.take i) ++ [(l[i]).f0] else idsS (fun e : S83 => e.f2) (l.take i) := by rw [show l.take (i + 1) = l.take i ++ [l[i]] from (List.take_append_getElem hlt).symm]; exact idsS_snoc _ _ _
      have hvl := idsS_len (fun e : S83 => e.f2) (l.take i)
      rw [List.length_take] at hvl
      obtain ⟨e, he⟩ : ∃ e, l[i] = e := ⟨_, rfl⟩
      rw [he] at e0 e1 e2 e3 hta
      obtain ⟨vs, hvs⟩ : ∃ vs, idsS (fun e : S83 => e.f2) (l.take i) = vs := ⟨_, rfl⟩
      rw [hvs] at hta hvl
      have HO := Lib.hid (show Kd.R k24 24 wr w.heap.size (fun _ => True) u5 vs from by rw [← hvs]; exact HI.out.1)
      have HB := Lib.hid HI.out.2
      have HT := Lib.hid hta
      have HVL := Lib.hid (show vs.length ≤ 1000000 by omega)
      clear hta he hvs hvl HI
      have K1 := Lib.hid (fun w2 => cIDs_calls e w2)
      unfold elV at K1
      cases hq : e.f2 with
      | true =>
        rw [hq] at e3 K1
        have HQ := Lib.hid hq
        clear hq
        go_wp2_with (first | (go_at_call 43; refine (K1.out _).mono ?_; rintro e' w' ⟨rfl, hb⟩; have HC := Lib.hid (show Below wr.heap.size wr w' from below_step ((Below.refl _ wr).alloc (Nat.le_refl _) _) hb); have d0 : w'.cell? ⟨wr.heap.size, 0, none⟩ = some (.int .i64 e.f0.f0) := (hb.cell (by rw [alloc_sz]; exact Nat.lt_succ_self _)).trans ((cell_of (heap_new wr _) 0).trans rfl); have d1 : w'.cell? ⟨wr.heap.size, 1, none⟩ = some (.int .i64 e.f0.f1) := (hb.cell (by rw [alloc_sz]; exact Nat.lt_succ_self _)).trans ((cell_of (heap_new wr _) 1).trans rfl); clear hb) | ((with_reducible refine gate_builtin (b := .append) (xs := #[.tmp 20, .tmp 23]) rfl ?_); at_builtin; refine Kd.R_append k24 (w0 := w) w.heap.size rfl (.tmp 20) (.tmp 23) 53 24 (.agg #[(.int .i64 0), (.int .i64 0)]) 16 rfl Try.underlying53 info24 rfl (by decide) (by omega) u5 vs e.f0 [.int .i64 e.f0.f0, .int .i64 e.f0.f1] (fun _ => True) (fun _ => False) rfl ?aX ?aP (fun _ hk => hk.elim) ?aF ?aO ?aB ?aS ?aL ?_; (case aX => rfl); (case aP => exact k24_mkM _ _ _ _); (case aF => exact (fun _ _ => trivial)); (case aO => exact Kd.R_below HO.out HC.out); (case aB => exact below_step HB.out HC.out); (case aS => exact below_size (below_step HB.out HC.out)); (case aL => have := HVL.out; omega); intro v7 w7 ho7 hb hg hat; have HO7 := Lib.hid ho7; have HB7 := Lib.hid hb; clear ho7 hb hg hat))
        go_roundw
        case rel => exact ⟨i + 1, by go_num, by omega, ⟨by rw [HT.out, if_pos HQ.out]; exact HO7.out, HB7.out⟩⟩
        case measure => simp [intOf]; omega
      | false =>
        rw [hq] at e3 K1
        have HQ := Lib.hid hq
        clear hq
        go_wp2_with (first | (go_at_call 43; refine (K1.out _).mono ?_; rintro e' w' ⟨rfl, hb⟩; have HC := Lib.hid (show Below wr.heap.size wr w' from below_step ((Below.refl _ wr).alloc (Nat.le_refl _) _) hb); have d0 : w'.cell? ⟨wr.heap.size, 0, none⟩ = some (.int .i64 e.f0.f0) := (hb.cell (by rw [alloc_sz]; exact Nat.lt_succ_self _)).trans ((cell_of (heap_new wr _) 0).trans rfl); have d1 : w'.cell? ⟨wr.heap.size, 1, none⟩ = some (.int .i64 e.f0.f1) := (hb.cell (by rw [alloc_sz]; exact Nat.lt_succ_self _)).trans ((cell_of (heap_new wr _) 1).trans rfl); clear hb))
        go_roundw
        case rel => exact ⟨i + 1, by go_num, by omega, ⟨by rw [HT.out, if_neg (by rw [HQ.out]; decide)]; exact Kd.R_below HO.out HC.out, below_step HB.out HC.out⟩⟩
        case measure => simp [intOf]; omega
    · obtain rfl : i = l.length := by omega
      have HO := Lib.hid (show Kd.R k24 24 wr w.heap.size (fun _ => True) u5 (idsS (fun e : S83 => e.f2) l) from by have := HI.out.1; rw [List.take_length] at this; exact this)
      have HB := Lib.hid HI.out.2
      clear HI
      go_wp2
      go_ret
      exact ⟨_, rfl, HO.out, HB.out⟩
theorem alive_calls_ids (w : World) (F : List Nat) (p : Nat) (T : TS) (h : Tx w F p T) (hl : T.l.length ≤ 1000000) : Calls Try.prog 25 #[.pointer (some ⟨p, 0, none⟩)] w fun e w' => ∃ v, e = .returned v ∧ Kd.R k24 24 w' w.heap.size (fun _ => True) v (idsS (fun e : S83 => e.f2) T.l) ∧ Below w.heap.size w w' := by
  have K1 := Lib.hid (ids_cIDs w F p T h hl)
  clear h
  go_enter Try.func25, Try.ntmps25
  go_wp2_with (go_at_call 42; refine K1.out.mono ?_; rintro e w' ⟨v, rfl, hr, hb⟩; have HO := Lib.hid hr; have HB := Lib.hid hb; clear hr hb)
  go_ret
  exact ⟨_, rfl, HO.out, HB.out⟩
end Go.Proofs.Ytefnpalkkhhkfaa.PC
namespace Go.Proofs.Ytefnpalkkhhkfaa.PC
open Go.RowKit Go.Proofs.YtefnpalkkhhkfaaW.PrintWords Go.Proofs.YtefnpalkkhhkfaaW.PrintLast Go.Proofs.YtefnpalkkhhkfaaW.PrintMore
set_option linter.unusedVariables false
set_option linter.unusedSimpArgs false
theorem rright_f (c a : Int) : foolscapref12_right.f c a = some (decide (idP c a)) := by
  unfold foolscapref12_right.f
  split
  · split
    · split
      · exact some_d (by unfold idP; omega)
      · exact some_f (by unfold idP; omega)
    · exact some_f (by unfold idP; omega)
  · exact some_f (by unfold idP; omega)
theorem size_f (k : Nat) (c : Int) : ∃ n, foolscapref01_Size.f (k + 1) c = some n ∧ (n > 0 ↔ chP c) := by
  unfold foolscapref01_Size.f
  have bad : ¬ chP c → ∃ n, foolscapref01_Size.j0 (k + 1) c true = some n ∧ (n > 0 ↔ chP c) := fun h => ⟨0, by rw [foolscapref01_Size.j0, if_pos rfl], by simp [h]⟩
  have good : chP c → ∃ n, foolscapref01_Size.j0 (k + 1) c false = some n ∧ (n > 0 ↔ chP c) := fun h => by
    rw [foolscapref01_Size.j0, if_neg (by decide)]
    split
    · exact ⟨_, rfl, by simp [h]⟩
    · split
      · exact ⟨_, rfl, by simp [h]⟩
      · split
        · exact ⟨_, rfl, by simp [h]⟩
        · exact ⟨_, rfl, by simp [h]⟩
  split
  · exact bad (by unfold chP; omega)
  · split
    · exact bad (by unfold chP; omega)
    · split
      · by_cases h : c ≤ 57343
        · rw [decide_eq_true h]; exact bad (by unfold chP; omega)
        · rw [decide_eq_false h]; exact good (by unfold chP; omega)
      · exact good (by unfold chP; omega)
theorem rRight_f (k : Nat) (i0 i1 q : Int) (ins : Bool) (r0 r1 c : Int) : foolscapref12_Right.f (k + 2) i0 i1 q ins r0 r1 c = some (decide (rightP i0 i1 q ins r0 r1 c)) := by
  unfold foolscapref12_Right.f
  have j0 : ∀ b : Bool, (b = true ↔ (idP r0 r1 ∨ ins = true ∧ r0 = 0 ∧ r1 = 0)) → foolscapref12_Right.j0 (k + 2) b i0 i1 q ins r0 r1 c = some (decide (rightP i0 i1 q ins r0 r1 c)) := by
    intro b hb
    rw [foolscapref12_Right.j0]
    cases ins
    · rw [if_neg (by decide), rright_f, Option.bind_some]
      by_cases h1 : idP i0 i1
      · rw [if_pos (decide_eq_true h1)]
        by_cases h2 : q ≥ 1
        · rw [if_pos h2]
          by_cases h3 : q ≤ 4294967295
          · rw [if_pos h3]
            by_cases h4 : b = true
            · rw [if_pos h4]
              by_cases h5 : r0 < i0
              · rw [if_pos h5]
                have h6 : idP r0 r1 := by
                  rcases hb.1 h4 with h | ⟨h, _⟩
                  · exact h
                  · cases h
                refine some_b ?_
                rw [decide_eq_true_iff]
                unfold rightP
                simp [h1, h3, h5, h6]
                omega
              · rw [if_neg h5]; exact some_f (by unfold rightP; simp [h5])
            · rw [if_neg h4]
              refine some_f ?_
              rintro ⟨_, _, _, _, ⟨h, _⟩ | ⟨_, h, _⟩⟩
              · cases h
              · exact h4 (hb.2 (.inl h))
          · rw [if_neg h3]; exact some_f (by unfold rightP; simp [h3])
        · rw [if_neg h2]; exact some_f (by unfold rightP; omega)
      · rw [if_neg (by simpa using h1)]; exact some_f (by unfold rightP; simp [h1])
    · obtain ⟨n, hn, hn2⟩ := size_f k c
      rw [if_pos rfl, hn, Option.bind_some, rright_f, Option.bind_some]
      by_cases h1 : idP i0 i1
      · rw [if_pos (decide_eq_true h1)]
        by_cases h2 : q ≥ 1
        · rw [if_pos h2]
          by_cases h3 : q ≤ 4294967295
          · rw [if_pos h3]
            by_cases h4 : b = true
            · rw [if_pos h4]
              by_cases h5 : r0 < i0
              · rw [if_pos h5]
                have h6 : idP r0 r1 ∨ r0 = 0 ∧ r1 = 0 := by
                  rcases hb.1 h4 with h | ⟨_, h⟩
                  · exact .inl h
                  · exact .inr h
                refine some_d ?_
                rw [hn2]
                unfold rightP
                exact ⟨fun h => ⟨h1, h2, h3, h5, .inl ⟨rfl, h6, h⟩⟩, fun h => by
                  rcases h.2.2.2.2 with h | h
                  · exact h.2.2
                  · cases h.1⟩
              · rw [if_neg h5]; exact some_f (by unfold rightP; simp [h5])
            · rw [if_neg h4]
              refine some_f ?_
              rintro ⟨_, _, _, _, ⟨_, h, _⟩ | ⟨h, _⟩⟩
              · rcases h with h | h
                · exact h4 (hb.2 (.inl h))
                · exact h4 (hb.2 (.inr ⟨rfl, h⟩))
              · cases h
          · rw [if_neg h3]; exact some_f (by unfold rightP; simp [h3])
        · rw [if_neg h2]; exact some_f (by unfold rightP; omega)
      · rw [if_neg (by simpa using h1)]; exact some_f (by unfold rightP; simp [h1])
  rw [rright_f, Option.bind_some]
  by_cases h : idP r0 r1
  · rw [if_pos (decide_eq_true h)]
    exact j0 true (by simp [h])
  · rw [if_neg (by simpa using h)]
    by_cases hi : ins = true
    · rw [if_pos hi]
      exact j0 _ (by simp [h, hi])
    · rw [if_neg hi]
      exact j0 false (by simp [h, hi])
end Go.Proofs.Ytefnpalkkhhkfaa.PC
namespace Go.Proofs.Ytefnpalkkhhkfaa.PC
open Go.RowKit Go.Proofs.YtefnpalkkhhkfaaW.PrintWords Go.Proofs.YtefnpalkkhhkfaaW.PrintLast Go.Proofs.YtefnpalkkhhkfaaW.PrintMore Go.Proofs.Ytefnpalkkhhkfaa.K Go.Proofs.Ytefnpalkkhhkfaa.IX Go.Proofs.Ytefnpalkkhhkfaa.I
attribute [local go_sem] max2_int min2_int max_two min_two max_three min_three max_four min_four
attribute [local go_sem high] eqA24
set_option linter.unusedVariables false
set_option linter.unusedSimpArgs false
theorem take_snoc {α : Type} (L : List α) (i : Nat) (h : i < L.length) : L.take (i + 1) = L.take i ++ [L[i]] := (List.take_append_getElem h).symm
theorem cell_op {w wr : World} {A : Option Addr} {l : List S49} (h : Kd.C k49 w A l.length l) (hb : Below w.heap.size w wr) (i : Nat) (hi : i < l.length) : ∃ ad, A = some ad ∧ wr.cell? (ad.add (i * 7)) = some (.int .i64 l[i].f0.f0) ∧ wr.cell? ⟨(ad.add (i * 7)).block, (ad.add (i * 7)).off + 1, none⟩ = some (.int .i64 l[i].f0.f1) ∧
    wr.cell? ⟨(ad.add (i * 7)).block, (ad.add (i * 7)).off + 2, none⟩ = some (.int .i64 l[i].f1) ∧ wr.cell? ⟨(ad.add (i * 7)).block, (ad.add (i * 7)).off + 3, none⟩ = some (.bool l[i].f2) ∧
    wr.cell? ⟨(ad.add (i * 7)).block, (ad.add (i * 7)).off + 4, none⟩ = some (.int .i64 l[i].f3.f0) ∧ wr.cell? ⟨(ad.add (i * 7)).block, (ad.add (i * 7)).off + 5, none⟩ = some (.int .i64 l[i].f3.f1) ∧ wr.cell? ⟨(ad.add (i * 7)).block, (ad.add (i * 7)).off + 6, none⟩ = some (.int .i32 l[i].f4) := by
  obtain ⟨ad, eA, c0, c1, c2, c3, c4, c5, c6⟩ := at_T49 h (i : Int) (by omega) (by omega)
  have hrd : rd_T49 l (i : Int) = l[i] := by unfold rd_T49; simp [hi]
  simp only [Int.toNat_natCast] at c0 c1 c2 c3 c4 c5 c6
  rw [hrd] at c0 c1 c2 c3 c4 c5 c6
  have go : ∀ {x : Addr} {v : Value}, w.cell? x = some v → wr.cell? x = some v := fun c => (hb.cell (World.block_lt_of_cell? w _ c)).trans c
  exact ⟨ad, eA, go c0, go c1, go c2, go c3, go c4, go c5, go c6⟩
set_option maxHeartbeats 4000000 in
theorem known_calls (w : World) (q : Nat) (L : List S49) (A : Option Addr) (c : Nat) (a : Int) (h0 : w.cell? ⟨q, 0, none⟩ = some (.slice A L.length c)) (hr : Kd.C k49 w A L.length L) (hc : L.length ≤ c) (hl : L.length ≤ 1000000) :
    Calls Try.prog 46 #[.pointer (some ⟨q, 0, none⟩), .int .i64 a] w fun e w' => e = .returned (.tuple #[.int .i64 (knownR L a).1, .int .i64 (knownR L a).2]) ∧ w = w' := by
  have HR := Aside0.mk hr
  obtain ⟨len, hlen⟩ : ∃ len, L.length = len := ⟨_, rfl⟩
  have HLEN := Lib.hid hlen
  rw [hlen] at h0 hc hl
  clear hr hlen
  go_enter Try.func46, Try.ntmps46
  go_wp2
  go_loop [6, 7, 8] (fun v6 v7 v8 => ∃ (i : Nat) (s t : Int), v8 = .int .i64 (i : Int) ∧ v6 = .int .i64 s ∧ v7 = .int .i64 t ∧ i ≤ len ∧ Aside0 (knownR (L.take i) a = (s, t))) (fun _ _ v8 => len - (intOf v8).toNat)
  case atStart => exact ⟨0, 0, 0, rfl, rfl, rfl, by omega, ⟨rfl⟩⟩
  case round =>
    obtain ⟨i, s, t, rfl, rfl, rfl, hi, HI⟩ := hrel
    by_cases hlt : i < len
    · have hiL : i < L.length := by rw [HLEN.out]; exact hlt
      obtain ⟨ad, eA, c0, c1, c2, _⟩ := cell_op HR.out (Below.refl _ w) i hiL
      subst eA
      have hta := take_snoc L i hiL
      have hkn := knownR_snoc (L.take i) L[i] a
      obtain ⟨e, he⟩ : ∃ e, L[i] = e := ⟨_, rfl⟩
      rw [he] at c0 c1 c2 hta hkn
      rw [← hta, HI.out] at hkn
      have HK := Lib.hid hkn
      obtain ⟨⟨e0, e1⟩, e2, e3, e4, e5⟩ := e
      simp only at c0 c1 c2
      clear hta hkn he
      by_cases hq : e1 = a
      · subst hq
        by_cases hs : s < e2
        · have hk : knStep e1 (s, t) ⟨⟨e0, e1⟩, e2, e3, e4, e5⟩ = (e2, e0) := by unfold knStep; rw [if_pos ⟨rfl, hs⟩]
          have HK2 := Lib.hid (HK.out.trans hk)
          have hb : (e1 == e1) = true := by simp
          have hd : decide (s < e2) = true := by simpa using hs
          clear hk
          go_wp2
          go_round
          case rel => exact ⟨i + 1, e2, e0, by go_num, rfl, rfl, by omega, ⟨HK2.out⟩⟩
          case measure => simp [intOf]; omega
        · have hk : knStep e1 (s, t) ⟨⟨e0, e1⟩, e2, e3, e4, e5⟩ = (s, t) := by unfold knStep; rw [if_neg (fun k => hs k.2)]
          have HK2 := Lib.hid (HK.out.trans hk)
          have hb : (e1 == e1) = true := by simp
          have hd : decide (s < e2) = false := by simpa using hs
          clear hk
          go_wp2
          go_round
          case rel => exact ⟨i + 1, s, t, by go_num, rfl, rfl, by omega, ⟨HK2.out⟩⟩
          case measure => simp [intOf]; omega
      · have hk : knStep a (s, t) ⟨⟨e0, e1⟩, e2, e3, e4, e5⟩ = (s, t) := by unfold knStep; rw [if_neg (fun k => hq k.1)]
        have HK2 := Lib.hid (HK.out.trans hk)
        have hb : (e1 == a) = false := by simpa using hq
        clear hk
        go_wp2
        go_round
        case rel => exact ⟨i + 1, s, t, by go_num, rfl, rfl, by omega, ⟨HK2.out⟩⟩
        case measure => simp [intOf]; omega
    · obtain rfl : i = len := by omega
      have hfin : knownR L a = (s, t) := by
        have := HI.out
        rwa [← HLEN.out, List.take_length] at this
      have HF := Lib.hid hfin
      have hd : decide ((i : Int) < (i : Int)) = false := by simp
      clear hfin
      go_wp2
      go_ret2
      exact ⟨by rw [HF.out]; rfl, rfl⟩
theorem hasR_take (L : List S49) (i : Nat) (h : i < L.length) (x : S24) : hasR (L.take (i + 1)) x = (hasR (L.take i) x || (L[i].f2 && idq L[i].f0 x)) := by
  rw [take_snoc L i h]
  unfold hasR
  rw [List.any_append]
  simp
theorem hasR_at (L : List S49) (i : Nat) (h : i < L.length) (x : S24) (hq : (L[i].f2 && idq L[i].f0 x) = true) : hasR L x = true := by
  unfold hasR
  rw [List.any_eq_true]
  exact ⟨L[i], List.getElem_mem h, hq⟩
set_option maxHeartbeats 4000000 in
theorem ghas_calls (w : World) (q : Nat) (L : List S49) (A : Option Addr) (c : Nat) (x : S24) (h0 : w.cell? ⟨q, 0, none⟩ = some (.slice A L.length c)) (hr : Kd.C k49 w A L.length L) (hc : L.length ≤ c) (hl : L.length ≤ 1000000) :
    Calls Try.prog 47 #[.pointer (some ⟨q, 0, none⟩), .agg #[.int .i64 x.f0, .int .i64 x.f1]] w fun e w' => e = .returned (.bool (hasR L x)) ∧ Below w.heap.size w w' := by
  obtain ⟨x0, x1⟩ := x
  have HR := Aside0.mk hr
  obtain ⟨W1, hW1⟩ : ∃ W1, w.alloc (.cells #[.int .i64 x0, .int .i64 x1] 24) = W1 := ⟨_, rfl⟩
  have hb : Below w.heap.size w W1 := by rw [← hW1]; exact (Below.refl _ w).alloc (Nat.le_refl _) _
  have hnew : W1.heap[w.heap.size]? = some (.cells #[.int .i64 x0, .int .i64 x1] 24 (0, 0)) := by rw [← hW1]; exact heap_new w _
  have HB := Lib.hid hb
  obtain ⟨len, hlen⟩ : ∃ len, L.length = len := ⟨_, rfl⟩
  have HLEN := Lib.hid hlen
  rw [hlen] at h0 hc hl
  have HS := Lib.hid (fun W (hb2 : Below W1.heap.size W1 W) => show W.cell? ⟨q, 0, none⟩ = some (.slice A len c) ∧ W.cell? ⟨w.heap.size, 0, none⟩ = some (.int .i64 x0) ∧ W.cell? ⟨w.heap.size, 1, none⟩ = some (.int .i64 x1) from
    ⟨((below_step hb hb2).cell (World.block_lt_of_cell? w _ h0)).trans h0, (hb2.cell (lt_of hnew)).trans ((cell_of hnew 0).trans rfl), (hb2.cell (lt_of hnew)).trans ((cell_of hnew 1).trans rfl)⟩)
  clear hr hlen h0 hb hnew
  go_enter Try.func47, Try.ntmps47
  go_wp2
  clear hW1
  go_loopw [5] (fun v5 w' => ∃ (i : Nat), v5 = .int .i64 (i : Int) ∧ i ≤ len ∧ Aside0 (hasR (L.take i) ⟨x0, x1⟩ = false ∧ Below W1.heap.size W1 w')) (fun v5 _ => len - (intOf v5).toNat)
  case atStart => exact ⟨0, rfl, by omega, ⟨rfl, Below.refl _ _⟩⟩
  case round =>
    obtain ⟨i, rfl, hi, HI⟩ := hrel
    obtain ⟨s0, s1, s2⟩ := HS.out _ HI.out.2
    by_cases hlt : i < len
    · have hiL : i < L.length := by rw [HLEN.out]; exact hlt
      obtain ⟨ad, eA, c0, c1, _, c3, _⟩ := cell_op HR.out (below_step HB.out HI.out.2) i hiL
      subst eA
      have hta := hasR_take L i hiL ⟨x0, x1⟩
      have hat := hasR_at L i hiL ⟨x0, x1⟩
      rw [HI.out.1, Bool.false_or] at hta
      obtain ⟨e, he⟩ : ∃ e, L[i] = e := ⟨_, rfl⟩
      rw [he] at c0 c1 c3 hta hat
      obtain ⟨⟨e0, e1⟩, e2, e3, e4, e5⟩ := e
      simp only at c0 c1 c3
      cases e3 with
      | true =>
        by_cases hq : idq ⟨e0, e1⟩ ⟨x0, x1⟩ = true
        · have HF := Lib.hid (hat (by simpa using hq))
          have hq2 : (e0 == x0 && e1 == x1) = true := hq
          clear hta hat he hq
          go_wp2
          go_quiet (fail)
          go_wp2
          go_ret
          exact ⟨by rw [HF.out]; rfl, (pw_below_drewN (below_step HB.out HI.out.2) _)⟩
        · have hq2 : (e0 == x0 && e1 == x1) = false := by simpa [idq] using hq
          have HF := Lib.hid (hta.trans (show (true && idq ⟨e0, e1⟩ ⟨x0, x1⟩) = false from hq2))
          clear hta hat he hq
          go_wp2
          go_quiet (fail)
          go_wp2
          go_roundw
          case rel => exact ⟨i + 1, by go_num, by omega, ⟨HF.out, pw_below_drewN HI.out.2 _⟩⟩
          case measure => simp [intOf]; omega
      | false =>
        have HF := Lib.hid (hta.trans (show (false && idq ⟨e0, e1⟩ ⟨x0, x1⟩) = false from rfl))
        clear hta hat he
        go_wp2
        go_quiet (fail)
        go_wp2
        go_roundw
        case rel => exact ⟨i + 1, by go_num, by omega, ⟨HF.out, pw_below_drewN HI.out.2 _⟩⟩
        case measure => simp [intOf]; omega
    · obtain rfl : i = len := by omega
      have hfin : hasR L ⟨x0, x1⟩ = false := by
        have := HI.out.1
        rwa [← HLEN.out, List.take_length] at this
      have HF := Lib.hid hfin
      have hd : decide ((i : Int) < (i : Int)) = false := by simp
      clear hfin
      go_wp2
      go_ret
      exact ⟨by rw [HF.out]; rfl, below_step HB.out HI.out.2⟩
end Go.Proofs.Ytefnpalkkhhkfaa.PC
namespace Go.Proofs.Ytefnpalkkhhkfaa.PC
open Go.RowKit Go.Proofs.YtefnpalkkhhkfaaW.PrintWords Go.Proofs.Ytefnpalkkhhkfaa.K Go.Proofs.Ytefnpalkkhhkfaa.IX Go.Proofs.Ytefnpalkkhhkfaa.I
set_option linter.unusedVariables false
set_option linter.unusedSimpArgs false
def putR (L : List S49) (o : S49) : (Bool × Int) × List S49 :=
  match refR L o with
  | some e => ((false, e), L)
  | none => ((true, 0), L ++ [o])
theorem Inv.put_same {T : TS} {F : Fo} (h : Inv T F) (o : S49) : (putT T o).1 = (putR T.ops o).1 ∧ (putT T o).2.ops = (putR T.ops o).2 := by
  unfold putT putR
  rw [h.ref o]
  cases refR T.ops o <;> exact ⟨rfl, rfl⟩
end Go.Proofs.Ytefnpalkkhhkfaa.PC
namespace Go.Proofs.Ytefnpalkkhhkfaa.PC
open Go.RowKit Go.Proofs.YtefnpalkkhhkfaaW.PrintWords Go.Proofs.YtefnpalkkhhkfaaW.PrintLast Go.Proofs.YtefnpalkkhhkfaaW.PrintMore Go.Proofs.Ytefnpalkkhhkfaa.K Go.Proofs.Ytefnpalkkhhkfaa.IX
set_option linter.unusedVariables false
set_option linter.unusedSimpArgs false
theorem Flat.owns {α : Type} {d : Kd α} {fl : α → List Value} (hf : Flat d fl) {e : Nat} {w : World} {base : Nat} {ok : Nat → Prop} {v : Value} {xs : List α} (h : d.R e w base ok v xs) : w.ownsRow base e d.sz v xs.length (xs.flatMap fl) :=
  owns_of_R hf.len (fun h => hf.M h) h
theorem flat_all {α : Type} {fl : α → List Value} (h1 : ∀ x, ∀ u ∈ fl x, u.oneCell' = true) (xs : List α) : ∀ u ∈ xs.flatMap fl, u.oneCell' = true := fun u hu => by
  obtain ⟨x, _, hx⟩ := List.mem_flatMap.1 hu
  exact h1 x u hx
theorem appRow {α : Type} {d : Kd α} {fl : α → List Value} (hf : Flat d fl) {t e bytes : Nat} {z : Value} (ht : Try.prog.underlying t = some (.slice e)) (hinfo : (Try.prog.info? e).map (fun i => (i.zero, i.size, i.bytes)) = some (some z, d.sz, bytes)) (hz : z.cells.size = d.sz) (hb0 : 0 < bytes)
    (W : World) (v : Value) (xs : List α) (h : Rw d e W v xs) (A : Option Addr) (c : Nat) (ys : List α) (hr : Kd.C d W A ys.length ys) (hc : ys.length ≤ c) (hl : (xs.length + ys.length) * bytes ≤ 140737488355328) (ty : TypeId) :
    ∃ B n c' w1, (Builtin.append_ #[t, t] ty #[v, .slice A ys.length c]).run Try.prog W = .ok (.slice B n c') w1 ∧ n = (xs ++ ys).length ∧ Rw d e w1 (.slice B n c') (xs ++ ys) ∧ W.grownBy w1 v.ownBlock ∧ ∀ k ∈ ob (.slice B n c'), k ∈ ob v ∨ W.heap.size ≤ k := by
  obtain ⟨i0, hi, hzz⟩ := Option.map_eq_some_iff.1 hinfo
  simp only [Prod.mk.injEq] at hzz
  obtain ⟨hz0, hz1, hz2⟩ := hzz
  have hown := hf.owns h
  have hlen : xs.length + ys.length ≤ 140737488355328 := Nat.le_trans (Nat.le_mul_of_pos_right _ hb0) hl
  have key : ∃ v1 w1, (Builtin.append_ #[t, t] ty #[v, .slice A ys.length c]).run Try.prog W = .ok v1 w1 ∧ Rw d e w1 v1 (xs ++ ys) ∧ W.grownBy w1 v.ownBlock ∧ ∀ k ∈ ob v1, k ∈ ob v ∨ W.heap.size ≤ k := by
    rcases Nat.eq_zero_or_pos ys.length with h0 | h0
    · obtain rfl : ys = [] := List.eq_nil_of_length_eq_zero h0
      refine ⟨v, W, ?_, by rw [List.append_nil]; exact h, World.grownBy.refl W _, fun k hk => .inl hk⟩
      rcases hown.2 with ⟨rfl, hn⟩ | ⟨g, cap, cur, rfl, _, _, hnc, _⟩
      · cases A <;> simp [Builtin.append_, run_underlying ht, sizeOf, typeInfo, hi, Builtin.lenOf, Builtin.firstCells, storeCells, loadCells, loadCellsFrom]
      · cases A <;> simp [Builtin.append_, run_underlying ht, sizeOf, typeInfo, hi, Builtin.lenOf, Builtin.firstCells, hnc, storeCells, loadCells, loadCellsFrom]
    · obtain ⟨ad, rfl, hcell⟩ := hf.cells hr h0
      obtain ⟨v1, w1, hrun, h2, hg, _, hat⟩ := run_append_own_at (P := Try.prog) W 0 t ty e i0 z d.sz bytes ht hi hz0 hz1 hz2 hz hf.pos v xs.length _ hown ad ys.length c (ys.flatMap fl) (flat_len hf.len ys) hcell (flat_all hf.one ys) (by simp only [maxLen]; omega) hl (Nat.zero_le _)
      have e1 : xs.flatMap fl ++ ys.flatMap fl = (xs ++ ys).flatMap fl := by simp
      rw [e1, ← List.length_append] at h2
      refine ⟨v1, w1, hrun, Rw.of hf.E (hf.R h2), hg, fun k hk => ?_⟩
      have hk2 := mem_ob.1 hk
      rcases hat with q | q
      · exact .inl (mem_ob.2 (hk2.trans q))
      · rw [q] at hk2
        injection hk2 with hk2
        exact .inr (by omega)
  obtain ⟨v1, w1, k1, k2, k3, k4⟩ := key
  obtain ⟨B, c', rfl⟩ := Kd.R_slice k2
  exact ⟨B, _, c', w1, k1, rfl, k2, k3, k4⟩
end Go.Proofs.Ytefnpalkkhhkfaa.PC
namespace Go.Proofs.Ytefnpalkkhhkfaa.PC
open Go.RowKit Go.Proofs.YtefnpalkkhhkfaaW.PrintWords Go.Proofs.YtefnpalkkhhkfaaW.PrintLast Go.Proofs.YtefnpalkkhhkfaaW.PrintMore Go.Proofs.Ytefnpalkkhhkfaa.K Go.Proofs.Ytefnpalkkhhkfaa.IX Go.Proofs.Ytefnpalkkhhkfaa.I
set_option linter.unusedVariables false
set_option linter.unusedSimpArgs false
theorem flat_Op : Flat k49 flO := ⟨flO_len, fun h => k49_open h, fun h => k49_openM h, fun _ _ _ _ => k49_mkM _ _ _ _, fun x u hu => by simp [flO] at hu; rcases hu with rfl | rfl | rfl | rfl | rfl | rfl | rfl <;> rfl, (by decide), rfl⟩
end Go.Proofs.Ytefnpalkkhhkfaa.PC
namespace Go.Proofs.Ytefnpalkkhhkfaa.PC
open Go.RowKit Go.Proofs.YtefnpalkkhhkfaaW.PrintWords Go.Proofs.YtefnpalkkhhkfaaW.PrintLast Go.Proofs.YtefnpalkkhhkfaaW.PrintMore Go.Proofs.Ytefnpalkkhhkfaa.K Go.Proofs.Ytefnpalkkhhkfaa.IX Go.Proofs.Ytefnpalkkhhkfaa.I
attribute [local go_sem] max2_int min2_int max_two min_two max_three min_three max_four min_four
attribute [local go_sem high] eqA24
set_option linter.unusedVariables false
set_option linter.unusedSimpArgs false
def isRef (q : Nat) (L : List S49) : As := fun w F => ∃ v, w.heap[q]? = some (.cells #[v] 59 (0, 0)) ∧ Rw k49 49 w v L ∧ F = q :: ob v
theorem asn_ref (q : Nat) (L : List S49) : Asn (isRef q L) :=
  ⟨fun ⟨v, h1, h2, h3⟩ hk => ⟨v, (hk q (by rw [h3]; simp)).trans h1, h2.keep (fun k m => hk k (by rw [h3]; simp [m])), h3⟩,
   fun ⟨v, h1, h2, h3⟩ k hk => by
    rw [h3, List.mem_cons] at hk
    rcases hk with rfl | hk
    · exact lt_of h1
    · exact h2.lt k hk⟩
theorem ref_read {w : World} {F : List Nat} {q : Nat} {L : List S49} (h : isRef q L w F) : ∃ A c, w.cell? ⟨q, 0, none⟩ = some (.slice A L.length c) ∧ L.length ≤ c ∧ Kd.C k49 w A L.length L := by
  obtain ⟨v, h1, h2, _⟩ := h
  obtain ⟨A, c, rfl, h3, h4⟩ := Kd.R_reads h2
  exact ⟨A, c, (cell_of h1 0).trans rfl, h3, h4⟩
theorem right12_is (o : S49) (w : World) : Calls Try.prog 45 #[opV o] w fun e w' => e = .returned (.bool (decide (rightS o))) ∧ Below w.heap.size w w' := by
  unfold opV
  exact foolscapref12_Right.calls 2 o.f0.f0 o.f0.f1 o.f1 o.f2 o.f3.f0 o.f3.f1 o.f4 _ w (rRight_f 0 _ _ _ _ _ _ _)
set_option maxHeartbeats 4000000 in
set_option maxRecDepth 100000 in
theorem gput_wrong (w : World) (q : Nat) (L : List S49) (o : S49) (A : Option Addr) (c : Nat) (h : PutW w q L o A c) (hr : ¬ rightS o) : Calls Try.prog 28 #[.pointer (some ⟨q, 0, none⟩), opV o] w fun e w' => e = .returned (.tuple #[.bool false, .int .i64 1]) ∧ Below w.heap.size w w' := by
  have K1 := right12_is o
  rw [decide_eq_false hr] at K1
  have HK := Lib.hid K1
  have hr2 := trivial
  obtain ⟨kn, kc, hkn⟩ : ∃ kn kc, knownR L o.f0.f1 = (kn, kc) := ⟨_, _, rfl⟩
  have K2 := Lib.hid (fun W (hb : Below w.heap.size w W) => known_calls W q L A c o.f0.f1 ((hb.cell (World.block_lt_of_cell? w _ h.cell)).trans h.cell) (Kd.C_below h.row hb) h.cap h.len)
  have K3 := Lib.hid (fun W (hb : Below w.heap.size w W) => ghas_calls W q L A c o.f3 ((hb.cell (World.block_lt_of_cell? w _ h.cell)).trans h.cell) (Kd.C_below h.row hb) h.cap h.len)
  rw [hkn] at K2 
  obtain ⟨hs, hhs⟩ : ∃ hs, hasR L o.f3 = hs := ⟨_, rfl⟩
  rw [hhs] at K3 
  obtain ⟨⟨o0, o1⟩, o2, o3, ⟨o4, o5⟩, o6⟩ := o
  unfold opV at *
  obtain ⟨W1, hW1⟩ : ∃ W1, w.alloc (.cells #[.int .i64 o0, .int .i64 o1, .int .i64 o2, .bool o3, .int .i64 o4, .int .i64 o5, .int .i32 o6] 49) = W1 := ⟨_, rfl⟩
  have hb : Below w.heap.size w W1 := by rw [← hW1]; exact (Below.refl _ w).alloc (Nat.le_refl _) _
  have hnew : W1.heap[w.heap.size]? = some (.cells #[.int .i64 o0, .int .i64 o1, .int .i64 o2, .bool o3, .int .i64 o4, .int .i64 o5, .int .i32 o6] 49 (0, 0)) := by rw [← hW1]; exact heap_new w _
  have HB := Lib.hid hb
  have HO : Aside0 (∀ W, Below W1.heap.size W1 W → W.cell? ⟨w.heap.size, 0, none⟩ = some (.int .i64 o0) ∧ W.cell? ⟨w.heap.size, 1, none⟩ = some (.int .i64 o1) ∧ W.cell? ⟨w.heap.size, 2, none⟩ = some (.int .i64 o2) ∧ W.cell? ⟨w.heap.size, 4, none⟩ = some (.int .i64 o4) ∧ W.cell? ⟨w.heap.size, 5, none⟩ = some (.int .i64 o5)) :=
    ⟨fun W hb2 => ⟨(hb2.cell (lt_of hnew)).trans ((cell_of hnew 0).trans rfl), (hb2.cell (lt_of hnew)).trans ((cell_of hnew 1).trans rfl), (hb2.cell (lt_of hnew)).trans ((cell_of hnew 2).trans rfl), (hb2.cell (lt_of hnew)).trans ((cell_of hnew 4).trans rfl), (hb2.cell (lt_of hnew)).trans ((cell_of hnew 5).trans rfl)⟩⟩
  clear h hb K1 hnew hkn hhs hr
  subst hW1
  go_enter Try.func28, Try.ntmps28
  go_wp2_with (first
    | (go_at_call 45; refine (HK.out _).mono ?_; rintro e w2 ⟨rfl, hb⟩; have HB2 := Lib.hid hb; have HBW := Lib.hid (below_step HB.out hb); obtain ⟨s0, s1, s2, s4, s5⟩ := HO.out _ hb; clear hb)
    | (go_at_call 46; refine (K2.out _ HBW.out).mono ?_; rintro e w3 ⟨rfl, rfl⟩)
    | (go_at_call 47; refine (K3.out _ HBW.out).mono ?_; rintro e w4 ⟨rfl, hb⟩; have HB4 := Lib.hid (below_step HB2.out hb); obtain ⟨t0, t1, t2, t4, t5⟩ := HO.out _ HB4.out; clear hb))
  go_ret2
  exact ⟨rfl, HBW.out⟩
set_option maxHeartbeats 4000000 in
set_option maxRecDepth 100000 in
theorem gput_old (w : World) (q : Nat) (L : List S49) (o : S49) (A : Option Addr) (c : Nat) (h : PutW w q L o A c) (hr : rightS o) (h1 : o.f1 ≤ (knownR L o.f0.f1).1) : Calls Try.prog 28 #[.pointer (some ⟨q, 0, none⟩), opV o] w fun e w' => e = .returned (.tuple #[.bool false, .int .i64 0]) ∧ Below w.heap.size w w' := by
  have K1 := right12_is o
  rw [decide_eq_true hr] at K1
  have HK := Lib.hid K1
  have hr2 := (show 1 ≤ o.f1 ∧ o.f1 ≤ 4294967295 from ⟨hr.2.1, hr.2.2.1⟩)
  obtain ⟨kn, kc, hkn⟩ : ∃ kn kc, knownR L o.f0.f1 = (kn, kc) := ⟨_, _, rfl⟩
  have K2 := Lib.hid (fun W (hb : Below w.heap.size w W) => known_calls W q L A c o.f0.f1 ((hb.cell (World.block_lt_of_cell? w _ h.cell)).trans h.cell) (Kd.C_below h.row hb) h.cap h.len)
  have K3 := Lib.hid (fun W (hb : Below w.heap.size w W) => ghas_calls W q L A c o.f3 ((hb.cell (World.block_lt_of_cell? w _ h.cell)).trans h.cell) (Kd.C_below h.row hb) h.cap h.len)
  rw [hkn] at K2 h1
  obtain ⟨hs, hhs⟩ : ∃ hs, hasR L o.f3 = hs := ⟨_, rfl⟩
  rw [hhs] at K3 
  obtain ⟨⟨o0, o1⟩, o2, o3, ⟨o4, o5⟩, o6⟩ := o
  unfold opV at *
  obtain ⟨W1, hW1⟩ : ∃ W1, w.alloc (.cells #[.int .i64 o0, .int .i64 o1, .int .i64 o2, .bool o3, .int .i64 o4, .int .i64 o5, .int .i32 o6] 49) = W1 := ⟨_, rfl⟩
  have hb : Below w.heap.size w W1 := by rw [← hW1]; exact (Below.refl _ w).alloc (Nat.le_refl _) _
  have hnew : W1.heap[w.heap.size]? = some (.cells #[.int .i64 o0, .int .i64 o1, .int .i64 o2, .bool o3, .int .i64 o4, .int .i64 o5, .int .i32 o6] 49 (0, 0)) := by rw [← hW1]; exact heap_new w _
  have HB := Lib.hid hb
  have HO : Aside0 (∀ W, Below W1.heap.size W1 W → W.cell? ⟨w.heap.size, 0, none⟩ = some (.int .i64 o0) ∧ W.cell? ⟨w.heap.size, 1, none⟩ = some (.int .i64 o1) ∧ W.cell? ⟨w.heap.size, 2, none⟩ = some (.int .i64 o2) ∧ W.cell? ⟨w.heap.size, 4, none⟩ = some (.int .i64 o4) ∧ W.cell? ⟨w.heap.size, 5, none⟩ = some (.int .i64 o5)) :=
    ⟨fun W hb2 => ⟨(hb2.cell (lt_of hnew)).trans ((cell_of hnew 0).trans rfl), (hb2.cell (lt_of hnew)).trans ((cell_of hnew 1).trans rfl), (hb2.cell (lt_of hnew)).trans ((cell_of hnew 2).trans rfl), (hb2.cell (lt_of hnew)).trans ((cell_of hnew 4).trans rfl), (hb2.cell (lt_of hnew)).trans ((cell_of hnew 5).trans rfl)⟩⟩
  simp only at hr2 h1
  have hge : o2 ≤ kn := h1
  clear h hb K1 hnew hkn hhs hr
  subst hW1
  go_enter Try.func28, Try.ntmps28
  go_wp2_with (first
    | (go_at_call 45; refine (HK.out _).mono ?_; rintro e w2 ⟨rfl, hb⟩; have HB2 := Lib.hid hb; have HBW := Lib.hid (below_step HB.out hb); obtain ⟨s0, s1, s2, s4, s5⟩ := HO.out _ hb; clear hb)
    | (go_at_call 46; refine (K2.out _ HBW.out).mono ?_; rintro e w3 ⟨rfl, rfl⟩)
    | (go_at_call 47; refine (K3.out _ HBW.out).mono ?_; rintro e w4 ⟨rfl, hb⟩; have HB4 := Lib.hid (below_step HB2.out hb); obtain ⟨t0, t1, t2, t4, t5⟩ := HO.out _ HB4.out; clear hb))
  go_ret2
  exact ⟨rfl, HBW.out⟩
set_option maxHeartbeats 4000000 in
set_option maxRecDepth 100000 in
theorem gput_gap (w : World) (q : Nat) (L : List S49) (o : S49) (A : Option Addr) (c : Nat) (h : PutW w q L o A c) (hr : rightS o) (h1 : ¬ o.f1 ≤ (knownR L o.f0.f1).1) (h2 : (knownR L o.f0.f1).1 ≠ o.f1 - 1) : Calls Try.prog 28 #[.pointer (some ⟨q, 0, none⟩), opV o] w fun e w' => e = .returned (.tuple #[.bool false, .int .i64 6]) ∧ Below w.heap.size w w' := by
  have K1 := right12_is o
  rw [decide_eq_true hr] at K1
  have HK := Lib.hid K1
  have hr2 := (show 1 ≤ o.f1 ∧ o.f1 ≤ 4294967295 from ⟨hr.2.1, hr.2.2.1⟩)
  obtain ⟨kn, kc, hkn⟩ : ∃ kn kc, knownR L o.f0.f1 = (kn, kc) := ⟨_, _, rfl⟩
  have K2 := Lib.hid (fun W (hb : Below w.heap.size w W) => known_calls W q L A c o.f0.f1 ((hb.cell (World.block_lt_of_cell? w _ h.cell)).trans h.cell) (Kd.C_below h.row hb) h.cap h.len)
  have K3 := Lib.hid (fun W (hb : Below w.heap.size w W) => ghas_calls W q L A c o.f3 ((hb.cell (World.block_lt_of_cell? w _ h.cell)).trans h.cell) (Kd.C_below h.row hb) h.cap h.len)
  rw [hkn] at K2 h1 h2
  obtain ⟨hs, hhs⟩ : ∃ hs, hasR L o.f3 = hs := ⟨_, rfl⟩
  rw [hhs] at K3 
  obtain ⟨⟨o0, o1⟩, o2, o3, ⟨o4, o5⟩, o6⟩ := o
  unfold opV at *
  obtain ⟨W1, hW1⟩ : ∃ W1, w.alloc (.cells #[.int .i64 o0, .int .i64 o1, .int .i64 o2, .bool o3, .int .i64 o4, .int .i64 o5, .int .i32 o6] 49) = W1 := ⟨_, rfl⟩
  have hb : Below w.heap.size w W1 := by rw [← hW1]; exact (Below.refl _ w).alloc (Nat.le_refl _) _
  have hnew : W1.heap[w.heap.size]? = some (.cells #[.int .i64 o0, .int .i64 o1, .int .i64 o2, .bool o3, .int .i64 o4, .int .i64 o5, .int .i32 o6] 49 (0, 0)) := by rw [← hW1]; exact heap_new w _
  have HB := Lib.hid hb
  have HO : Aside0 (∀ W, Below W1.heap.size W1 W → W.cell? ⟨w.heap.size, 0, none⟩ = some (.int .i64 o0) ∧ W.cell? ⟨w.heap.size, 1, none⟩ = some (.int .i64 o1) ∧ W.cell? ⟨w.heap.size, 2, none⟩ = some (.int .i64 o2) ∧ W.cell? ⟨w.heap.size, 4, none⟩ = some (.int .i64 o4) ∧ W.cell? ⟨w.heap.size, 5, none⟩ = some (.int .i64 o5)) :=
    ⟨fun W hb2 => ⟨(hb2.cell (lt_of hnew)).trans ((cell_of hnew 0).trans rfl), (hb2.cell (lt_of hnew)).trans ((cell_of hnew 1).trans rfl), (hb2.cell (lt_of hnew)).trans ((cell_of hnew 2).trans rfl), (hb2.cell (lt_of hnew)).trans ((cell_of hnew 4).trans rfl), (hb2.cell (lt_of hnew)).trans ((cell_of hnew 5).trans rfl)⟩⟩
  simp only at hr2 h1 h2
  have hw1 : IntKind.i64.wrap (o2 - 1) = o2 - 1 := by rw [IntKind.wrap_i64]; omega
  have hge : ¬ o2 ≤ kn := h1
  have hq : (kn == o2 - 1) = false := by simpa using h2
  have hq2 : (kn != o2 - 1) = true := by simpa using h2
  clear h hb K1 hnew hkn hhs hr
  subst hW1
  go_enter Try.func28, Try.ntmps28
  go_wp2_with (first
    | (go_at_call 45; refine (HK.out _).mono ?_; rintro e w2 ⟨rfl, hb⟩; have HB2 := Lib.hid hb; have HBW := Lib.hid (below_step HB.out hb); obtain ⟨s0, s1, s2, s4, s5⟩ := HO.out _ hb; clear hb)
    | (go_at_call 46; refine (K2.out _ HBW.out).mono ?_; rintro e w3 ⟨rfl, rfl⟩)
    | (go_at_call 47; refine (K3.out _ HBW.out).mono ?_; rintro e w4 ⟨rfl, hb⟩; have HB4 := Lib.hid (below_step HB2.out hb); obtain ⟨t0, t1, t2, t4, t5⟩ := HO.out _ HB4.out; clear hb))
  go_ret2
  exact ⟨rfl, below_step HB.out HB4.out⟩
set_option maxHeartbeats 4000000 in
set_option maxRecDepth 100000 in
theorem gput_noref (w : World) (q : Nat) (L : List S49) (o : S49) (A : Option Addr) (c : Nat) (h : PutW w q L o A c) (hr : rightS o) (h1 : ¬ o.f1 ≤ (knownR L o.f0.f1).1) (h2 : (knownR L o.f0.f1).1 = o.f1 - 1) (h3 : hasR L o.f3 = false) (h4 : idq o.f3 zid = false) : Calls Try.prog 28 #[.pointer (some ⟨q, 0, none⟩), opV o] w fun e w' => e = .returned (.tuple #[.bool false, .int .i64 6]) ∧ Below w.heap.size w w' := by
  have K1 := right12_is o
  rw [decide_eq_true hr] at K1
  have HK := Lib.hid K1
  have hr2 := (show 1 ≤ o.f1 ∧ o.f1 ≤ 4294967295 from ⟨hr.2.1, hr.2.2.1⟩)
  obtain ⟨kn, kc, hkn⟩ : ∃ kn kc, knownR L o.f0.f1 = (kn, kc) := ⟨_, _, rfl⟩
  have K2 := Lib.hid (fun W (hb : Below w.heap.size w W) => known_calls W q L A c o.f0.f1 ((hb.cell (World.block_lt_of_cell? w _ h.cell)).trans h.cell) (Kd.C_below h.row hb) h.cap h.len)
  have K3 := Lib.hid (fun W (hb : Below w.heap.size w W) => ghas_calls W q L A c o.f3 ((hb.cell (World.block_lt_of_cell? w _ h.cell)).trans h.cell) (Kd.C_below h.row hb) h.cap h.len)
  rw [hkn] at K2 h1 h2
  obtain ⟨hs, hhs⟩ : ∃ hs, hasR L o.f3 = hs := ⟨_, rfl⟩
  rw [hhs] at K3 h3
  obtain ⟨⟨o0, o1⟩, o2, o3, ⟨o4, o5⟩, o6⟩ := o
  unfold opV at *
  obtain ⟨W1, hW1⟩ : ∃ W1, w.alloc (.cells #[.int .i64 o0, .int .i64 o1, .int .i64 o2, .bool o3, .int .i64 o4, .int .i64 o5, .int .i32 o6] 49) = W1 := ⟨_, rfl⟩
  have hb : Below w.heap.size w W1 := by rw [← hW1]; exact (Below.refl _ w).alloc (Nat.le_refl _) _
  have hnew : W1.heap[w.heap.size]? = some (.cells #[.int .i64 o0, .int .i64 o1, .int .i64 o2, .bool o3, .int .i64 o4, .int .i64 o5, .int .i32 o6] 49 (0, 0)) := by rw [← hW1]; exact heap_new w _
  have HB := Lib.hid hb
  have HO : Aside0 (∀ W, Below W1.heap.size W1 W → W.cell? ⟨w.heap.size, 0, none⟩ = some (.int .i64 o0) ∧ W.cell? ⟨w.heap.size, 1, none⟩ = some (.int .i64 o1) ∧ W.cell? ⟨w.heap.size, 2, none⟩ = some (.int .i64 o2) ∧ W.cell? ⟨w.heap.size, 4, none⟩ = some (.int .i64 o4) ∧ W.cell? ⟨w.heap.size, 5, none⟩ = some (.int .i64 o5)) :=
    ⟨fun W hb2 => ⟨(hb2.cell (lt_of hnew)).trans ((cell_of hnew 0).trans rfl), (hb2.cell (lt_of hnew)).trans ((cell_of hnew 1).trans rfl), (hb2.cell (lt_of hnew)).trans ((cell_of hnew 2).trans rfl), (hb2.cell (lt_of hnew)).trans ((cell_of hnew 4).trans rfl), (hb2.cell (lt_of hnew)).trans ((cell_of hnew 5).trans rfl)⟩⟩
  simp only at hr2 h1 h2 h3
  have hw1 : IntKind.i64.wrap (o2 - 1) = o2 - 1 := by rw [IntKind.wrap_i64]; omega
  have hge : ¬ o2 ≤ kn := h1
  have hq : (kn == o2 - 1) = true := by simpa using h2
  have hq2 : (kn != o2 - 1) = false := by simpa using h2
  subst h3
  have hz : (o4 == 0 && o5 == 0) = false := h4
  clear h hb K1 hnew hkn hhs hr h2
  subst hW1
  go_enter Try.func28, Try.ntmps28
  go_wp2_with (first
    | (go_at_call 45; refine (HK.out _).mono ?_; rintro e w2 ⟨rfl, hb⟩; have HB2 := Lib.hid hb; have HBW := Lib.hid (below_step HB.out hb); obtain ⟨s0, s1, s2, s4, s5⟩ := HO.out _ hb; clear hb)
    | (go_at_call 46; refine (K2.out _ HBW.out).mono ?_; rintro e w3 ⟨rfl, rfl⟩)
    | (go_at_call 47; refine (K3.out _ HBW.out).mono ?_; rintro e w4 ⟨rfl, hb⟩; have HB4 := Lib.hid (below_step HB2.out hb); obtain ⟨t0, t1, t2, t4, t5⟩ := HO.out _ HB4.out; clear hb))
  go_ret2
  exact ⟨rfl, below_step HB.out HB4.out⟩
set_option maxHeartbeats 4000000 in
set_option maxRecDepth 100000 in
theorem gput_ctr (w : World) (q : Nat) (L : List S49) (o : S49) (A : Option Addr) (c : Nat) (h : PutW w q L o A c) (hr : rightS o) (h1 : ¬ o.f1 ≤ (knownR L o.f0.f1).1) (h2 : (knownR L o.f0.f1).1 = o.f1 - 1) (h3 : hasR L o.f3 = true) (h5 : o.f0.f0 ≤ (knownR L o.f0.f1).2) : Calls Try.prog 28 #[.pointer (some ⟨q, 0, none⟩), opV o] w fun e w' => e = .returned (.tuple #[.bool false, .int .i64 1]) ∧ Below w.heap.size w w' := by
  have K1 := right12_is o
  rw [decide_eq_true hr] at K1
  have HK := Lib.hid K1
  have hr2 := (show 1 ≤ o.f1 ∧ o.f1 ≤ 4294967295 from ⟨hr.2.1, hr.2.2.1⟩)
  obtain ⟨kn, kc, hkn⟩ : ∃ kn kc, knownR L o.f0.f1 = (kn, kc) := ⟨_, _, rfl⟩
  have K2 := Lib.hid (fun W (hb : Below w.heap.size w W) => known_calls W q L A c o.f0.f1 ((hb.cell (World.block_lt_of_cell? w _ h.cell)).trans h.cell) (Kd.C_below h.row hb) h.cap h.len)
  have K3 := Lib.hid (fun W (hb : Below w.heap.size w W) => ghas_calls W q L A c o.f3 ((hb.cell (World.block_lt_of_cell? w _ h.cell)).trans h.cell) (Kd.C_below h.row hb) h.cap h.len)
  rw [hkn] at K2 h1 h2 h5
  obtain ⟨hs, hhs⟩ : ∃ hs, hasR L o.f3 = hs := ⟨_, rfl⟩
  rw [hhs] at K3 h3
  obtain ⟨⟨o0, o1⟩, o2, o3, ⟨o4, o5⟩, o6⟩ := o
  unfold opV at *
  obtain ⟨W1, hW1⟩ : ∃ W1, w.alloc (.cells #[.int .i64 o0, .int .i64 o1, .int .i64 o2, .bool o3, .int .i64 o4, .int .i64 o5, .int .i32 o6] 49) = W1 := ⟨_, rfl⟩
  have hb : Below w.heap.size w W1 := by rw [← hW1]; exact (Below.refl _ w).alloc (Nat.le_refl _) _
  have hnew : W1.heap[w.heap.size]? = some (.cells #[.int .i64 o0, .int .i64 o1, .int .i64 o2, .bool o3, .int .i64 o4, .int .i64 o5, .int .i32 o6] 49 (0, 0)) := by rw [← hW1]; exact heap_new w _
  have HB := Lib.hid hb
  have HO : Aside0 (∀ W, Below W1.heap.size W1 W → W.cell? ⟨w.heap.size, 0, none⟩ = some (.int .i64 o0) ∧ W.cell? ⟨w.heap.size, 1, none⟩ = some (.int .i64 o1) ∧ W.cell? ⟨w.heap.size, 2, none⟩ = some (.int .i64 o2) ∧ W.cell? ⟨w.heap.size, 4, none⟩ = some (.int .i64 o4) ∧ W.cell? ⟨w.heap.size, 5, none⟩ = some (.int .i64 o5)) :=
    ⟨fun W hb2 => ⟨(hb2.cell (lt_of hnew)).trans ((cell_of hnew 0).trans rfl), (hb2.cell (lt_of hnew)).trans ((cell_of hnew 1).trans rfl), (hb2.cell (lt_of hnew)).trans ((cell_of hnew 2).trans rfl), (hb2.cell (lt_of hnew)).trans ((cell_of hnew 4).trans rfl), (hb2.cell (lt_of hnew)).trans ((cell_of hnew 5).trans rfl)⟩⟩
  simp only at hr2 h1 h2 h3 h5
  have hw1 : IntKind.i64.wrap (o2 - 1) = o2 - 1 := by rw [IntKind.wrap_i64]; omega
  have hge : ¬ o2 ≤ kn := h1
  have hq : (kn == o2 - 1) = true := by simpa using h2
  have hq2 : (kn != o2 - 1) = false := by simpa using h2
  subst h3
  clear h hb K1 hnew hkn hhs hr h2
  subst hW1
  go_enter Try.func28, Try.ntmps28
  go_wp2_with (first
    | (go_at_call 45; refine (HK.out _).mono ?_; rintro e w2 ⟨rfl, hb⟩; have HB2 := Lib.hid hb; have HBW := Lib.hid (below_step HB.out hb); obtain ⟨s0, s1, s2, s4, s5⟩ := HO.out _ hb; clear hb)
    | (go_at_call 46; refine (K2.out _ HBW.out).mono ?_; rintro e w3 ⟨rfl, rfl⟩)
    | (go_at_call 47; refine (K3.out _ HBW.out).mono ?_; rintro e w4 ⟨rfl, hb⟩; have HB4 := Lib.hid (below_step HB2.out hb); obtain ⟨t0, t1, t2, t4, t5⟩ := HO.out _ HB4.out; clear hb))
  go_ret2
  exact ⟨rfl, below_step HB.out HB4.out⟩
set_option maxHeartbeats 4000000 in
set_option maxRecDepth 100000 in
theorem gput_ctr0 (w : World) (q : Nat) (L : List S49) (o : S49) (A : Option Addr) (c : Nat) (h : PutW w q L o A c) (hr : rightS o) (h1 : ¬ o.f1 ≤ (knownR L o.f0.f1).1) (h2 : (knownR L o.f0.f1).1 = o.f1 - 1) (h3 : hasR L o.f3 = false) (h4 : idq o.f3 zid = true) (h5 : o.f0.f0 ≤ (knownR L o.f0.f1).2) : Calls Try.prog 28 #[.pointer (some ⟨q, 0, none⟩), opV o] w fun e w' => e = .returned (.tuple #[.bool false, .int .i64 1]) ∧ Below w.heap.size w w' := by
  have K1 := right12_is o
  rw [decide_eq_true hr] at K1
  have HK := Lib.hid K1
  have hr2 := (show 1 ≤ o.f1 ∧ o.f1 ≤ 4294967295 from ⟨hr.2.1, hr.2.2.1⟩)
  obtain ⟨kn, kc, hkn⟩ : ∃ kn kc, knownR L o.f0.f1 = (kn, kc) := ⟨_, _, rfl⟩
  have K2 := Lib.hid (fun W (hb : Below w.heap.size w W) => known_calls W q L A c o.f0.f1 ((hb.cell (World.block_lt_of_cell? w _ h.cell)).trans h.cell) (Kd.C_below h.row hb) h.cap h.len)
  have K3 := Lib.hid (fun W (hb : Below w.heap.size w W) => ghas_calls W q L A c o.f3 ((hb.cell (World.block_lt_of_cell? w _ h.cell)).trans h.cell) (Kd.C_below h.row hb) h.cap h.len)
  rw [hkn] at K2 h1 h2 h5
  obtain ⟨hs, hhs⟩ : ∃ hs, hasR L o.f3 = hs := ⟨_, rfl⟩
  rw [hhs] at K3 h3
  obtain ⟨⟨o0, o1⟩, o2, o3, ⟨o4, o5⟩, o6⟩ := o
  unfold opV at *
  obtain ⟨W1, hW1⟩ : ∃ W1, w.alloc (.cells #[.int .i64 o0, .int .i64 o1, .int .i64 o2, .bool o3, .int .i64 o4, .int .i64 o5, .int .i32 o6] 49) = W1 := ⟨_, rfl⟩
  have hb : Below w.heap.size w W1 := by rw [← hW1]; exact (Below.refl _ w).alloc (Nat.le_refl _) _
  have hnew : W1.heap[w.heap.size]? = some (.cells #[.int .i64 o0, .int .i64 o1, .int .i64 o2, .bool o3, .int .i64 o4, .int .i64 o5, .int .i32 o6] 49 (0, 0)) := by rw [← hW1]; exact heap_new w _
  have HB := Lib.hid hb
  have HO : Aside0 (∀ W, Below W1.heap.size W1 W → W.cell? ⟨w.heap.size, 0, none⟩ = some (.int .i64 o0) ∧ W.cell? ⟨w.heap.size, 1, none⟩ = some (.int .i64 o1) ∧ W.cell? ⟨w.heap.size, 2, none⟩ = some (.int .i64 o2) ∧ W.cell? ⟨w.heap.size, 4, none⟩ = some (.int .i64 o4) ∧ W.cell? ⟨w.heap.size, 5, none⟩ = some (.int .i64 o5)) :=
    ⟨fun W hb2 => ⟨(hb2.cell (lt_of hnew)).trans ((cell_of hnew 0).trans rfl), (hb2.cell (lt_of hnew)).trans ((cell_of hnew 1).trans rfl), (hb2.cell (lt_of hnew)).trans ((cell_of hnew 2).trans rfl), (hb2.cell (lt_of hnew)).trans ((cell_of hnew 4).trans rfl), (hb2.cell (lt_of hnew)).trans ((cell_of hnew 5).trans rfl)⟩⟩
  simp only at hr2 h1 h2 h3 h5
  have hw1 : IntKind.i64.wrap (o2 - 1) = o2 - 1 := by rw [IntKind.wrap_i64]; omega
  have hge : ¬ o2 ≤ kn := h1
  have hq : (kn == o2 - 1) = true := by simpa using h2
  have hq2 : (kn != o2 - 1) = false := by simpa using h2
  subst h3
  have hz : (o4 == 0 && o5 == 0) = true := h4
  clear h hb K1 hnew hkn hhs hr h2
  subst hW1
  go_enter Try.func28, Try.ntmps28
  go_wp2_with (first
    | (go_at_call 45; refine (HK.out _).mono ?_; rintro e w2 ⟨rfl, hb⟩; have HB2 := Lib.hid hb; have HBW := Lib.hid (below_step HB.out hb); obtain ⟨s0, s1, s2, s4, s5⟩ := HO.out _ hb; clear hb)
    | (go_at_call 46; refine (K2.out _ HBW.out).mono ?_; rintro e w3 ⟨rfl, rfl⟩)
    | (go_at_call 47; refine (K3.out _ HBW.out).mono ?_; rintro e w4 ⟨rfl, hb⟩; have HB4 := Lib.hid (below_step HB2.out hb); obtain ⟨t0, t1, t2, t4, t5⟩ := HO.out _ HB4.out; clear hb))
  go_ret2
  exact ⟨rfl, below_step HB.out HB4.out⟩
end Go.Proofs.Ytefnpalkkhhkfaa.PC
namespace Go.Proofs.Ytefnpalkkhhkfaa.PC
open Go.RowKit Go.Proofs.YtefnpalkkhhkfaaW.PrintWords Go.Proofs.YtefnpalkkhhkfaaW.PrintLast Go.Proofs.YtefnpalkkhhkfaaW.PrintMore Go.Proofs.Ytefnpalkkhhkfaa.K Go.Proofs.Ytefnpalkkhhkfaa.IX Go.Proofs.Ytefnpalkkhhkfaa.I
set_option linter.unusedVariables false
set_option linter.unusedSimpArgs false
theorem lit0 (e : Nat) (W : World) : Kd.R k49 e (W.alloc (.cells #[] e)) W.heap.size (fun _ => True) (.slice (some ⟨W.heap.size, 0, none⟩) 0 0) [] := by
  have h := World.ownsRow_lit (base := W.heap.size) (e := e) (size := k49.sz) W #[] 0 (Nat.le_refl _) (by unfold maxLen; omega) (by simp)
  have h2 : (W.alloc (.cells #[] e)).ownsRow W.heap.size e k49.sz (.slice (some ⟨W.heap.size, 0, none⟩) 0 0) ([] : List S49).length (([] : List S49).flatMap flO) := by simpa using h
  exact flat_Op.R h2
theorem below_grown {W0 W w1 : World} {row : Option Nat} (h : Below W0.heap.size W0 W) (hg : W.grownBy w1 row) (hr : ∀ g, row = some g → W0.heap.size ≤ g) : Below W0.heap.size W0 w1 := by
  have hf : Fr row.toList W w1 := Fr.of_grown hg (fun g hg2 => by rw [hg2]; simp)
  refine hf.below h fun x hx => ?_
  cases row with
  | none => cases hx
  | some g => rw [Option.toList_some, List.mem_singleton] at hx; rw [hx]; exact hr g rfl
/-- The first append: a new row with all of L. -/
theorem app1_fact {W0 W : World} {A : Option Addr} {c e1 : Nat} {L : List S49} (hr : Kd.C k49 W0 A L.length L) (hc : L.length ≤ c) (hl : L.length ≤ 1000000) (hb : Below W0.heap.size W0 W) (he : W0.heap.size ≤ e1) (h1 : Rw k49 49 W (.slice (some ⟨e1, 0, none⟩) 0 0) []) :
    ∃ B n c' w6, (Builtin.append_ #[22, 22] 22 #[.slice (some ⟨e1, 0, none⟩) 0 0, .slice A L.length c]).run Try.prog W = .ok (.slice B n c') w6 ∧ Rw k49 49 w6 (.slice B n c') L ∧ Below W0.heap.size W0 w6 ∧ (∀ k ∈ ob (.slice B n c'), W0.heap.size ≤ k) ∧ (∀ k, k < W.heap.size → k ≠ e1 → w6.heap[k]? = W.heap[k]?) ∧ W.heap.size ≤ w6.heap.size := by
  obtain ⟨B, n, c', w6, k1, k2, k3, k4, k5⟩ := appRow flat_Op (t := 22) (e := 49) (bytes := 56) Try.underlying22 info49 rfl (by decide) W _ [] h1 A c L (Kd.C_below hr hb) hc (by simp only [List.length_nil]; omega) 22
  rw [List.nil_append] at k3
  refine ⟨B, n, c', w6, k1, k3, below_grown hb k4 (fun g hg => by simp only [Value.ownBlock, Option.some.injEq] at hg; omega), fun k hk => ?_, fun k hk hn => k4.block k hk (fun e => hn (by simp only [Value.ownBlock, Option.some.injEq] at e; exact e)), k4.size⟩
  rcases k5 k hk with q | q
  · have := mem_ob.1 q
    simp only [Value.ownBlock, Option.some.injEq] at this
    omega
  · have := hb.size; omega
/-- The second: the operation behind them. -/
theorem app2_fact {W0 W : World} {v6 : Value} {vb : Nat} {L : List S49} {o : S49} (hl : L.length ≤ 1000000) (hb : Below W0.heap.size W0 W) (h6 : Rw k49 49 W v6 L) (ho : ∀ k ∈ ob v6, W0.heap.size ≤ k) (hv : W.heap[vb]? = some (opCells o)) :
    ∃ B n c' w9, (Builtin.append_ #[22, 22] 22 #[v6, .slice (some ⟨vb, 0, none⟩) 1 1]).run Try.prog W = .ok (.slice B n c') w9 ∧ Rw k49 49 w9 (.slice B n c') (L ++ [o]) ∧ Below W0.heap.size W0 w9 ∧ ∀ k ∈ ob (.slice B n c'), W0.heap.size ≤ k := by
  obtain ⟨v', w', k1, k2, k3, k4⟩ := app_op W v6 L vb o h6 hv hl 22
  obtain ⟨B, c', rfl⟩ := Kd.R_slice k2
  refine ⟨B, _, c', w', k1, k2, below_grown hb k3 (fun g hg => ho g (mem_ob.2 hg.symm)), fun k hk => ?_⟩
  rcases k4 k hk with q | q
  · exact ho k q
  · have := hb.size; omega
def RefFin (w : World) (F : List Nat) (q : Nat) (L : List S49) (w' : World) : Prop := ∃ F', isRef q L w' F' ∧ Fr F w w' ∧ ∀ k ∈ F', k ∈ F ∨ w.heap.size ≤ k
/-- Behind the store. -/
theorem ref_store {w W0 w9 : World} {F : List Nat} {q : Nat} {L L' : List S49} {B : Option Addr} {n c' : Nat} (h : isRef q L w F) (h0 : Below w.heap.size w W0) (h9 : Below W0.heap.size W0 w9) (hr : Rw k49 49 w9 (.slice B n c') L') (ho : ∀ k ∈ ob (.slice B n c'), W0.heap.size ≤ k) : RefFin w F q L' (w9.setCell ⟨q, 0, none⟩ (.slice B n c')) := by
  obtain ⟨v, h1, h2, rfl⟩ := h
  have hq := lt_of h1
  have hs := h0.size
  have hb := below_step h0 h9
  have hq9 : w9.heap[q]? = some (.cells #[v] 59 (0, 0)) := (hb.block q hq).trans h1
  refine ⟨q :: ob (.slice B n c'), ⟨_, (heap_set w9 q 0 _ hq9).trans rfl, hr.keep fun k hk => heap_far _ ⟨q, 0, none⟩ _ (fun e => by have e : k = q := e; have := ho k hk; omega), rfl⟩, ?_, fun k hk => ?_⟩
  · exact (Fr.of_below (F := q :: ob v) hb).trans (Fr.of_set (F := q :: ob v) w9 ⟨q, 0, none⟩ _ (by simp)) (fun _ h => .inl h)
  · rcases List.mem_cons.1 hk with rfl | hk
    · exact .inl (by simp)
    · have := ho k hk
      exact .inr (by omega)
end Go.Proofs.Ytefnpalkkhhkfaa.PC
namespace Go.Proofs.Ytefnpalkkhhkfaa.K
open Go
set_option linter.unusedVariables false
section
variable {P : Program} {ops : Array Oper} {Q : Exit → Act → World → Prop} {md : Region.Mode} {S : World → Prop} {z : Nat}
theorem twoZ {i j fuel : Nat} {oi oj : Oper} {ri rj : List Oper} {listed : Array Bool} {a : Act} {w : World} (hd : ops.toList.drop i = oi :: ri) (hd2 : ops.toList.drop j = oj :: rj) (hr : Region.ready md ops listed = [i, j]) (hg : oi.guard = none) (hg2 : oj.guard = none)
    (h : ∀ K : Act → World → Prop, (∀ a' w', S w' → ZG P md ops Q S z fuel (listed.setIfInBounds i true) a' w' → K a' w') → Oper.wp P oi a w K Q)
    (h2 : ∀ K : Act → World → Prop, (∀ a' w', S w' → ZG P md ops Q S z fuel (listed.setIfInBounds j true) a' w' → K a' w') → Oper.wp P oj a w K Q) : ZG P md ops Q S z (fuel + 1) listed a w := fun inv => by
  have hi := drop_get hd
  have hj := drop_get hd2
  have hri : i ∈ Region.ready md ops listed := by rw [hr]; simp
  have hrj : j ∈ Region.ready md ops listed := by rw [hr]; simp
  refine ⟨fun h => (by rw [hr] at h; cases h), fun k hk => ?_⟩
  rw [hr] at hk
  rcases List.mem_cons.1 hk with rfl | hk
  · unfold wpOp
    simp only [hi]
    have hw : Region.wanted oi (yielded ops a.tmps) = true := by simp [Region.wanted, hg]
    rw [if_pos hw]
    exact .inl (h _ fun a' w' h1 h2 => ⟨fun _ => h1, h2 (inv.set hri (Array.getElem?_eq_some_iff.1 hi).1)⟩)
  · obtain rfl : k = j := by simpa using hk
    unfold wpOp
    simp only [hj]
    have hw : Region.wanted oj (yielded ops a.tmps) = true := by simp [Region.wanted, hg2]
    rw [if_pos hw]
    exact .inl (h2 _ fun a' w' h1 h2 => ⟨fun _ => h1, h2 (inv.set hrj (Array.getElem?_eq_some_iff.1 hj).1)⟩)
end
end Go.Proofs.Ytefnpalkkhhkfaa.K
namespace Go.Proofs.Ytefnpalkkhhkfaa.PC
open Go.RowKit Go.Proofs.YtefnpalkkhhkfaaW.PrintWords Go.Proofs.YtefnpalkkhhkfaaW.PrintLast Go.Proofs.YtefnpalkkhhkfaaW.PrintMore Go.Proofs.Ytefnpalkkhhkfaa.K Go.Proofs.Ytefnpalkkhhkfaa.IX Go.Proofs.Ytefnpalkkhhkfaa.I
attribute [local go_sem] max2_int min2_int max_two min_two max_three min_three max_four min_four
attribute [local go_sem high] eqA24
set_option linter.unusedVariables false
set_option linter.unusedSimpArgs false
set_option maxHeartbeats 4000000 in
set_option maxRecDepth 100000 in
theorem gput_take (w : World) (q : Nat) (L : List S49) (o : S49) (F : List Nat) (hi : isRef q L w F) (hl : L.length ≤ 100000) (hr : rightS o) (h1 : ¬ o.f1 ≤ (knownR L o.f0.f1).1) (h2 : (knownR L o.f0.f1).1 = o.f1 - 1) (h3 : hasR L o.f3 = true) (h5 : ¬ o.f0.f0 ≤ (knownR L o.f0.f1).2) : Calls Try.prog 28 #[.pointer (some ⟨q, 0, none⟩), opV o] w fun e w' => e = .returned (.tuple #[.bool true, .int .i64 0]) ∧ RefFin w F q (L ++ [o]) w' := by
  obtain ⟨A, c, hcell, hcap, hrow⟩ := ref_read hi
  have h : PutW w q L o A c := ⟨hcell, hcap, hrow, by omega⟩
  have HISR := Lib.hid hi
  have HROW := Lib.hid (And.intro hcell (And.intro hcap hrow))
  have HLL := Lib.hid hl
  have K1 := right12_is o
  rw [decide_eq_true hr] at K1
  have HK := Lib.hid K1
  have hr2 := (show 1 ≤ o.f1 ∧ o.f1 ≤ 4294967295 from ⟨hr.2.1, hr.2.2.1⟩)
  obtain ⟨kn, kc, hkn⟩ : ∃ kn kc, knownR L o.f0.f1 = (kn, kc) := ⟨_, _, rfl⟩
  have K2 := Lib.hid (fun W (hb : Below w.heap.size w W) => known_calls W q L A c o.f0.f1 ((hb.cell (World.block_lt_of_cell? w _ h.cell)).trans h.cell) (Kd.C_below h.row hb) h.cap h.len)
  have K3 := Lib.hid (fun W (hb : Below w.heap.size w W) => ghas_calls W q L A c o.f3 ((hb.cell (World.block_lt_of_cell? w _ h.cell)).trans h.cell) (Kd.C_below h.row hb) h.cap h.len)
  rw [hkn] at K2 h1 h2 h5
  obtain ⟨hs, hhs⟩ : ∃ hs, hasR L o.f3 = hs := ⟨_, rfl⟩
  rw [hhs] at K3 h3
  obtain ⟨⟨o0, o1⟩, o2, o3, ⟨o4, o5⟩, o6⟩ := o
  unfold opV at *
  obtain ⟨W1, hW1⟩ : ∃ W1, w.alloc (.cells #[.int .i64 o0, .int .i64 o1, .int .i64 o2, .bool o3, .int .i64 o4, .int .i64 o5, .int .i32 o6] 49) = W1 := ⟨_, rfl⟩
  have hb : Below w.heap.size w W1 := by rw [← hW1]; exact (Below.refl _ w).alloc (Nat.le_refl _) _
  have hnew : W1.heap[w.heap.size]? = some (.cells #[.int .i64 o0, .int .i64 o1, .int .i64 o2, .bool o3, .int .i64 o4, .int .i64 o5, .int .i32 o6] 49 (0, 0)) := by rw [← hW1]; exact heap_new w _
  have HB := Lib.hid hb
  have HO : Aside0 (∀ W, Below W1.heap.size W1 W → W.cell? ⟨w.heap.size, 0, none⟩ = some (.int .i64 o0) ∧ W.cell? ⟨w.heap.size, 1, none⟩ = some (.int .i64 o1) ∧ W.cell? ⟨w.heap.size, 2, none⟩ = some (.int .i64 o2) ∧ W.cell? ⟨w.heap.size, 4, none⟩ = some (.int .i64 o4) ∧ W.cell? ⟨w.heap.size, 5, none⟩ = some (.int .i64 o5)) :=
    ⟨fun W hb2 => ⟨(hb2.cell (lt_of hnew)).trans ((cell_of hnew 0).trans rfl), (hb2.cell (lt_of hnew)).trans ((cell_of hnew 1).trans rfl), (hb2.cell (lt_of hnew)).trans ((cell_of hnew 2).trans rfl), (hb2.cell (lt_of hnew)).trans ((cell_of hnew 4).trans rfl), (hb2.cell (lt_of hnew)).trans ((cell_of hnew 5).trans rfl)⟩⟩
  simp only at hr2 h1 h2 h3 h5
  have hw1 : IntKind.i64.wrap (o2 - 1) = o2 - 1 := by rw [IntKind.wrap_i64]; omega
  have hge : ¬ o2 ≤ kn := h1
  have hq : (kn == o2 - 1) = true := by simpa using h2
  have hq2 : (kn != o2 - 1) = false := by simpa using h2
  subst h3
  clear h hb K1 hkn hhs hr h2 hcell hcap hrow hi hl
  have HBLK : Aside0 (∀ W, Below W1.heap.size W1 W → W.heap[w.heap.size]? = some (opCells ⟨⟨o0, o1⟩, o2, o3, ⟨o4, o5⟩, o6⟩)) := ⟨fun W hb2 => (hb2.block _ (lt_of hnew)).trans hnew⟩
  clear hnew
  subst hW1
  go_enter Try.func28, Try.ntmps28
  go_wp2_with (first
    | (go_at_call 45; refine (HK.out _).mono ?_; rintro e w2 ⟨rfl, hb⟩; have HB2 := Lib.hid hb; have HBW := Lib.hid (below_step HB.out hb); obtain ⟨s0, s1, s2, s4, s5⟩ := HO.out _ hb; clear hb)
    | (go_at_call 46; refine (K2.out _ HBW.out).mono ?_; rintro e w3 ⟨rfl, rfl⟩)
    | (go_at_call 47; refine (K3.out _ HBW.out).mono ?_; rintro e w4 ⟨rfl, hb⟩; have HB4 := Lib.hid (below_step HB2.out hb); obtain ⟨t0, t1, t2, t4, t5⟩ := HO.out _ HB4.out; clear hb))
  have HW0 := Lib.hid (below_step HB.out HB4.out)
  have HZG := Lib.hid (fun W (hb : Below w4.heap.size w4 W) => show (W.cell? ⟨w.heap.size, 0, none⟩ = some (.int .i64 o0) ∧ W.cell? ⟨w.heap.size, 1, none⟩ = some (.int .i64 o1) ∧ W.cell? ⟨w.heap.size, 2, none⟩ = some (.int .i64 o2) ∧ W.cell? ⟨w.heap.size, 3, none⟩ = some (.bool o3) ∧ W.cell? ⟨w.heap.size, 4, none⟩ = some (.int .i64 o4) ∧ W.cell? ⟨w.heap.size, 5, none⟩ = some (.int .i64 o5) ∧ W.cell? ⟨w.heap.size, 6, none⟩ = some (.int .i32 o6)) ∧ W.cell? ⟨q, 0, none⟩ = some (.slice A L.length c) from by
    have hk := HBLK.out W (below_step HB4.out hb)
    exact ⟨⟨(cell_of hk 0).trans rfl, (cell_of hk 1).trans rfl, (cell_of hk 2).trans rfl, (cell_of hk 3).trans rfl, (cell_of hk 4).trans rfl, (cell_of hk 5).trans rfl, (cell_of hk 6).trans rfl⟩, ((below_step HW0.out hb).cell (World.block_lt_of_cell? w _ HROW.out.1)).trans HROW.out.1⟩)
  have HRW := Lib.hid (Kd.C_below HROW.out.2.2 HW0.out)
  have hqc : ∀ W, Below w4.heap.size w4 W → W.cell? ⟨q, 0, none⟩ = some (.slice A L.length c) ∧ W.frozen? ⟨q, 0, none⟩ = false := fun W hb => by
    obtain ⟨v, x1, x2, x3⟩ := HISR.out
    have hq := ((below_step HW0.out hb).block q (lt_of x1)).trans x1
    exact ⟨(HZG.out W hb).2, free_of hq 0⟩
  have HQC := Lib.hid hqc
  have bE : Below w4.heap.size w4 ((w4.alloc (.cells #[] 49)).drew) := ((Below.refl _ w4).alloc (Nat.le_refl _) _).drew
  have bO : Below w4.heap.size w4 ((w4.alloc (.cells #[.int .i64 o0, .int .i64 o1, .int .i64 o2, .bool o3, .int .i64 o4, .int .i64 o5, .int .i32 o6] 49)).drew) := ((Below.refl _ w4).alloc (Nat.le_refl _) _).drew
  have bEO : Below w4.heap.size w4 (((w4.alloc (.cells #[] 49)).alloc (.cells #[.int .i64 o0, .int .i64 o1, .int .i64 o2, .bool o3, .int .i64 o4, .int .i64 o5, .int .i32 o6] 49)).drew) := (((Below.refl _ w4).alloc (Nat.le_refl _) _).alloc (by rw [alloc_sz]; omega) _).drew
  have bOE : Below w4.heap.size w4 (((w4.alloc (.cells #[.int .i64 o0, .int .i64 o1, .int .i64 o2, .bool o3, .int .i64 o4, .int .i64 o5, .int .i32 o6] 49)).alloc (.cells #[] 49)).drew) := (((Below.refl _ w4).alloc (Nat.le_refl _) _).alloc (by rw [alloc_sz]; omega) _).drew
  have HE := Lib.hid bE
  have HO2 := Lib.hid bO
  have HEO := Lib.hid bEO
  have HOE := Lib.hid bOE
  -- the empty literal first, then the row, then the operation
  obtain ⟨B1, n1, d1, x6, e6, r6, b6, o6', k6, z6⟩ := app1_fact HRW.out HROW.out.2.1 (by have := HLL.out; omega) bE (Nat.le_refl _) (Rw.of rfl (lit0 49 w4))
  have b68 : Below w4.heap.size w4 (x6.alloc (.cells #[.int .i64 o0, .int .i64 o1, .int .i64 o2, .bool o3, .int .i64 o4, .int .i64 o5, .int .i32 o6] 49)) := b6.alloc b6.size _
  obtain ⟨B2, n2, d2, x9, e9, r9, b9, o9⟩ := app2_fact (o := ⟨⟨o0, o1⟩, o2, o3, ⟨o4, o5⟩, o6⟩) (by have := HLL.out; omega) b68 (r6.keep fun k hk => heap_old _ _ (r6.lt k hk)) o6' (heap_new x6 _)
  -- both literals, then the row
  have rEO : Rw k49 49 (((w4.alloc (.cells #[] 49)).alloc (.cells #[.int .i64 o0, .int .i64 o1, .int .i64 o2, .bool o3, .int .i64 o4, .int .i64 o5, .int .i32 o6] 49)).drew) (.slice (some ⟨w4.heap.size, 0, none⟩) 0 0) [] := (Rw.of rfl (lit0 49 w4)).keep fun k hk => heap_old _ _ (by rw [alloc_sz]; have := mem_ob.1 hk; simp only [Value.ownBlock, Option.some.injEq] at this; omega)
  obtain ⟨B3, n3, d3, y6, f6, s6, c6, p6, l6, m6⟩ := app1_fact HRW.out HROW.out.2.1 (by have := HLL.out; omega) bEO (Nat.le_refl _) rEO
  have vEO : y6.heap[w4.heap.size + 1]? = some (opCells ⟨⟨o0, o1⟩, o2, o3, ⟨o4, o5⟩, o6⟩) := (l6 _ (show w4.heap.size + 1 < ((w4.alloc (.cells #[] 49)).alloc (.cells #[.int .i64 o0, .int .i64 o1, .int .i64 o2, .bool o3, .int .i64 o4, .int .i64 o5, .int .i32 o6] 49)).heap.size by rw [alloc_sz, alloc_sz]; omega) (show w4.heap.size + 1 ≠ w4.heap.size by omega)).trans (by
    have := heap_new (w4.alloc (.cells #[] 49)) (.cells #[.int .i64 o0, .int .i64 o1, .int .i64 o2, .bool o3, .int .i64 o4, .int .i64 o5, .int .i32 o6] 49)
    rw [alloc_sz] at this
    exact this)
  obtain ⟨B4, n4, d4, y9, f9, s9, c9, p9⟩ := app2_fact (o := ⟨⟨o0, o1⟩, o2, o3, ⟨o4, o5⟩, o6⟩) (by have := HLL.out; omega) c6 s6 p6 vEO
  -- the operation's literal first
  have rOE : Rw k49 49 (((w4.alloc (.cells #[.int .i64 o0, .int .i64 o1, .int .i64 o2, .bool o3, .int .i64 o4, .int .i64 o5, .int .i32 o6] 49)).alloc (.cells #[] 49)).drew) (.slice (some ⟨w4.heap.size + 1, 0, none⟩) 0 0) [] := by
    have := Rw.of rfl (lit0 49 (w4.alloc (.cells #[.int .i64 o0, .int .i64 o1, .int .i64 o2, .bool o3, .int .i64 o4, .int .i64 o5, .int .i32 o6] 49)))
    rw [alloc_sz] at this
    exact this
  obtain ⟨B5, n5, d5, z6', g6, t6, q6, u6, v6', w6'⟩ := app1_fact HRW.out HROW.out.2.1 (by have := HLL.out; omega) bOE (show w4.heap.size ≤ w4.heap.size + 1 by omega) rOE
  have vOE : z6'.heap[w4.heap.size]? = some (opCells ⟨⟨o0, o1⟩, o2, o3, ⟨o4, o5⟩, o6⟩) := (v6' _ (show w4.heap.size < ((w4.alloc (.cells #[.int .i64 o0, .int .i64 o1, .int .i64 o2, .bool o3, .int .i64 o4, .int .i64 o5, .int .i32 o6] 49)).alloc (.cells #[] 49)).heap.size by rw [alloc_sz, alloc_sz]; omega) (by omega)).trans ((heap_old _ _ (by rw [alloc_sz]; omega)).trans (heap_new w4 _))
  obtain ⟨B7, n7, d7, z9, g9, t9, q9, u9⟩ := app2_fact (o := ⟨⟨o0, o1⟩, o2, o3, ⟨o4, o5⟩, o6⟩) (by have := HLL.out; omega) q6 t6 u6 vOE
  have PA := Lib.hid (And.intro e6 (And.intro e9 (And.intro b6 (And.intro b68 (And.intro b9 (And.intro r9 o9))))))
  have PB := Lib.hid (And.intro f6 (And.intro f9 (And.intro c6 (And.intro c9 (And.intro s9 p9)))))
  have PC' := Lib.hid (And.intro g6 (And.intro g9 (And.intro q6 (And.intro q9 (And.intro t9 u9)))))
  have QA := hqc x9 b9
  have QB := hqc y9 c9
  have QC := hqc z9 q9
  obtain ⟨qa1, qa2⟩ := QA
  obtain ⟨qb1, qb2⟩ := QB
  obtain ⟨qc1, qc2⟩ := QC
  clear hqc bE bO bEO bOE e6 r6 b6 o6' k6 z6 b68 e9 r9 b9 o9 rEO f6 s6 c6 p6 l6 m6 vEO f9 s9 c9 p9 rOE g6 t6 q6 u6 v6' w6' vOE g9 t9 q9 u9
  refine startZ (z := 9) (S := (fun W => (W.cell? ⟨w.heap.size, 0, none⟩ = some (.int .i64 o0) ∧ W.cell? ⟨w.heap.size, 1, none⟩ = some (.int .i64 o1) ∧ W.cell? ⟨w.heap.size, 2, none⟩ = some (.int .i64 o2) ∧ W.cell? ⟨w.heap.size, 3, none⟩ = some (.bool o3) ∧ W.cell? ⟨w.heap.size, 4, none⟩ = some (.int .i64 o4) ∧ W.cell? ⟨w.heap.size, 5, none⟩ = some (.int .i64 o5) ∧ W.cell? ⟨w.heap.size, 6, none⟩ = some (.int .i32 o6)) ∧ W.cell? ⟨q, 0, none⟩ = some (.slice A L.length c))) (by kernel_rfl) ?_
  show ZG _ _ _ _ _ _ 13 _ _ _
  refine takeW (i := 0) (v := ?_) rfl (by kernel_rfl) (by kernel_rfl) (by kernel_rfl) (by decide) (fun _ _ _ h => h) rfl (by exact HZG.out _ (Below.refl _ _).drew) ?_ ?_
  rotate_left
  · intro wq; go_simp; try (with_reducible rfl)
  try simp only [Act.put, List.setIfInBounds_toArray, List.set_cons_zero, List.set_cons_succ]
  refine takeW (i := 2) (v := ?_) rfl (by kernel_rfl) (by kernel_rfl) (by kernel_rfl) (by decide) (fun _ _ _ h => h) rfl (by exact HZG.out _ (Below.refl _ _).drew) ?_ ?_
  rotate_left
  · intro wq; go_simp; try (with_reducible rfl)
  try simp only [Act.put, List.setIfInBounds_toArray, List.set_cons_zero, List.set_cons_succ]
  refine takeW (i := 3) (v := ?_) rfl (by kernel_rfl) (by kernel_rfl) (by kernel_rfl) (by decide) (fun _ _ _ h => h) rfl (by exact HZG.out _ (Below.refl _ _).drew) ?_ ?_
  rotate_left
  · intro wq; go_simp; try (with_reducible rfl)
  try simp only [Act.put, List.setIfInBounds_toArray, List.set_cons_zero, List.set_cons_succ]
  refine takeW (i := 4) (v := ?_) rfl (by kernel_rfl) (by kernel_rfl) (by kernel_rfl) (by decide) (fun _ _ _ h => h) rfl (by exact HZG.out _ (Below.refl _ _).drew) ?_ ?_
  rotate_left
  · intro wq; go_simp; try (with_reducible rfl)
  try simp only [Act.put, List.setIfInBounds_toArray, List.set_cons_zero, List.set_cons_succ]
  refine takeZ (i := 5) (f0 := 6) (v := ?_) rfl (by kernel_rfl) (by kernel_rfl) (by kernel_rfl) (by decide) (by kernel_rfl) (fun _ _ _ h => h) rfl (by exact HZG.out _ (Below.refl _ _).drew) ?_ ?_
  rotate_left
  · intro wq hSw; (try dsimp only at hSw); go_split_ands; go_simp; try (with_reducible rfl)
  try simp only [Act.put, List.setIfInBounds_toArray, List.set_cons_zero, List.set_cons_succ]
  refine takeZ (i := 7) (f0 := 6) (v := ?_) rfl (by kernel_rfl) (by kernel_rfl) (by kernel_rfl) (by decide) (by kernel_rfl) (fun _ _ _ h => h) rfl (by exact HZG.out _ (Below.refl _ _).drew) ?_ ?_
  rotate_left
  · intro wq hSw; (try dsimp only at hSw); go_split_ands; go_simp; try (with_reducible rfl)
  try simp only [Act.put, List.setIfInBounds_toArray, List.set_cons_zero, List.set_cons_succ]
  refine twoZ (i := 1) (j := 8) rfl rfl (by kernel_rfl) rfl rfl (fun K hK => ?_) (fun K hK => ?_)
  · go_simp
    refine hK _ _ (by exact HZG.out _ HE.out) ?_
    clear hK K
    try simp only [Act.put, List.setIfInBounds_toArray, List.set_cons_zero, List.set_cons_succ]
    refine twoZ (i := 6) (j := 8) rfl rfl (by kernel_rfl) rfl rfl (fun K hK => ?_) (fun K hK => ?_)
    · refine Lib.wp_append_run _ _ _ _ _ (by rfl) _ _ (by rfl) (by rfl) _ _ PA.out.1 ?_
      refine hK _ _ (by exact HZG.out _ PA.out.2.2.1) ?_
      clear hK K
      try simp only [Act.put, List.setIfInBounds_toArray, List.set_cons_zero, List.set_cons_succ]
      refine oneZ (i := 8) rfl (by kernel_rfl) rfl (fun K hK => ?_)
      go_simp
      refine hK _ _ (by exact HZG.out _ PA.out.2.2.2.1) ?_
      clear hK K
      try simp only [Act.put, List.setIfInBounds_toArray, List.set_cons_zero, List.set_cons_succ]
      refine seqZ (l := _ :: _) rfl rfl (by kernel_rfl) (by decide) ?_
      go_wp2_with (at_builtin; refine Lib.wpList_append_run _ rfl _ _ _ _ rfl _ _ rfl rfl _ _ PA.out.2.1 ?_)
      go_ret2
      exact ⟨rfl, ref_store HISR.out HW0.out PA.out.2.2.2.2.1 PA.out.2.2.2.2.2.1 PA.out.2.2.2.2.2.2⟩
    · go_simp
      refine hK _ _ (by exact HZG.out _ HEO.out) ?_
      clear hK K
      try simp only [Act.put, List.setIfInBounds_toArray, List.set_cons_zero, List.set_cons_succ]
      refine oneZ (i := 6) rfl (by kernel_rfl) rfl (fun K hK => ?_)
      refine Lib.wp_append_run _ _ _ _ _ (by rfl) _ _ (by rfl) (by rfl) _ _ PB.out.1 ?_
      refine hK _ _ (by exact HZG.out _ PB.out.2.2.1) ?_
      clear hK K
      try simp only [Act.put, List.setIfInBounds_toArray, List.set_cons_zero, List.set_cons_succ]
      refine seqZ (l := _ :: _) rfl rfl (by kernel_rfl) (by decide) ?_
      go_wp2_with (at_builtin; refine Lib.wpList_append_run _ rfl _ _ _ _ rfl _ _ rfl rfl _ _ PB.out.2.1 ?_)
      go_ret2
      exact ⟨rfl, ref_store HISR.out HW0.out PB.out.2.2.2.1 PB.out.2.2.2.2.1 PB.out.2.2.2.2.2⟩
  · go_simp
    refine hK _ _ (by exact HZG.out _ HO2.out) ?_
    clear hK K
    try simp only [Act.put, List.setIfInBounds_toArray, List.set_cons_zero, List.set_cons_succ]
    refine oneZ (i := 1) rfl (by kernel_rfl) rfl (fun K hK => ?_)
    go_simp
    refine hK _ _ (by exact HZG.out _ HOE.out) ?_
    clear hK K
    try simp only [Act.put, List.setIfInBounds_toArray, List.set_cons_zero, List.set_cons_succ]
    refine oneZ (i := 6) rfl (by kernel_rfl) rfl (fun K hK => ?_)
    refine Lib.wp_append_run _ _ _ _ _ (by rfl) _ _ (by rfl) (by rfl) _ _ PC'.out.1 ?_
    refine hK _ _ (by exact HZG.out _ PC'.out.2.2.1) ?_
    clear hK K
    try simp only [Act.put, List.setIfInBounds_toArray, List.set_cons_zero, List.set_cons_succ]
    refine seqZ (l := _ :: _) rfl rfl (by kernel_rfl) (by decide) ?_
    go_wp2_with (at_builtin; refine Lib.wpList_append_run _ rfl _ _ _ _ rfl _ _ rfl rfl _ _ PC'.out.2.1 ?_)
    go_ret2
    exact ⟨rfl, ref_store HISR.out HW0.out PC'.out.2.2.2.1 PC'.out.2.2.2.2.1 PC'.out.2.2.2.2.2⟩
set_option maxHeartbeats 4000000 in
set_option maxRecDepth 100000 in
theorem gput_take0 (w : World) (q : Nat) (L : List S49) (o : S49) (F : List Nat) (hi : isRef q L w F) (hl : L.length ≤ 100000) (hr : rightS o) (h1 : ¬ o.f1 ≤ (knownR L o.f0.f1).1) (h2 : (knownR L o.f0.f1).1 = o.f1 - 1) (h3 : hasR L o.f3 = false) (h4 : idq o.f3 zid = true) (h5 : ¬ o.f0.f0 ≤ (knownR L o.f0.f1).2) : Calls Try.prog 28 #[.pointer (some ⟨q, 0, none⟩), opV o] w fun e w' => e = .returned (.tuple #[.bool true, .int .i64 0]) ∧ RefFin w F q (L ++ [o]) w' := by
  obtain ⟨A, c, hcell, hcap, hrow⟩ := ref_read hi
  have h : PutW w q L o A c := ⟨hcell, hcap, hrow, by omega⟩
  have HISR := Lib.hid hi
  have HROW := Lib.hid (And.intro hcell (And.intro hcap hrow))
  have HLL := Lib.hid hl
  have K1 := right12_is o
  rw [decide_eq_true hr] at K1
  have HK := Lib.hid K1
  have hr2 := (show 1 ≤ o.f1 ∧ o.f1 ≤ 4294967295 from ⟨hr.2.1, hr.2.2.1⟩)
  obtain ⟨kn, kc, hkn⟩ : ∃ kn kc, knownR L o.f0.f1 = (kn, kc) := ⟨_, _, rfl⟩
  have K2 := Lib.hid (fun W (hb : Below w.heap.size w W) => known_calls W q L A c o.f0.f1 ((hb.cell (World.block_lt_of_cell? w _ h.cell)).trans h.cell) (Kd.C_below h.row hb) h.cap h.len)
  have K3 := Lib.hid (fun W (hb : Below w.heap.size w W) => ghas_calls W q L A c o.f3 ((hb.cell (World.block_lt_of_cell? w _ h.cell)).trans h.cell) (Kd.C_below h.row hb) h.cap h.len)
  rw [hkn] at K2 h1 h2 h5
  obtain ⟨hs, hhs⟩ : ∃ hs, hasR L o.f3 = hs := ⟨_, rfl⟩
  rw [hhs] at K3 h3
  obtain ⟨⟨o0, o1⟩, o2, o3, ⟨o4, o5⟩, o6⟩ := o
  unfold opV at *
  obtain ⟨W1, hW1⟩ : ∃ W1, w.alloc (.cells #[.int .i64 o0, .int .i64 o1, .int .i64 o2, .bool o3, .int .i64 o4, .int .i64 o5, .int .i32 o6] 49) = W1 := ⟨_, rfl⟩
  have hb : Below w.heap.size w W1 := by rw [← hW1]; exact (Below.refl _ w).alloc (Nat.le_refl _) _
  have hnew : W1.heap[w.heap.size]? = some (.cells #[.int .i64 o0, .int .i64 o1, .int .i64 o2, .bool o3, .int .i64 o4, .int .i64 o5, .int .i32 o6] 49 (0, 0)) := by rw [← hW1]; exact heap_new w _
  have HB := Lib.hid hb
  have HO : Aside0 (∀ W, Below W1.heap.size W1 W → W.cell? ⟨w.heap.size, 0, none⟩ = some (.int .i64 o0) ∧ W.cell? ⟨w.heap.size, 1, none⟩ = some (.int .i64 o1) ∧ W.cell? ⟨w.heap.size, 2, none⟩ = some (.int .i64 o2) ∧ W.cell? ⟨w.heap.size, 4, none⟩ = some (.int .i64 o4) ∧ W.cell? ⟨w.heap.size, 5, none⟩ = some (.int .i64 o5)) :=
    ⟨fun W hb2 => ⟨(hb2.cell (lt_of hnew)).trans ((cell_of hnew 0).trans rfl), (hb2.cell (lt_of hnew)).trans ((cell_of hnew 1).trans rfl), (hb2.cell (lt_of hnew)).trans ((cell_of hnew 2).trans rfl), (hb2.cell (lt_of hnew)).trans ((cell_of hnew 4).trans rfl), (hb2.cell (lt_of hnew)).trans ((cell_of hnew 5).trans rfl)⟩⟩
  simp only at hr2 h1 h2 h3 h5
  have hw1 : IntKind.i64.wrap (o2 - 1) = o2 - 1 := by rw [IntKind.wrap_i64]; omega
  have hge : ¬ o2 ≤ kn := h1
  have hq : (kn == o2 - 1) = true := by simpa using h2
  have hq2 : (kn != o2 - 1) = false := by simpa using h2
  subst h3
  have hz : (o4 == 0 && o5 == 0) = true := h4
  clear h hb K1 hkn hhs hr h2 hcell hcap hrow hi hl
  have HBLK : Aside0 (∀ W, Below W1.heap.size W1 W → W.heap[w.heap.size]? = some (opCells ⟨⟨o0, o1⟩, o2, o3, ⟨o4, o5⟩, o6⟩)) := ⟨fun W hb2 => (hb2.block _ (lt_of hnew)).trans hnew⟩
  clear hnew
  subst hW1
  go_enter Try.func28, Try.ntmps28
  go_wp2_with (first
    | (go_at_call 45; refine (HK.out _).mono ?_; rintro e w2 ⟨rfl, hb⟩; have HB2 := Lib.hid hb; have HBW := Lib.hid (below_step HB.out hb); obtain ⟨s0, s1, s2, s4, s5⟩ := HO.out _ hb; clear hb)
    | (go_at_call 46; refine (K2.out _ HBW.out).mono ?_; rintro e w3 ⟨rfl, rfl⟩)
    | (go_at_call 47; refine (K3.out _ HBW.out).mono ?_; rintro e w4 ⟨rfl, hb⟩; have HB4 := Lib.hid (below_step HB2.out hb); obtain ⟨t0, t1, t2, t4, t5⟩ := HO.out _ HB4.out; clear hb))
  have HW0 := Lib.hid (below_step HB.out HB4.out)
  have HZG := Lib.hid (fun W (hb : Below w4.heap.size w4 W) => show (W.cell? ⟨w.heap.size, 0, none⟩ = some (.int .i64 o0) ∧ W.cell? ⟨w.heap.size, 1, none⟩ = some (.int .i64 o1) ∧ W.cell? ⟨w.heap.size, 2, none⟩ = some (.int .i64 o2) ∧ W.cell? ⟨w.heap.size, 3, none⟩ = some (.bool o3) ∧ W.cell? ⟨w.heap.size, 4, none⟩ = some (.int .i64 o4) ∧ W.cell? ⟨w.heap.size, 5, none⟩ = some (.int .i64 o5) ∧ W.cell? ⟨w.heap.size, 6, none⟩ = some (.int .i32 o6)) ∧ W.cell? ⟨q, 0, none⟩ = some (.slice A L.length c) from by
    have hk := HBLK.out W (below_step HB4.out hb)
    exact ⟨⟨(cell_of hk 0).trans rfl, (cell_of hk 1).trans rfl, (cell_of hk 2).trans rfl, (cell_of hk 3).trans rfl, (cell_of hk 4).trans rfl, (cell_of hk 5).trans rfl, (cell_of hk 6).trans rfl⟩, ((below_step HW0.out hb).cell (World.block_lt_of_cell? w _ HROW.out.1)).trans HROW.out.1⟩)
  have HRW := Lib.hid (Kd.C_below HROW.out.2.2 HW0.out)
  have hqc : ∀ W, Below w4.heap.size w4 W → W.cell? ⟨q, 0, none⟩ = some (.slice A L.length c) ∧ W.frozen? ⟨q, 0, none⟩ = false := fun W hb => by
    obtain ⟨v, x1, x2, x3⟩ := HISR.out
    have hq := ((below_step HW0.out hb).block q (lt_of x1)).trans x1
    exact ⟨(HZG.out W hb).2, free_of hq 0⟩
  have HQC := Lib.hid hqc
  have bE : Below w4.heap.size w4 ((w4.alloc (.cells #[] 49)).drew) := ((Below.refl _ w4).alloc (Nat.le_refl _) _).drew
  have bO : Below w4.heap.size w4 ((w4.alloc (.cells #[.int .i64 o0, .int .i64 o1, .int .i64 o2, .bool o3, .int .i64 o4, .int .i64 o5, .int .i32 o6] 49)).drew) := ((Below.refl _ w4).alloc (Nat.le_refl _) _).drew
  have bEO : Below w4.heap.size w4 (((w4.alloc (.cells #[] 49)).alloc (.cells #[.int .i64 o0, .int .i64 o1, .int .i64 o2, .bool o3, .int .i64 o4, .int .i64 o5, .int .i32 o6] 49)).drew) := (((Below.refl _ w4).alloc (Nat.le_refl _) _).alloc (by rw [alloc_sz]; omega) _).drew
  have bOE : Below w4.heap.size w4 (((w4.alloc (.cells #[.int .i64 o0, .int .i64 o1, .int .i64 o2, .bool o3, .int .i64 o4, .int .i64 o5, .int .i32 o6] 49)).alloc (.cells #[] 49)).drew) := (((Below.refl _ w4).alloc (Nat.le_refl _) _).alloc (by rw [alloc_sz]; omega) _).drew
  have HE := Lib.hid bE
  have HO2 := Lib.hid bO
  have HEO := Lib.hid bEO
  have HOE := Lib.hid bOE
  -- the empty literal first, then the row, then the operation
  obtain ⟨B1, n1, d1, x6, e6, r6, b6, o6', k6, z6⟩ := app1_fact HRW.out HROW.out.2.1 (by have := HLL.out; omega) bE (Nat.le_refl _) (Rw.of rfl (lit0 49 w4))
  have b68 : Below w4.heap.size w4 (x6.alloc (.cells #[.int .i64 o0, .int .i64 o1, .int .i64 o2, .bool o3, .int .i64 o4, .int .i64 o5, .int .i32 o6] 49)) := b6.alloc b6.size _
  obtain ⟨B2, n2, d2, x9, e9, r9, b9, o9⟩ := app2_fact (o := ⟨⟨o0, o1⟩, o2, o3, ⟨o4, o5⟩, o6⟩) (by have := HLL.out; omega) b68 (r6.keep fun k hk => heap_old _ _ (r6.lt k hk)) o6' (heap_new x6 _)
  -- both literals, then the row
  have rEO : Rw k49 49 (((w4.alloc (.cells #[] 49)).alloc (.cells #[.int .i64 o0, .int .i64 o1, .int .i64 o2, .bool o3, .int .i64 o4, .int .i64 o5, .int .i32 o6] 49)).drew) (.slice (some ⟨w4.heap.size, 0, none⟩) 0 0) [] := (Rw.of rfl (lit0 49 w4)).keep fun k hk => heap_old _ _ (by rw [alloc_sz]; have := mem_ob.1 hk; simp only [Value.ownBlock, Option.some.injEq] at this; omega)
  obtain ⟨B3, n3, d3, y6, f6, s6, c6, p6, l6, m6⟩ := app1_fact HRW.out HROW.out.2.1 (by have := HLL.out; omega) bEO (Nat.le_refl _) rEO
  have vEO : y6.heap[w4.heap.size + 1]? = some (opCells ⟨⟨o0, o1⟩, o2, o3, ⟨o4, o5⟩, o6⟩) := (l6 _ (show w4.heap.size + 1 < ((w4.alloc (.cells #[] 49)).alloc (.cells #[.int .i64 o0, .int .i64 o1, .int .i64 o2, .bool o3, .int .i64 o4, .int .i64 o5, .int .i32 o6] 49)).heap.size by rw [alloc_sz, alloc_sz]; omega) (show w4.heap.size + 1 ≠ w4.heap.size by omega)).trans (by
    have := heap_new (w4.alloc (.cells #[] 49)) (.cells #[.int .i64 o0, .int .i64 o1, .int .i64 o2, .bool o3, .int .i64 o4, .int .i64 o5, .int .i32 o6] 49)
    rw [alloc_sz] at this
    exact this)
  obtain ⟨B4, n4, d4, y9, f9, s9, c9, p9⟩ := app2_fact (o := ⟨⟨o0, o1⟩, o2, o3, ⟨o4, o5⟩, o6⟩) (by have := HLL.out; omega) c6 s6 p6 vEO
  -- the operation's literal first
  have rOE : Rw k49 49 (((w4.alloc (.cells #[.int .i64 o0, .int .i64 o1, .int .i64 o2, .bool o3, .int .i64 o4, .int .i64 o5, .int .i32 o6] 49)).alloc (.cells #[] 49)).drew) (.slice (some ⟨w4.heap.size + 1, 0, none⟩) 0 0) [] := by
    have := Rw.of rfl (lit0 49 (w4.alloc (.cells #[.int .i64 o0, .int .i64 o1, .int .i64 o2, .bool o3, .int .i64 o4, .int .i64 o5, .int .i32 o6] 49)))
    rw [alloc_sz] at this
    exact this
  obtain ⟨B5, n5, d5, z6', g6, t6, q6, u6, v6', w6'⟩ := app1_fact HRW.out HROW.out.2.1 (by have := HLL.out; omega) bOE (show w4.heap.size ≤ w4.heap.size + 1 by omega) rOE
  have vOE : z6'.heap[w4.heap.size]? = some (opCells ⟨⟨o0, o1⟩, o2, o3, ⟨o4, o5⟩, o6⟩) := (v6' _ (show w4.heap.size < ((w4.alloc (.cells #[.int .i64 o0, .int .i64 o1, .int .i64 o2, .bool o3, .int .i64 o4, .int .i64 o5, .int .i32 o6] 49)).alloc (.cells #[] 49)).heap.size by rw [alloc_sz, alloc_sz]; omega) (by omega)).trans ((heap_old _ _ (by rw [alloc_sz]; omega)).trans (heap_new w4 _))
  obtain ⟨B7, n7, d7, z9, g9, t9, q9, u9⟩ := app2_fact (o := ⟨⟨o0, o1⟩, o2, o3, ⟨o4, o5⟩, o6⟩) (by have := HLL.out; omega) q6 t6 u6 vOE
  have PA := Lib.hid (And.intro e6 (And.intro e9 (And.intro b6 (And.intro b68 (And.intro b9 (And.intro r9 o9))))))
  have PB := Lib.hid (And.intro f6 (And.intro f9 (And.intro c6 (And.intro c9 (And.intro s9 p9)))))
  have PC' := Lib.hid (And.intro g6 (And.intro g9 (And.intro q6 (And.intro q9 (And.intro t9 u9)))))
  have QA := hqc x9 b9
  have QB := hqc y9 c9
  have QC := hqc z9 q9
  obtain ⟨qa1, qa2⟩ := QA
  obtain ⟨qb1, qb2⟩ := QB
  obtain ⟨qc1, qc2⟩ := QC
  clear hqc bE bO bEO bOE e6 r6 b6 o6' k6 z6 b68 e9 r9 b9 o9 rEO f6 s6 c6 p6 l6 m6 vEO f9 s9 c9 p9 rOE g6 t6 q6 u6 v6' w6' vOE g9 t9 q9 u9
  refine startZ (z := 9) (S := (fun W => (W.cell? ⟨w.heap.size, 0, none⟩ = some (.int .i64 o0) ∧ W.cell? ⟨w.heap.size, 1, none⟩ = some (.int .i64 o1) ∧ W.cell? ⟨w.heap.size, 2, none⟩ = some (.int .i64 o2) ∧ W.cell? ⟨w.heap.size, 3, none⟩ = some (.bool o3) ∧ W.cell? ⟨w.heap.size, 4, none⟩ = some (.int .i64 o4) ∧ W.cell? ⟨w.heap.size, 5, none⟩ = some (.int .i64 o5) ∧ W.cell? ⟨w.heap.size, 6, none⟩ = some (.int .i32 o6)) ∧ W.cell? ⟨q, 0, none⟩ = some (.slice A L.length c))) (by kernel_rfl) ?_
  show ZG _ _ _ _ _ _ 13 _ _ _
  refine takeW (i := 0) (v := ?_) rfl (by kernel_rfl) (by kernel_rfl) (by kernel_rfl) (by decide) (fun _ _ _ h => h) rfl (by exact HZG.out _ (Below.refl _ _).drew) ?_ ?_
  rotate_left
  · intro wq; go_simp; try (with_reducible rfl)
  try simp only [Act.put, List.setIfInBounds_toArray, List.set_cons_zero, List.set_cons_succ]
  refine takeW (i := 2) (v := ?_) rfl (by kernel_rfl) (by kernel_rfl) (by kernel_rfl) (by decide) (fun _ _ _ h => h) rfl (by exact HZG.out _ (Below.refl _ _).drew) ?_ ?_
  rotate_left
  · intro wq; go_simp; try (with_reducible rfl)
  try simp only [Act.put, List.setIfInBounds_toArray, List.set_cons_zero, List.set_cons_succ]
  refine takeW (i := 3) (v := ?_) rfl (by kernel_rfl) (by kernel_rfl) (by kernel_rfl) (by decide) (fun _ _ _ h => h) rfl (by exact HZG.out _ (Below.refl _ _).drew) ?_ ?_
  rotate_left
  · intro wq; go_simp; try (with_reducible rfl)
  try simp only [Act.put, List.setIfInBounds_toArray, List.set_cons_zero, List.set_cons_succ]
  refine takeW (i := 4) (v := ?_) rfl (by kernel_rfl) (by kernel_rfl) (by kernel_rfl) (by decide) (fun _ _ _ h => h) rfl (by exact HZG.out _ (Below.refl _ _).drew) ?_ ?_
  rotate_left
  · intro wq; go_simp; try (with_reducible rfl)
  try simp only [Act.put, List.setIfInBounds_toArray, List.set_cons_zero, List.set_cons_succ]
  refine takeZ (i := 5) (f0 := 6) (v := ?_) rfl (by kernel_rfl) (by kernel_rfl) (by kernel_rfl) (by decide) (by kernel_rfl) (fun _ _ _ h => h) rfl (by exact HZG.out _ (Below.refl _ _).drew) ?_ ?_
  rotate_left
  · intro wq hSw; (try dsimp only at hSw); go_split_ands; go_simp; try (with_reducible rfl)
  try simp only [Act.put, List.setIfInBounds_toArray, List.set_cons_zero, List.set_cons_succ]
  refine takeZ (i := 7) (f0 := 6) (v := ?_) rfl (by kernel_rfl) (by kernel_rfl) (by kernel_rfl) (by decide) (by kernel_rfl) (fun _ _ _ h => h) rfl (by exact HZG.out _ (Below.refl _ _).drew) ?_ ?_
  rotate_left
  · intro wq hSw; (try dsimp only at hSw); go_split_ands; go_simp; try (with_reducible rfl)
  try simp only [Act.put, List.setIfInBounds_toArray, List.set_cons_zero, List.set_cons_succ]
  refine twoZ (i := 1) (j := 8) rfl rfl (by kernel_rfl) rfl rfl (fun K hK => ?_) (fun K hK => ?_)
  · go_simp
    refine hK _ _ (by exact HZG.out _ HE.out) ?_
    clear hK K
    try simp only [Act.put, List.setIfInBounds_toArray, List.set_cons_zero, List.set_cons_succ]
    refine twoZ (i := 6) (j := 8) rfl rfl (by kernel_rfl) rfl rfl (fun K hK => ?_) (fun K hK => ?_)
    · refine Lib.wp_append_run _ _ _ _ _ (by rfl) _ _ (by rfl) (by rfl) _ _ PA.out.1 ?_
      refine hK _ _ (by exact HZG.out _ PA.out.2.2.1) ?_
      clear hK K
      try simp only [Act.put, List.setIfInBounds_toArray, List.set_cons_zero, List.set_cons_succ]
      refine oneZ (i := 8) rfl (by kernel_rfl) rfl (fun K hK => ?_)
      go_simp
      refine hK _ _ (by exact HZG.out _ PA.out.2.2.2.1) ?_
      clear hK K
      try simp only [Act.put, List.setIfInBounds_toArray, List.set_cons_zero, List.set_cons_succ]
      refine seqZ (l := _ :: _) rfl rfl (by kernel_rfl) (by decide) ?_
      go_wp2_with (at_builtin; refine Lib.wpList_append_run _ rfl _ _ _ _ rfl _ _ rfl rfl _ _ PA.out.2.1 ?_)
      go_ret2
      exact ⟨rfl, ref_store HISR.out HW0.out PA.out.2.2.2.2.1 PA.out.2.2.2.2.2.1 PA.out.2.2.2.2.2.2⟩
    · go_simp
      refine hK _ _ (by exact HZG.out _ HEO.out) ?_
      clear hK K
      try simp only [Act.put, List.setIfInBounds_toArray, List.set_cons_zero, List.set_cons_succ]
      refine oneZ (i := 6) rfl (by kernel_rfl) rfl (fun K hK => ?_)
      refine Lib.wp_append_run _ _ _ _ _ (by rfl) _ _ (by rfl) (by rfl) _ _ PB.out.1 ?_
      refine hK _ _ (by exact HZG.out _ PB.out.2.2.1) ?_
      clear hK K
      try simp only [Act.put, List.setIfInBounds_toArray, List.set_cons_zero, List.set_cons_succ]
      refine seqZ (l := _ :: _) rfl rfl (by kernel_rfl) (by decide) ?_
      go_wp2_with (at_builtin; refine Lib.wpList_append_run _ rfl _ _ _ _ rfl _ _ rfl rfl _ _ PB.out.2.1 ?_)
      go_ret2
      exact ⟨rfl, ref_store HISR.out HW0.out PB.out.2.2.2.1 PB.out.2.2.2.2.1 PB.out.2.2.2.2.2⟩
  · go_simp
    refine hK _ _ (by exact HZG.out _ HO2.out) ?_
    clear hK K
    try simp only [Act.put, List.setIfInBounds_toArray, List.set_cons_zero, List.set_cons_succ]
    refine oneZ (i := 1) rfl (by kernel_rfl) rfl (fun K hK => ?_)
    go_simp
    refine hK _ _ (by exact HZG.out _ HOE.out) ?_
    clear hK K
    try simp only [Act.put, List.setIfInBounds_toArray, List.set_cons_zero, List.set_cons_succ]
    refine oneZ (i := 6) rfl (by kernel_rfl) rfl (fun K hK => ?_)
    refine Lib.wp_append_run _ _ _ _ _ (by rfl) _ _ (by rfl) (by rfl) _ _ PC'.out.1 ?_
    refine hK _ _ (by exact HZG.out _ PC'.out.2.2.1) ?_
    clear hK K
    try simp only [Act.put, List.setIfInBounds_toArray, List.set_cons_zero, List.set_cons_succ]
    refine seqZ (l := _ :: _) rfl rfl (by kernel_rfl) (by decide) ?_
    go_wp2_with (at_builtin; refine Lib.wpList_append_run _ rfl _ _ _ _ rfl _ _ rfl rfl _ _ PC'.out.2.1 ?_)
    go_ret2
    exact ⟨rfl, ref_store HISR.out HW0.out PC'.out.2.2.2.1 PC'.out.2.2.2.2.1 PC'.out.2.2.2.2.2⟩
end Go.Proofs.Ytefnpalkkhhkfaa.PC
namespace Go.Proofs.Ytefnpalkkhhkfaa.PC
open Go.RowKit Go.Proofs.YtefnpalkkhhkfaaW.PrintWords Go.Proofs.YtefnpalkkhhkfaaW.PrintLast Go.Proofs.YtefnpalkkhhkfaaW.PrintMore Go.Proofs.Ytefnpalkkhhkfaa.K Go.Proofs.Ytefnpalkkhhkfaa.IX Go.Proofs.Ytefnpalkkhhkfaa.I
set_option linter.unusedVariables false
set_option linter.unusedSimpArgs false
theorem refFin_same {w w' : World} {F : List Nat} {q : Nat} {L : List S49} (h : isRef q L w F) (hb : Below w.heap.size w w') : RefFin w F q L w' :=
  ⟨F, (asn_ref q L).keep h (fun k m => hb.block k ((asn_ref q L).lt h k m)), Fr.of_below hb, fun _ h => .inl h⟩
theorem putR_no {L : List S49} {o : S49} {e : Int} (h : refR L o = some e) : putR L o = ((false, e), L) := by unfold putR; rw [h]
theorem putR_yes {L : List S49} {o : S49} (h : refR L o = none) : putR L o = ((true, 0), L ++ [o]) := by unfold putR; rw [h]
theorem gput_calls (w : World) (F : List Nat) (q : Nat) (L : List S49) (o : S49) (hi : isRef q L w F) (hl : L.length ≤ 100000) : Calls Try.prog 28 #[.pointer (some ⟨q, 0, none⟩), opV o] w fun e w' => e = .returned (.tuple #[.bool (putR L o).1.1, .int .i64 (putR L o).1.2]) ∧ RefFin w F q (putR L o).2 w' := by
  obtain ⟨A, c, hcell, hcap, hrow⟩ := ref_read hi
  have h : PutW w q L o A c := ⟨hcell, hcap, hrow, by omega⟩
  by_cases hr : rightS o
  · have hnn : ¬ ¬ rightS o := fun k => k hr
    by_cases h1 : o.f1 ≤ (knownR L o.f0.f1).1
    · have e : refR L o = some 0 := by unfold refR; rw [if_neg hnn, if_pos h1]
      rw [putR_no e]
      exact (gput_old w q L o A c h hr h1).mono fun _ _ ⟨he, hb⟩ => ⟨he, refFin_same hi hb⟩
    · by_cases h2 : (knownR L o.f0.f1).1 = o.f1 - 1
      · cases h3 : hasR L o.f3 with
        | true =>
          have h6 : ¬ ((knownR L o.f0.f1).1 ≠ o.f1 - 1 ∨ (hasR L o.f3 = false ∧ idq o.f3 zid = false)) := by rintro (k | ⟨k, _⟩) <;> simp_all
          by_cases h5 : o.f0.f0 ≤ (knownR L o.f0.f1).2
          · have e : refR L o = some 1 := by unfold refR; rw [if_neg hnn, if_neg h1, if_neg h6, if_pos h5]
            rw [putR_no e]
            exact (gput_ctr w q L o A c h hr h1 h2 h3 h5).mono fun _ _ ⟨he, hb⟩ => ⟨he, refFin_same hi hb⟩
          · have e : refR L o = none := by unfold refR; rw [if_neg hnn, if_neg h1, if_neg h6, if_neg h5]
            rw [putR_yes e]
            exact gput_take w q L o F hi hl hr h1 h2 h3 h5
        | false =>
          cases h4 : idq o.f3 zid with
          | false =>
            have e : refR L o = some 6 := by unfold refR; rw [if_neg hnn, if_neg h1, if_pos (.inr ⟨h3, h4⟩)]
            rw [putR_no e]
            exact (gput_noref w q L o A c h hr h1 h2 h3 h4).mono fun _ _ ⟨he, hb⟩ => ⟨he, refFin_same hi hb⟩
          | true =>
            have h6 : ¬ ((knownR L o.f0.f1).1 ≠ o.f1 - 1 ∨ (hasR L o.f3 = false ∧ idq o.f3 zid = false)) := by rintro (k | ⟨_, k⟩) <;> simp_all
            by_cases h5 : o.f0.f0 ≤ (knownR L o.f0.f1).2
            · have e : refR L o = some 1 := by unfold refR; rw [if_neg hnn, if_neg h1, if_neg h6, if_pos h5]
              rw [putR_no e]
              exact (gput_ctr0 w q L o A c h hr h1 h2 h3 h4 h5).mono fun _ _ ⟨he, hb⟩ => ⟨he, refFin_same hi hb⟩
            · have e : refR L o = none := by unfold refR; rw [if_neg hnn, if_neg h1, if_neg h6, if_neg h5]
              rw [putR_yes e]
              exact gput_take0 w q L o F hi hl hr h1 h2 h3 h4 h5
      · have e : refR L o = some 6 := by unfold refR; rw [if_neg hnn, if_neg h1, if_pos (.inl h2)]
        rw [putR_no e]
        exact (gput_gap w q L o A c h hr h1 h2).mono fun _ _ ⟨he, hb⟩ => ⟨he, refFin_same hi hb⟩
  · have e : refR L o = some 1 := by unfold refR; rw [if_pos hr]
    rw [putR_no e]
    exact (gput_wrong w q L o A c h hr).mono fun _ _ ⟨he, hb⟩ => ⟨he, refFin_same hi hb⟩
theorem gput_st {w0 w : World} {q : Nat} {L : List S49} {B : As} (b : Asn B) (h : St w0 w (sep (isRef q L) B)) (hl : L.length ≤ 100000) (o : S49) : Calls Try.prog 28 #[.pointer (some ⟨q, 0, none⟩), opV o] w fun e w' => e = .returned (.tuple #[.bool (putR L o).1.1, .int .i64 (putR L o).1.2]) ∧ St w0 w' (sep (isRef q (putR L o).2) B) := by
  obtain ⟨F, ⟨FA, FB, h1, h2, rfl, hd⟩, hb, hn⟩ := h
  refine (gput_calls w FA q L o h1 hl).mono ?_
  rintro e w' ⟨he, F', k1, k2, k3⟩
  exact ⟨he, St.upd (A := isRef q L) b (fun k m => hn k (by simp [m])) h2 hd hb (fun k m => hn k (by simp [m])) k2 k1 k3⟩
theorem St.mkref {w0 w : World} {A : As} (h : St w0 w A) (a : Asn A) : St w0 (w.alloc (.cells #[.slice none 0 0] 59)) (sep (isRef w.heap.size []) A) :=
  h.add (G := w.heap.size :: ob (.slice none 0 0)) a ((Below.refl _ w).alloc (Nat.le_refl _) _) ⟨_, heap_new w _, Kd.R_nil _ _ _ _ _, rfl⟩ (fun k hk => by
    simp only [ob, Value.ownBlock, Option.toList_none, List.mem_singleton] at hk
    omega)
end Go.Proofs.Ytefnpalkkhhkfaa.PC
namespace Go.Proofs.Ytefnpalkkhhkfaa.PC
open Go.RowKit Go.Proofs.YtefnpalkkhhkfaaW.PrintWords Go.Proofs.Ytefnpalkkhhkfaa.K Go.Proofs.Ytefnpalkkhhkfaa.IX Go.Proofs.Ytefnpalkkhhkfaa.I
set_option linter.unusedVariables false
set_option linter.unusedSimpArgs false
theorem aliveIds_mem (l : List S83) (x : S24) (h : x ∈ aliveIds l) : x ∈ l.map (·.f0) := by
  unfold aliveIds idsS at h
  rw [List.mem_map] at h ⊢
  obtain ⟨e, he, rfl⟩ := h
  exact ⟨e, (List.mem_filter.1 he).1, rfl⟩
theorem gone_split (l : List S83) (i : Nat) (h : i < l.length) : goneS l i = l.take i ++ [⟨l[i].f0, l[i].f1, false⟩] ++ l.drop (i + 1) := by
  unfold goneS
  induction l generalizing i with
  | nil => cases h
  | cons e l ih =>
    cases i with
    | zero => rfl
    | succ i =>
      have h2 : i < l.length := by simpa using h
      have := ih i h2
      simp only [List.modify_succ_cons, List.take_succ_cons, List.drop_succ_cons, List.getElem_cons_succ, List.cons_append]
      rw [this]
theorem take_drop_one (l : List S83) (i : Nat) (h : i < l.length) : l = l.take i ++ [l[i]] ++ l.drop (i + 1) := by
  rw [List.append_assoc, List.singleton_append, ← List.drop_eq_getElem_cons h, List.take_append_drop]
theorem gone_ids (l : List S83) (i : Nat) (h : i < l.length) : (goneS l i).map (·.f0) = l.map (·.f0) := by
  rw [gone_split l i h]
  conv => rhs; rw [take_drop_one l i h]
  simp only [List.map_append, List.map_cons, List.map_nil]
/-- Where an ID stands in a row. -/
def findS : List S24 → S24 → Int
  | [], _ => -1
  | e :: l, x => if idq e x = true then 0 else if findS l x < 0 then -1 else findS l x + 1
theorem find_place (l : List S83) (x : S24) : findS (l.map (·.f0)) x = placeS l x := by
  induction l with
  | nil => rfl
  | cons e l ih => simp only [List.map_cons, findS, placeS, ih]
end Go.Proofs.Ytefnpalkkhhkfaa.PC
namespace Go.Proofs.Ytefnpalkkhhkfaa.PC
open Go.RowKit Go.Proofs.YtefnpalkkhhkfaaW.PrintWords Go.Proofs.YtefnpalkkhhkfaaW.PrintLast Go.Proofs.YtefnpalkkhhkfaaW.PrintMore Go.Proofs.Ytefnpalkkhhkfaa.K Go.Proofs.Ytefnpalkkhhkfaa.IX Go.Proofs.Ytefnpalkkhhkfaa.I
attribute [local go_sem] max2_int min2_int max_two min_two max_three min_three max_four min_four
attribute [local go_sem high] eqA24
set_option linter.unusedVariables false
set_option linter.unusedSimpArgs false
theorem cell_id {w wr : World} {A : Option Addr} {l : List S24} (h : Kd.C k24 w A l.length l) (hb : Below w.heap.size w wr) (i : Nat) (hi : i < l.length) : ∃ ad, A = some ad ∧ wr.cell? (ad.add (i * 2)) = some (.int .i64 l[i].f0) ∧ wr.cell? ⟨(ad.add (i * 2)).block, (ad.add (i * 2)).off + 1, none⟩ = some (.int .i64 l[i].f1) := by
  obtain ⟨ad, eA, c0, c1⟩ := at_T24 h (i : Int) (by omega) (by omega)
  have hrd : rd_T24 l (i : Int) = l[i] := by unfold rd_T24; simp [hi]
  simp only [Int.toNat_natCast] at c0 c1
  rw [hrd] at c0 c1
  have go : ∀ {x : Addr} {v : Value}, w.cell? x = some v → wr.cell? x = some v := fun c => (hb.cell (World.block_lt_of_cell? w _ c)).trans c
  exact ⟨ad, eA, go c0, go c1⟩
end Go.Proofs.Ytefnpalkkhhkfaa.PC
namespace Go.Proofs.Ytefnpalkkhhkfaa.PC
open Go.RowKit Go.Proofs.YtefnpalkkhhkfaaW.PrintWords Go.Proofs.YtefnpalkkhhkfaaW.PrintLast Go.Proofs.YtefnpalkkhhkfaaW.PrintMore Go.Proofs.Ytefnpalkkhhkfaa.K Go.Proofs.Ytefnpalkkhhkfaa.IX Go.Proofs.Ytefnpalkkhhkfaa.I
set_option linter.unusedVariables false
set_option linter.unusedSimpArgs false
theorem ids_nm {w0 w : World} {p n : Nat} {T : TS} {B : As} {a : List S24} (b : Asn B) (h : St w0 w (sep (isTx p T) B)) (hl : T.l.length ≤ 100000) (ha : aliveIds T.l = a) (hn : a.length = n) : Calls Try.prog 25 #[.pointer (some ⟨p, 0, none⟩)] w fun e w' => ∃ A c, e = .returned (.slice A n c) ∧ Below w.heap.size w w' ∧ St w0 w' (sep (isRow k24 24 (.slice A n c) a) (sep (isTx p T) B)) := by
  obtain ⟨F, ⟨FA, FB, h1, h2, rfl, hd⟩, hb, hn2⟩ := id h
  refine (alive_calls_ids w FA p T h1 (by omega)).mono ?_
  rintro e w' ⟨v, rfl, hr, hb2⟩
  unfold aliveIds at ha
  rw [ha] at hr
  obtain ⟨A, c, rfl⟩ := Kd.R_slice hr
  rw [hn] at hr ⊢
  exact ⟨A, c, rfl, hb2, St.row rfl h (asn_sep (asn_tx p T) b) hb2 hr⟩
end Go.Proofs.Ytefnpalkkhhkfaa.PC
namespace Go.Proofs.Ytefnpalkkhhkfaa.PC
open Go.RowKit Go.Proofs.YtefnpalkkhhkfaaW.PrintWords Go.Proofs.YtefnpalkkhhkfaaW.PrintLast Go.Proofs.YtefnpalkkhhkfaaW.PrintMore Go.Proofs.Ytefnpalkkhhkfaa.K Go.Proofs.Ytefnpalkkhhkfaa.IX Go.Proofs.Ytefnpalkkhhkfaa.I
set_option linter.unusedVariables false
set_option linter.unusedSimpArgs false
theorem bits16 (x : Int) : 0 ≤ Go.bits .and .i64 x 65535 ∧ Go.bits .and .i64 x 65535 ≤ 65535 := by
  have hb : (65535 : Nat) % 2 ^ IntKind.i64.bits = 65535 := by decide
  have h1 : (BitVec.ofInt IntKind.i64.bits x).toNat &&& 65535 ≤ 65535 := Nat.and_le_right
  have e : Go.bits .and .i64 x 65535 = (((BitVec.ofInt IntKind.i64.bits x).toNat &&& 65535 : Nat) : Int) := by
    rw [show (65535 : Int) = ((65535 : Nat) : Int) from rfl]
    simp only [Go.bits, BitVec.ofInt_natCast, BitVec.toNat_and, BitVec.toNat_ofNat, hb]
    rw [IntKind.wrap_i64]
    omega
  rw [e]
  omega
end Go.Proofs.Ytefnpalkkhhkfaa.PC
namespace Go.Proofs.Ytefnpalkkhhkfaa.PC
open Go.RowKit Go.Proofs.YtefnpalkkhhkfaaW.PrintWords Go.Proofs.Ytefnpalkkhhkfaa.K Go.Proofs.Ytefnpalkkhhkfaa.IX Go.Proofs.Ytefnpalkkhhkfaa.I
set_option linter.unusedVariables false
set_option linter.unusedSimpArgs false
theorem at_out (l : List S83) (k : Int) (h : k < 0 ∨ (aliveIds l).length ≤ k.toNat) : atS l k = (z24, false) := by
  have hs : selS (l.map (·.f2)) k = (0, false) := by
    unfold selS
    rcases h with h | h
    · rw [if_neg (show ¬ 0 ≤ k by omega)]
    · rw [ids_cn] at h
      by_cases hk : 0 ≤ k
      · rw [if_pos hk, sel_none _ _ h]
      · rw [if_neg hk]
  unfold atS
  rw [hs]
  rfl
end Go.Proofs.Ytefnpalkkhhkfaa.PC
