/- A part of the proof of cursorBounds_holds: its texts, one behind the other, as far as the proof stands on them. (Lines of its texts on the printed words and functions began as lines that a program of the kit had written for this statement.) -/
import Derived.ArgAppend
import Derived.Below
import Derived.BigQuiet
import Derived.BigRegion
import Derived.ChangeMaps4
import Derived.ChangeMaps5
import Derived.Deep.AppendLies
import Derived.Deep.CutBlock
import Derived.Deep.CutRange
import Derived.Deep.DeepCutAuto
import Derived.Deep.DrawnRows
import Derived.Deep.Draws
import Derived.Deep.LoopGhost
import Derived.Deep.OwnRows
import Derived.Deep.QuietTactic
import Derived.Deep.RegionHeld3
import Derived.Deep.RegionLaw
import Derived.Deep.RegionWith
import Derived.KernelRfl
import Derived.Laws.BitsLemmas
import Derived.Laws.BytesArg
import Derived.Laws.CopyRow
import Derived.Laws.Cover4
import Derived.Laws.Externs
import Derived.Laws.IdiomCopy
import Derived.Laws.MakeOwn
import Derived.Laws.NewBlocks
import Derived.Laws.OwnMore
import Derived.Laws.Rows
import Derived.Laws.Slices
import Derived.Laws.StructEq
import Derived.Lib.AppendStr
import Derived.Lib.AppendZeros
import Derived.Lib.AppendZerosOnto
import Derived.Lib.ConvBytes
import Derived.Lib.Hide
import Derived.Lib.JoinLaws
import Derived.Lib.Overlaps
import Derived.Lib.Walk
import Derived.MapKept
import Derived.Maps.AppendAt
import Derived.OpenShut
import Derived.OrdersHeld
import Derived.OwnWalk
import Derived.RegionTactic
import Derived.RowKit
import Derived.RowKit3
import Derived.StillTail
import Derived.StillTailTactics
import Derived.Tactics
import Derived.Test.YtefnpalkkhhkfaaProg
import Derived.WalkKit
import Derived.WalkSpells
import Derived.WideLaws
import Derived.Test.YtefnpalkkhhkfaaBA9
namespace Go.Proofs.Ytefnpalkkhhkfaa.PC
open Go.RowKit Go.Proofs.YtefnpalkkhhkfaaW.PrintWords Go.Proofs.YtefnpalkkhhkfaaW.PrintLast Go.Proofs.YtefnpalkkhhkfaaW.PrintMore Go.Proofs.Ytefnpalkkhhkfaa.K Go.Proofs.Ytefnpalkkhhkfaa.IX Go.Proofs.Ytefnpalkkhhkfaa.I
attribute [local go_sem] max2_int min2_int max_two min_two max_three min_three max_four min_four
attribute [local go_sem high] eqA24
set_option linter.unusedVariables false
set_option linter.unusedSimpArgs false
theorem has_nm' {w0 w1 W : World} {p : Nat} {T : TS} {B : As} {r : Bool} {x : S24} (b : Asn B) (h : St w0 w1 (sep (isTx p T) B)) (b1 : Below w1.heap.size w1 W) (hl : T.l.length ≤ 100000) (hr : hasS T.l x = r) : Calls Try.prog 29 #[.pointer (some ⟨p, 0, none⟩), .agg #[.int .i64 x.f0, .int .i64 x.f1]] W fun e w' => e = .returned (.bool r) ∧ Below W.heap.size W w' := by
  obtain ⟨F, ⟨FA, FB, h2, h3, rfl, hd⟩, hb, hn⟩ := h.below (asn_sep (asn_tx p T) b) b1
  have := has_calls W FA p T x h2 (by omega)
  rw [hr] at this
  exact this
theorem ahead_nm' {w0 w1 W : World} {p : Nat} {T : TS} {B : As} {r : Int} {x : S24} (b : Asn B) (h : St w0 w1 (sep (isTx p T) B)) (b1 : Below w1.heap.size w1 W) (hl : T.l.length ≤ 100000) (hr : aheadS T.l x = r) : Calls Try.prog 30 #[.pointer (some ⟨p, 0, none⟩), .agg #[.int .i64 x.f0, .int .i64 x.f1]] W fun e w' => e = .returned (.int .i64 r) ∧ Below W.heap.size W w' := by
  obtain ⟨F, ⟨FA, FB, h2, h3, rfl, hd⟩, hb, hn⟩ := h.below (asn_sep (asn_tx p T) b) b1
  have := ahead_calls W FA p T x h2 (by omega)
  rw [hr] at this
  exact this
theorem at_nm' {w0 w1 W : World} {p : Nat} {T : TS} {B : As} {k : Int} {y : S24} {is : Bool} (b : Asn B) (h : St w0 w1 (sep (isTx p T) B)) (b1 : Below w1.heap.size w1 W) (hl : T.l.length ≤ 100000) (hr : atS T.l k = (y, is)) : Calls Try.prog 23 #[.pointer (some ⟨p, 0, none⟩), .int .i64 k] W fun e w' => e = .returned (.tuple #[.agg #[.int .i64 y.f0, .int .i64 y.f1], .bool is]) ∧ Below W.heap.size W w' := by
  obtain ⟨F, ⟨FA, FB, h2, h3, rfl, hd⟩, hb, hn⟩ := h.below (asn_sep (asn_tx p T) b) b1
  have := at_calls W FA p T k h2 (by omega)
  rw [hr] at this
  exact this
theorem len_nm' {w0 w1 W : World} {p nc : Nat} {T : TS} {B : As} (b : Asn B) (h : St w0 w1 (sep (isTx p T) B)) (b1 : Below w1.heap.size w1 W) (hn : cn (T.l.map (·.f2)) = nc) : Calls Try.prog 21 #[.pointer (some ⟨p, 0, none⟩)] W fun e w' => e = .returned (.int .i64 (nc : Int)) ∧ W = w' := by
  have := len_st (h.below (asn_sep (asn_tx p T) b) b1)
  rw [hn] at this
  exact this
/-- The anchor of a place. -/
def holdS (l : List S83) (place : Int) (ahead : Bool) : (S24 × Bool) × Int :=
  if place < 0 ∨ (cn (l.map (·.f2)) : Int) < place then ((⟨0, 0⟩, false), 3) else (((atS l (if ahead = true then place else place - 1)).1, ahead), 0)
def anZ (x0 x1 : Int) (ah : Bool) : Obj := .cells #[.int .i64 x0, .int .i64 x1, .bool ah] 26 (0, 0)
theorem St.an_cells {w0 w : World} {b : Nat} {x0 x1 : Int} {ah : Bool} {B : As} (h : St w0 w (sep (isBlk b (anZ x0 x1 ah)) B)) : w.cell? ⟨b, 0, none⟩ = some (.int .i64 x0) ∧ w.cell? ⟨b, 1, none⟩ = some (.int .i64 x1) ∧ w.cell? ⟨b, 2, none⟩ = some (.bool ah) ∧ ∀ o, w.frozen? ⟨b, o, none⟩ = false := by
  have hb := h.blk
  exact ⟨(cell_of hb 0).trans rfl, (cell_of hb 1).trans rfl, (cell_of hb 2).trans rfl, free_of hb⟩
set_option maxHeartbeats 8000000 in
set_option maxRecDepth 100000 in
theorem hold_nm {w0 w1 w : World} {p : Nat} {T : TS} {B : As} (b : Asn B) (h : St w0 w1 (sep (isTx p T) B)) (b1 : Below w1.heap.size w1 w) (hl : T.l.length ≤ 100000) (place : Int) (ahead : Bool) {x0 x1 : Int} {ah : Bool} {code : Int} (hr : holdS T.l place ahead = ((⟨x0, x1⟩, ah), code)) :
    Calls Try.prog 13 #[.pointer (some ⟨p, 0, none⟩), .int .i64 place, .bool ahead] w fun e w' => e = .returned (.tuple #[.agg #[.int .i64 x0, .int .i64 x1, .bool ah], .int .i64 code]) ∧ Below w.heap.size w w' := by
  obtain ⟨nc, hnc⟩ : ∃ nc, cn (T.l.map (·.f2)) = nc := ⟨_, rfl⟩
  have hcl : nc ≤ 100000 := by have := cn_le (T.l.map (·.f2)); rw [List.length_map] at this; omega
  have KL := Lib.hid (fun W (hb : Below w1.heap.size w1 W) => len_nm' b h hb hnc)
  have KAT := Lib.hid (fun W (hb : Below w1.heap.size w1 W) k y is (hr : atS T.l k = (y, is)) => at_nm' b h hb hl hr)
  have HB := Lib.hid b1
  have HS0 := Lib.hid (show St w (w.alloc (anZ 0 0 false)) (sep (isBlk w.heap.size (anZ 0 0 false)) emp) from (St.emp w).mkblk asn_emp _)
  have AB0 := Lib.hid (fun x0 x1 ah => show Asn (sep (isBlk w.heap.size (anZ x0 x1 ah)) emp) from asn_sep (asn_blk _ _) asn_emp)
  have HB0 := Lib.hid (show Below w1.heap.size w1 (w.alloc (.cells #[.int .i64 0, .int .i64 0, .bool false] 26)) from below_step b1 ((Below.refl _ w).alloc (Nat.le_refl _) _))
  obtain ⟨z0, z1, z2, zf⟩ := (show (w.alloc (.cells #[.int .i64 0, .int .i64 0, .bool false] 26)).cell? ⟨w.heap.size, 0, none⟩ = some (.int .i64 0) ∧ (w.alloc (.cells #[.int .i64 0, .int .i64 0, .bool false] 26)).cell? ⟨w.heap.size, 1, none⟩ = some (.int .i64 0) ∧ (w.alloc (.cells #[.int .i64 0, .int .i64 0, .bool false] 26)).cell? ⟨w.heap.size, 2, none⟩ = some (.bool false) ∧ ∀ o, (w.alloc (.cells #[.int .i64 0, .int .i64 0, .bool false] 26)).frozen? ⟨w.heap.size, o, none⟩ = false from HS0.out.an_cells)
  unfold holdS at hr
  rw [hnc] at hr
  clear h b b1 hl hnc
  by_cases h0 : place < 0 ∨ (nc : Int) < place
  · rw [if_pos h0] at hr
    injection hr with hr hr3
    injection hr with hr hr2
    injection hr with hr0 hr1
    subst hr0 hr1 hr2 hr3
    have HF := HS0
    have hex : decide (place < 0) = true ∨ (decide (place < 0) = false ∧ decide ((nc : Int) < place) = true) := by
      by_cases h1 : place < 0
      · exact .inl (by simpa using h1)
      · exact .inr ⟨by simpa using h1, by simp; omega⟩
    clear h0
    rcases hex with hd1 | ⟨hd1, hd2⟩
    all_goals
      go_enter Try.func13, Try.ntmps13
      go_wp2_with (go_at_call 21; with_reducible refine (KL.out _ HB0.out).mono ?_; rintro e w4 ⟨rfl, rfl⟩)
      refine bodyPost_ret (results_ct rfl _ _ w.heap.size 26 #[.int .i64 0, .int .i64 0, .bool false] (0, 0) _ rfl (HF.out.blk.trans rfl) Try.underlying26 rfl (by kernel_rfl)) rfl ⟨rfl, HF.out.bel⟩
  · rw [if_neg h0] at hr
    obtain ⟨⟨y0, y1⟩, is, hat⟩ : ∃ y is, atS T.l (if ahead = true then place else place - 1) = (y, is) := ⟨_, _, rfl⟩
    rw [hat] at hr
    injection hr with hr hr3
    injection hr with hr hr2
    injection hr with hr0 hr1
    subst hr0 hr1 hr2 hr3
    have hd1 : decide (place < 0) = false := by simp; omega
    have hd2 : decide ((nc : Int) < place) = false := by simp; omega
    have hw1 : IntKind.i64.wrap (place - 1) = place - 1 := by rw [IntKind.wrap_i64]; omega
    clear h0
    have HAR := Lib.hid (fun W (hb : Below (w.alloc (.cells #[.int .i64 0, .int .i64 0, .bool false] 26)).heap.size (w.alloc (.cells #[.int .i64 0, .int .i64 0, .bool false] 26)) W) => show St w (W.alloc (.cells #[.int .i64 y0, .int .i64 y1] 24)) (sep (isBlk w.heap.size (anZ 0 0 false)) emp) from HS0.out.below (AB0.out _ _ _) (hb.alloc hb.size _))
    cases ahead with
    | true =>
      have HAT := Lib.hid (show atS T.l place = (⟨y0, y1⟩, is) from hat)
      clear hat
      go_enter Try.func13, Try.ntmps13
      go_wp2_with (first
        | (go_at_call 21; with_reducible refine (KL.out _ HB0.out).mono ?_; rintro e w4 ⟨rfl, rfl⟩)
        | (go_at_call 23; refine (KAT.out _ HB0.out _ _ _ HAT.out).mono ?_; rintro e w5 ⟨rfl, hb⟩; have HX := Lib.hid (HAR.out _ hb); obtain ⟨f0, f1, f2, ff⟩ := HX.out.an_cells; clear hb))
      have HF := Lib.hid ((((HX.out.set1 asn_emp 0 (.int .i64 y0)).set1 asn_emp 1 (.int .i64 y1)).set1 asn_emp 2 (.bool true)))
      refine bodyPost_ret (results_ct rfl _ _ w.heap.size 26 #[.int .i64 y0, .int .i64 y1, .bool true] (0, 0) _ rfl (HF.out.blk.trans rfl) Try.underlying26 rfl (by kernel_rfl)) rfl ⟨rfl, HF.out.bel⟩
    | false =>
      have HAT := Lib.hid (show atS T.l (place - 1) = (⟨y0, y1⟩, is) from hat)
      clear hat
      go_enter Try.func13, Try.ntmps13
      go_wp2_with (first
        | (go_at_call 21; with_reducible refine (KL.out _ HB0.out).mono ?_; rintro e w4 ⟨rfl, rfl⟩)
        | (go_at_call 23; refine (KAT.out _ HB0.out _ _ _ HAT.out).mono ?_; rintro e w5 ⟨rfl, hb⟩; have HX := Lib.hid (HAR.out _ hb); obtain ⟨f0, f1, f2, ff⟩ := HX.out.an_cells; clear hb))
      have HF := Lib.hid ((((HX.out.set1 asn_emp 0 (.int .i64 y0)).set1 asn_emp 1 (.int .i64 y1)).set1 asn_emp 2 (.bool false)))
      refine bodyPost_ret (results_ct rfl _ _ w.heap.size 26 #[.int .i64 y0, .int .i64 y1, .bool false] (0, 0) _ rfl (HF.out.blk.trans rfl) Try.underlying26 rfl (by kernel_rfl)) rfl ⟨rfl, HF.out.bel⟩
/-- The place of an anchor. -/
def placeA (l : List S83) (x : S24) (ah : Bool) : Int × Int :=
  if idq x ⟨0, 0⟩ = true then (if ah = true then ((cn (l.map (·.f2)) : Int), 0) else (0, 0))
  else if hasS l x = false then (0, 5)
  else if aliveS l x = true ∧ ah = false then (aheadS l x + 1, 0) else (aheadS l x, 0)
end Go.Proofs.Ytefnpalkkhhkfaa.PC
namespace Go.Proofs.Ytefnpalkkhhkfaa.PC
open Go.RowKit Go.Proofs.YtefnpalkkhhkfaaW.PrintWords Go.Proofs.YtefnpalkkhhkfaaW.PrintLast Go.Proofs.YtefnpalkkhhkfaaW.PrintMore Go.Proofs.Ytefnpalkkhhkfaa.K Go.Proofs.Ytefnpalkkhhkfaa.IX Go.Proofs.Ytefnpalkkhhkfaa.I
attribute [local go_sem] max2_int min2_int max_two min_two max_three min_three max_four min_four
attribute [local go_sem high] eqA24
set_option linter.unusedVariables false
set_option linter.unusedSimpArgs false
theorem ahead_range (l : List S83) (x : S24) : 0 ≤ aheadS l x ∧ aheadS l x ≤ l.length := by
  unfold aheadS rankS
  have := cn_le ((l.map (·.f2)).take (placeS l x).toNat)
  rw [List.length_take, List.length_map] at this
  omega
set_option maxHeartbeats 8000000 in
set_option maxRecDepth 100000 in
theorem place_nm {w0 w1 w : World} {p : Nat} {T : TS} {B : As} (b : Asn B) (h : St w0 w1 (sep (isTx p T) B)) (b1 : Below w1.heap.size w1 w) (hl : T.l.length ≤ 100000) (x0 x1 : Int) (ah : Bool) {r code : Int} (hr : placeA T.l ⟨x0, x1⟩ ah = (r, code)) :
    Calls Try.prog 11 #[.pointer (some ⟨p, 0, none⟩), .agg #[.int .i64 x0, .int .i64 x1, .bool ah]] w fun e w' => e = .returned (.tuple #[.int .i64 r, .int .i64 code]) ∧ Below w.heap.size w w' := by
  obtain ⟨nc, hnc⟩ : ∃ nc, cn (T.l.map (·.f2)) = nc := ⟨_, rfl⟩
  obtain ⟨hb, hhb⟩ : ∃ hb, hasS T.l ⟨x0, x1⟩ = hb := ⟨_, rfl⟩
  obtain ⟨al, hal⟩ : ∃ al, aliveS T.l ⟨x0, x1⟩ = al := ⟨_, rfl⟩
  obtain ⟨an, han⟩ : ∃ an, aheadS T.l ⟨x0, x1⟩ = an := ⟨_, rfl⟩
  have har := ahead_range T.l ⟨x0, x1⟩
  have KL := Lib.hid (fun W (hb : Below w1.heap.size w1 W) => len_nm' b h hb hnc)
  have KH := Lib.hid (fun W (hb : Below w1.heap.size w1 W) => has_nm' b h hb hl hhb)
  have KA := Lib.hid (fun W (hb : Below w1.heap.size w1 W) => alive_nm b h hb hl hal)
  have KN := Lib.hid (fun W (hb : Below w1.heap.size w1 W) => ahead_nm' b h hb hl han)
  unfold placeA at hr
  rw [hnc, hhb, hal, han] at hr
  rw [han] at har
  have hw1 : IntKind.i64.wrap (an + 1) = an + 1 := by rw [IntKind.wrap_i64]; omega
  have HS0 := Lib.hid (show St w (w.alloc (anZ x0 x1 ah)) (sep (isBlk w.heap.size (anZ x0 x1 ah)) emp) from (St.emp w).mkblk asn_emp _)
  have AB0 := Lib.hid (show Asn (sep (isBlk w.heap.size (anZ x0 x1 ah)) emp) from asn_sep (asn_blk _ _) asn_emp)
  have HB0 := Lib.hid (show Below w1.heap.size w1 (w.alloc (.cells #[.int .i64 x0, .int .i64 x1, .bool ah] 26)) from below_step b1 ((Below.refl _ w).alloc (Nat.le_refl _) _))
  have HXF := Lib.hid (fun W (hb : Below (w.alloc (.cells #[.int .i64 x0, .int .i64 x1, .bool ah] 26)).heap.size (w.alloc (.cells #[.int .i64 x0, .int .i64 x1, .bool ah] 26)) W) => show W.cell? ⟨w.heap.size, 0, none⟩ = some (.int .i64 x0) ∧ W.cell? ⟨w.heap.size, 1, none⟩ = some (.int .i64 x1) ∧ W.cell? ⟨w.heap.size, 2, none⟩ = some (.bool ah) from by
    obtain ⟨c0, c1, c2, _⟩ := (HS0.out.below AB0.out hb).an_cells
    exact ⟨c0, c1, c2⟩)
  have HBW := Lib.hid (fun W (hb : Below (w.alloc (.cells #[.int .i64 x0, .int .i64 x1, .bool ah] 26)).heap.size (w.alloc (.cells #[.int .i64 x0, .int .i64 x1, .bool ah] 26)) W) => show Below w.heap.size w W ∧ Below w1.heap.size w1 W from ⟨(HS0.out.below AB0.out hb).bel, below_step HB0.out hb⟩)
  obtain ⟨z0, z1, z2⟩ := HXF.out _ (Below.refl _ _)
  clear h b b1 hl hnc hhb hal han har
  by_cases hz : idq ⟨x0, x1⟩ ⟨0, 0⟩ = true
  · rw [if_pos hz] at hr
    have hz := (idq_iff _ _).1 hz
    injection hz with e0 e1
    subst e0 e1
    cases ah with
    | true =>
      injection hr with hr hr2
      subst hr hr2
      go_enter Try.func11, Try.ntmps11
      go_wp2_with (go_at_call 21; with_reducible refine (KL.out _ HB0.out).mono ?_; rintro e w4 ⟨rfl, rfl⟩)
      go_ret2
      exact ⟨rfl, HS0.out.bel⟩
    | false =>
      injection hr with hr hr2
      subst hr hr2
      go_enter Try.func11, Try.ntmps11
      go_wp2
      go_ret2
      exact ⟨rfl, HS0.out.bel⟩
  · rw [if_neg hz] at hr
    have hz2 : (x0 == 0 && x1 == 0) = false := by simpa [idq] using hz
    clear hz
    cases hb with
    | false =>
      rw [if_pos rfl] at hr
      injection hr with hr hr2
      subst hr hr2
      go_enter Try.func11, Try.ntmps11
      go_wp2_with (go_at_call 29; refine (KH.out _ HB0.out).mono ?_; rintro e w4 ⟨rfl, hb⟩; have HB4 := Lib.hid hb; clear hb)
      go_ret2
      exact ⟨rfl, (HBW.out _ HB4.out).1⟩
    | true =>
      rw [if_neg (by decide)] at hr
      have hcs : (al = true ∧ ah = false ∧ r = an + 1 ∧ code = 0) ∨ ((al = false ∨ ah = true) ∧ r = an ∧ code = 0) := by
        cases al <;> cases ah <;> simp at hr <;> simp [hr.1.symm, hr.2.symm]
      rcases hcs with ⟨rfl, rfl, rfl, rfl⟩ | ⟨hcs, rfl, rfl⟩
      · clear hr
        go_enter Try.func11, Try.ntmps11
        go_wp2_with (first
          | (go_at_call 29; with_reducible refine (KH.out _ HB0.out).mono ?_; rintro e w4 ⟨rfl, hb⟩; have HB4 := Lib.hid hb; obtain ⟨f0, f1, f2⟩ := HXF.out _ HB4.out; clear hb)
          | (go_at_call 26; with_reducible refine (KA.out _ (HBW.out _ HB4.out).2).mono ?_; rintro e w5 ⟨rfl, hb⟩; have HB5 := Lib.hid (below_step HB4.out hb); obtain ⟨g0, g1, g2⟩ := HXF.out _ HB5.out; clear hb)
          | (go_at_call 30; with_reducible refine (KN.out _ (HBW.out _ HB5.out).2).mono ?_; rintro e w6 ⟨rfl, hb⟩; have HB6 := Lib.hid (below_step HB5.out hb); clear hb))
        go_ret2
        exact ⟨rfl, (HBW.out _ HB6.out).1⟩
      · clear hr
        have hcs2 : al = false ∨ (al = true ∧ ah = true) := by cases al <;> cases ah <;> simp_all
        clear hcs
        rcases hcs2 with rfl | ⟨rfl, rfl⟩
        all_goals
          go_enter Try.func11, Try.ntmps11
          go_wp2_with (first
            | (go_at_call 29; with_reducible refine (KH.out _ HB0.out).mono ?_; rintro e w4 ⟨rfl, hb⟩; have HB4 := Lib.hid hb; obtain ⟨f0, f1, f2⟩ := HXF.out _ HB4.out; clear hb)
            | (go_at_call 26; with_reducible refine (KA.out _ (HBW.out _ HB4.out).2).mono ?_; rintro e w5 ⟨rfl, hb⟩; have HB5 := Lib.hid (below_step HB4.out hb); obtain ⟨g0, g1, g2⟩ := HXF.out _ HB5.out; clear hb)
            | (go_at_call 30; with_reducible refine (KN.out _ (HBW.out _ HB5.out).2).mono ?_; rintro e w6 ⟨rfl, hb⟩; have HB6 := Lib.hid (below_step HB5.out hb); clear hb))
          go_ret2
          exact ⟨rfl, (HBW.out _ HB6.out).1⟩
end Go.Proofs.Ytefnpalkkhhkfaa.PC
namespace Go.Proofs.Ytefnpalkkhhkfaa.PC
open Go.RowKit Go.Proofs.YtefnpalkkhhkfaaW.PrintWords Go.Proofs.YtefnpalkkhhkfaaW.PrintLast Go.Proofs.YtefnpalkkhhkfaaW.PrintMore
attribute [local go_sem] max2_int min2_int max_two min_two max_three min_three max_four min_four
set_option linter.unusedVariables false
set_option linter.unusedSimpArgs false
attribute [local go_sem high] eqA24
def cursor_Snap.l0 : Nat → List Bool → Int → Option (Int)
  | 0, _, _ => none
  | k + 1, x0, x5 => if x5 > 0 then (if 0 ≤ x5 then (if x5 < (x0.length : Int) then (if rdOf false x0 x5 = true then (some x5) else (cursor_Snap.l0 k x0 (wrap64 (x5 - 1)))) else (none)) else (none)) else (some 0)
def cursor_Snap.f (k : Nat) (l0 : List Bool) (a1 : Int) : Option (Int) := cursor_Snap.l0 k l0 (mn a1 (wrap64 ((l0.length : Int) - 1)))
theorem cursor_Snap.mono_l : ∀ k, (∀ y0 y1, LeO (cursor_Snap.l0 k y0 y1) (cursor_Snap.l0 (k + 1) y0 y1))
  | 0 => fun _ _ r h => by simp [cursor_Snap.l0] at h
  | k + 1 => by
    have ih0 := cursor_Snap.mono_l k
    · intro y0 y1
      unfold cursor_Snap.l0
      repeat' first
      | (with_reducible exact ih0 _ _)
      | (with_reducible exact LeO.refl _)
      | (with_reducible exact LeO.none _)
      | (with_reducible refine LeO.ite ?_ ?_)
      | (with_reducible refine LeO.bind ?_ (fun _ => ?_))
      | exact ih0 _ _
      | exact LeO.none _
      | refine LeO.ite ?_ ?_
      | refine LeO.bind ?_ (fun _ => ?_)
theorem cursor_Snap.mono : ∀ a0 a1 k, LeO (cursor_Snap.f k a0 a1) (cursor_Snap.f (k + 1) a0 a1) := by
  intro a0 a1 k
  have ih0 := cursor_Snap.mono_l k
  unfold cursor_Snap.f
  repeat' first
      | (with_reducible exact ih0 _ _)
      | (with_reducible exact LeO.refl _)
      | (with_reducible exact LeO.none _)
      | (with_reducible refine LeO.ite ?_ ?_)
      | (with_reducible refine LeO.bind ?_ (fun _ => ?_))
      | exact ih0 _ _
      | exact LeO.none _
      | refine LeO.ite ?_ ?_
      | refine LeO.bind ?_ (fun _ => ?_)
set_option maxHeartbeats 8000000 in
set_option maxRecDepth 100000 in
theorem cursor_Snap.calls (k : Nat) (A0 : Option Addr) (c0 : Nat) (l0 : List Bool) (a1 : Int) (r : Int) (w : World) (hr0 : Kd.C Kd.bool w A0 l0.length l0) (hc0 : l0.length ≤ c0) (h : cursor_Snap.f k l0 a1 = some r) :
    Calls Try.prog 15 #[.slice A0 l0.length c0, .int .i64 a1] w fun e w' => e = .returned (.int .i64 r) ∧ Below w.heap.size w w' := by
  have HR0 := Aside0.mk hr0
  have HC0 := Aside0.mk hc0
  clear hr0 hc0
  have HB := Aside0.mk (Below.refl w.heap.size w)
  have H : (cursor_Snap.l0 k l0 (mn a1 (wrap64 ((l0.length : Int) - 1)))) = some r := h
  clear h
  obtain ⟨ji3, hji3⟩ : ∃ j_ : Int, (mn a1 (wrap64 ((l0.length : Int) - 1))) = j_ := ⟨_, rfl⟩
  replace H : (cursor_Snap.l0 k l0 ji3) = some r := by first | (rw [hji3] at H; exact H) | (simp only [hji3] at H ⊢; exact H)
  have hji3_ : (if (wrap64 ((l0.length : Int) - 1)) < a1 then (wrap64 ((l0.length : Int) - 1)) else a1) = ji3 := hji3
  have H' := Aside0.mk H
  clear H
  go_enter Try.func15, Try.ntmps15
  go_wp2
  go_loopg [5] k (fun kq v5 w' => ∃ (x5_1 : Int), v5 = .int .i64 x5_1 ∧ Aside0 (cursor_Snap.l0 kq l0 x5_1 = some r) ∧ Aside0 (kq ≤ k) ∧ Aside0 (Below w.heap.size w w'))
  case atStart => exact ⟨(ji3), (by first | rfl | (simp; done) | (simp only [← hji3] <;> (first | rfl | simp)) | (simp [*]; done)), H', ⟨Nat.le_refl _⟩, ⟨by repeat (first | (with_reducible first | exact HB.out | apply below_alloc | apply pw_below_drewN | apply below_drew1) | exact HB.out)⟩⟩
  case round =>
    clear H'
    try clear c1
    try clear p2
    obtain ⟨x5_1, rfl, HA, HK1, HB⟩ := hrel
    cases gk with
    | zero => exact absurd HA.out (by simp [cursor_Snap.l0])
    | succ k1 =>
      have H := HA.out
      clear HA
      simp only [cursor_Snap.l0] at H
      by_cases c4 : x5_1 > 0
      · rw [if_pos c4] at H
        have c4b0 : decide (0 < x5_1) = true := decide_eq_true c4
        clear c4
        by_cases c5 : 0 ≤ x5_1
        · rw [if_pos c5] at H
          have c5b0 : decide (0 ≤ x5_1) = true := decide_eq_true c5
          clear c5
          by_cases c6 : x5_1 < (l0.length : Int)
          · rw [if_pos c6] at H
            have c6b0 : decide (x5_1 < (l0.length : Int)) = true := decide_eq_true c6
            clear c6
            obtain ⟨bq7, hbq7⟩ : ∃ b_ : Bool, b_ = (rdOf false l0 x5_1) := ⟨_, rfl⟩
            replace H : (if bq7 = true then (some x5_1) else (cursor_Snap.l0 k1 l0 (wrap64 (x5_1 - 1)))) = some r := by rw [← hbq7] at H; exact H
            have Nbq7 := Aside0.mk hbq7
            clear hbq7
            by_cases c8 : bq7 = true
            · subst c8
              have H1 : (some x5_1) = some r := by rw [if_pos rfl] at H; exact H
              clear H
              have H := H1
              clear H1
              obtain rfl := Option.some.inj H
              have p101 : 0 ≤ (x5_1 : Int) := of_decide_eq_true (by first | (with_reducible assumption) | assumption)
              have q101 : x5_1 < (l0.length : Int) := of_decide_eq_true (by first | (with_reducible assumption) | assumption)
              obtain ⟨ad101, e101, hx101_0⟩ := Kd.at_bool HR0.out x5_1 p101 q101
              (try rw [← Nbq7.out] at hx101_0)
              cases e101
              replace hx101_0 := (HB.out.cell (World.block_lt_of_cell? w _ hx101_0)).trans hx101_0
              replace p101 := eq_true p101
              replace q101 := eq_true q101
              go_wp2
              go_ret
              exact ⟨by first | rfl | (simp [errW_none, errW_some] <;> rfl) | (simp only [← hji3]; first | rfl | (simp [errW_none, errW_some] <;> rfl)) | (simp [*, errW_none, errW_some] <;> rfl), by repeat (first | (with_reducible first | exact HB.out | apply below_alloc | apply pw_below_drewN | apply below_drew1) | exact HB.out)⟩
            · replace c8 := Bool.eq_false_iff.mpr c8
              subst c8
              have H1 : (cursor_Snap.l0 k1 l0 (wrap64 (x5_1 - 1))) = some r := by rw [if_neg (show ¬ (false = true) by decide)] at H; exact H
              clear H
              have H := H1
              clear H1
              have H' := Aside0.mk H
              clear H
              have p101 : 0 ≤ (x5_1 : Int) := of_decide_eq_true (by first | (with_reducible assumption) | assumption)
              have q101 : x5_1 < (l0.length : Int) := of_decide_eq_true (by first | (with_reducible assumption) | assumption)
              obtain ⟨ad101, e101, hx101_0⟩ := Kd.at_bool HR0.out x5_1 p101 q101
              (try rw [← Nbq7.out] at hx101_0)
              cases e101
              replace hx101_0 := (HB.out.cell (World.block_lt_of_cell? w _ hx101_0)).trans hx101_0
              replace p101 := eq_true p101
              replace q101 := eq_true q101
              go_wp2
              go_roundg k1
              case measure => have := HK1.out; omega
              case rel => exact ⟨(wrap64 (x5_1 - 1)), (by first | rfl | (simp; done) | (simp [*]; done)), H', ⟨by have := HK1.out; omega⟩, ⟨by repeat (first | (with_reducible first | exact HB.out | apply below_alloc | apply pw_below_drewN | apply below_drew1) | exact HB.out)⟩⟩
          · rw [if_neg c6] at H
            exact absurd H (by simp)
        · rw [if_neg c5] at H
          exact absurd H (by simp)
      · rw [if_neg c4] at H
        have c4b0 : decide (0 < x5_1) = false := decide_eq_false c4
        clear c4
        obtain rfl := Option.some.inj H
        go_wp2
        go_ret
        exact ⟨by first | rfl | (simp [errW_none, errW_some] <;> rfl) | (simp only [← hji3]; first | rfl | (simp [errW_none, errW_some] <;> rfl)) | (simp [*, errW_none, errW_some] <;> rfl), by repeat (first | (with_reducible first | exact HB.out | apply below_alloc | apply pw_below_drewN | apply below_drew1) | exact HB.out)⟩
def cursor_Left.f (k : Nat) (l0 : List Bool) (a1 : Int) : Option (Int) := if a1 < 1 then (some 0) else ((cursor_Snap.f k l0 (wrap64 (a1 - 1))).bind fun t102 => (some t102))
theorem cursor_Left.mono : ∀ a0 a1 k, LeO (cursor_Left.f k a0 a1) (cursor_Left.f (k + 1) a0 a1) := by
  intro a0 a1 k
  unfold cursor_Left.f
  repeat' first
      | (with_reducible exact cursor_Snap.mono _ _ _)
      | (with_reducible exact LeO.refl _)
      | (with_reducible exact LeO.none _)
      | (with_reducible refine LeO.ite ?_ ?_)
      | (with_reducible refine LeO.bind ?_ (fun _ => ?_))
      | exact cursor_Snap.mono _ _ _
      | exact LeO.none _
      | refine LeO.ite ?_ ?_
      | refine LeO.bind ?_ (fun _ => ?_)
set_option maxHeartbeats 8000000 in
set_option maxRecDepth 100000 in
theorem cursor_Left.calls (k : Nat) (A0 : Option Addr) (c0 : Nat) (l0 : List Bool) (a1 : Int) (r : Int) (w : World) (hr0 : Kd.C Kd.bool w A0 l0.length l0) (hc0 : l0.length ≤ c0) (h : cursor_Left.f k l0 a1 = some r) :
    Calls Try.prog 17 #[.slice A0 l0.length c0, .int .i64 a1] w fun e w' => e = .returned (.int .i64 r) ∧ Below w.heap.size w w' := by
  have HR0 := Aside0.mk hr0
  have HC0 := Aside0.mk hc0
  clear hr0 hc0
  have HB := Aside0.mk (Below.refl w.heap.size w)
  have H : (if a1 < 1 then (some 0) else ((cursor_Snap.f k l0 (wrap64 (a1 - 1))).bind fun t102 => (some t102))) = some r := h
  clear h
  by_cases c3 : a1 < 1
  · rw [if_pos c3] at H
    have c3b0 : decide (a1 < 1) = true := decide_eq_true c3
    clear c3
    obtain rfl := Option.some.inj H
    go_enter Try.func17, Try.ntmps17
    go_wp2
    go_ret
    exact ⟨by first | rfl | (simp [errW_none, errW_some] <;> rfl) | (simp [*, errW_none, errW_some] <;> rfl), by repeat (first | (with_reducible first | exact HB.out | apply below_alloc | apply pw_below_drewN | apply below_drew1) | exact HB.out)⟩
  · rw [if_neg c3] at H
    have c3b0 : decide (a1 < 1) = false := decide_eq_false c3
    clear c3
    replace H := Option.bind_eq_some_iff.mp H
    obtain ⟨t102, A40, H⟩ := H
    replace H : (some t102) = some r := H
    have A4 := Aside0.mk A40
    clear A40
    obtain rfl := Option.some.inj H
    go_enter Try.func17, Try.ntmps17
    go_wp2_with (first | ((with_reducible refine gate_callee (f := 15) rfl ?_); refine goesL_ (some 10) rfl rfl Try.func15 (by kernel_rfl) rfl #[.slice A0 l0.length c0, .int .i64 (wrap64 (a1 - 1))] rfl (by (try simp only [List.map_toArray, List.map_cons, List.map_nil]); first | done | rfl | (simp only [List.length_drop, List.length_take]; rfl)) ?_; (with_reducible refine (cursor_Snap.calls k _ _ l0 (wrap64 (a1 - 1)) t102 _ ?side1 ?side2 A4.out).mono ?_); (case side1 => repeat (first | exact HR0.out | (with_reducible refine Kd.C_alloc ?_ _) | (with_reducible refine Kd.C_drewN ?_ _) | (with_reducible refine Kd.C_drew ?_))); (case side2 => exact HC0.out); rintro e w5 ⟨rfl, hb⟩; refine ⟨_, rfl, ?_⟩; have n0_ := Aside0.mk (below_step (by repeat (first | (with_reducible first | exact HB.out | apply below_alloc | apply pw_below_drewN | apply below_drew1) | exact HB.out)) hb); clear HB; have HB := n0_; clear n0_; (try clear hb); (try clear hb2); (try clear hk); (try clear hi)))
    go_ret
    exact ⟨by first | rfl | (simp [errW_none, errW_some] <;> rfl) | (simp [*, errW_none, errW_some] <;> rfl), by repeat (first | (with_reducible first | exact HB.out | apply below_alloc | apply pw_below_drewN | apply below_drew1) | exact HB.out)⟩
def slices_Index_bool_bool.l0 : Nat → List Bool → Bool → Int → Int → Option (Int)
  | 0, _, _, _, _ => none
  | k + 1, x0, x1, x7, x8 => if x8 < x7 then (if 0 ≤ x8 then (if x8 < (x0.length : Int) then (if (x1 == (rdOf false x0 x8)) = true then (some x8) else (slices_Index_bool_bool.l0 k x0 x1 x7 (wrap64 (x8 + 1)))) else (none)) else (none)) else (some (-1))
def slices_Index_bool_bool.f (k : Nat) (l0 : List Bool) (a1 : Bool) : Option (Int) := slices_Index_bool_bool.l0 k l0 a1 (l0.length : Int) 0
theorem slices_Index_bool_bool.mono_l : ∀ k, (∀ y0 y1 y2 y3, LeO (slices_Index_bool_bool.l0 k y0 y1 y2 y3) (slices_Index_bool_bool.l0 (k + 1) y0 y1 y2 y3))
  | 0 => fun _ _ _ _ r h => by simp [slices_Index_bool_bool.l0] at h
  | k + 1 => by
    have ih0 := slices_Index_bool_bool.mono_l k
    · intro y0 y1 y2 y3
      unfold slices_Index_bool_bool.l0
      repeat' first
      | (with_reducible exact ih0 _ _ _ _)
      | (with_reducible exact LeO.refl _)
      | (with_reducible exact LeO.none _)
      | (with_reducible refine LeO.ite ?_ ?_)
      | (with_reducible refine LeO.bind ?_ (fun _ => ?_))
      | exact ih0 _ _ _ _
      | exact LeO.none _
      | refine LeO.ite ?_ ?_
      | refine LeO.bind ?_ (fun _ => ?_)
theorem slices_Index_bool_bool.mono : ∀ a0 a1 k, LeO (slices_Index_bool_bool.f k a0 a1) (slices_Index_bool_bool.f (k + 1) a0 a1) := by
  intro a0 a1 k
  have ih0 := slices_Index_bool_bool.mono_l k
  unfold slices_Index_bool_bool.f
  repeat' first
      | (with_reducible exact ih0 _ _ _ _)
      | (with_reducible exact LeO.refl _)
      | (with_reducible exact LeO.none _)
      | (with_reducible refine LeO.ite ?_ ?_)
      | (with_reducible refine LeO.bind ?_ (fun _ => ?_))
      | exact ih0 _ _ _ _
      | exact LeO.none _
      | refine LeO.ite ?_ ?_
      | refine LeO.bind ?_ (fun _ => ?_)
set_option maxHeartbeats 8000000 in
set_option maxRecDepth 100000 in
theorem slices_Index_bool_bool.calls (k : Nat) (A0 : Option Addr) (c0 : Nat) (l0 : List Bool) (a1 : Bool) (r : Int) (w : World) (hr0 : Kd.C Kd.bool w A0 l0.length l0) (hc0 : l0.length ≤ c0) (h : slices_Index_bool_bool.f k l0 a1 = some r) :
    Calls Try.prog 33 #[.slice A0 l0.length c0, .bool a1] w fun e w' => e = .returned (.int .i64 r) ∧ Drawn0 w w' := by
  have HR0 := Aside0.mk hr0
  have HC0 := Aside0.mk hc0
  clear hr0 hc0
  have H : (slices_Index_bool_bool.l0 k l0 a1 (l0.length : Int) 0) = some r := h
  clear h
  have H' := Aside0.mk H
  clear H
  go_enter Try.func33, Try.ntmps33
  go_wp2
  go_loopg [8] k (fun kq v8 w' => ∃ (x8_1 : Int), v8 = .int .i64 x8_1 ∧ Aside0 (slices_Index_bool_bool.l0 kq l0 a1 (l0.length : Int) x8_1 = some r) ∧ Aside0 (kq ≤ k) ∧ Drawn0 w w')
  case atStart => exact ⟨(0), (by first | rfl | (simp; done) | (simp [*]; done)), H', ⟨Nat.le_refl _⟩, by repeat (first | exact Drawn0.refl _ | apply Drawn0.step)⟩
  case round =>
    clear H'
    try clear p2
    obtain ⟨x8_1, rfl, HA, HK1, ⟨m1, rfl⟩⟩ := hrel
    cases gk with
    | zero => exact absurd HA.out (by simp [slices_Index_bool_bool.l0])
    | succ k1 =>
      have H := HA.out
      clear HA
      simp only [slices_Index_bool_bool.l0] at H
      by_cases c3 : x8_1 < (l0.length : Int)
      · rw [if_pos c3] at H
        have c3b0 : decide (x8_1 < (l0.length : Int)) = true := decide_eq_true c3
        clear c3
        by_cases c4 : 0 ≤ x8_1
        · rw [if_pos c4] at H
          have c4b0 : decide (0 ≤ x8_1) = true := decide_eq_true c4
          clear c4
          by_cases c5 : x8_1 < (l0.length : Int)
          · rw [if_pos c5] at H
            have c5b0 : decide (x8_1 < (l0.length : Int)) = true := decide_eq_true c5
            clear c5
            by_cases c6 : (a1 == (rdOf false l0 x8_1)) = true
            · rw [if_pos c6] at H
              have c6b0 : (a1 == (rdOf false l0 x8_1)) = true := c6
              (try (have c6b1 : decide (a1 = (rdOf false l0 x8_1)) = true := by simpa using c6))
              (try (have c6b2 : (a1 == (rdOf false l0 x8_1)) = true := by simpa using c6))
              clear c6
              obtain rfl := Option.some.inj H
              have p103 : 0 ≤ (x8_1 : Int) := of_decide_eq_true (by first | (with_reducible assumption) | assumption)
              have q103 : x8_1 < (l0.length : Int) := of_decide_eq_true (by first | (with_reducible assumption) | assumption)
              obtain ⟨ad103, e103, hx103_0⟩ := Kd.at_bool HR0.out x8_1 p103 q103
              cases e103
              replace p103 := eq_true p103
              replace q103 := eq_true q103
              go_wp2
              go_ret
              exact ⟨by first | rfl | (simp; done) | (simp [*]; done), by repeat (first | exact Drawn0.refl _ | apply Drawn0.step)⟩
            · rw [if_neg c6] at H
              have c6b0 : (a1 == (rdOf false l0 x8_1)) = false := by simpa using c6
              (try (have c6b1 : decide (a1 = (rdOf false l0 x8_1)) = false := by simpa using c6))
              (try (have c6b2 : (a1 == (rdOf false l0 x8_1)) = false := by simpa using c6))
              (try (have c6b3 : ¬ (a1 = (rdOf false l0 x8_1)) := by simpa using c6))
              clear c6
              have H' := Aside0.mk H
              clear H
              have p103 : 0 ≤ (x8_1 : Int) := of_decide_eq_true (by first | (with_reducible assumption) | assumption)
              have q103 : x8_1 < (l0.length : Int) := of_decide_eq_true (by first | (with_reducible assumption) | assumption)
              obtain ⟨ad103, e103, hx103_0⟩ := Kd.at_bool HR0.out x8_1 p103 q103
              cases e103
              replace p103 := eq_true p103
              replace q103 := eq_true q103
              go_wp2
              go_roundg k1
              case measure => have := HK1.out; omega
              case rel => exact ⟨(wrap64 (x8_1 + 1)), (by first | rfl | (simp; done) | (simp [*]; done)), H', ⟨by have := HK1.out; omega⟩, by repeat (first | exact Drawn0.refl _ | apply Drawn0.step)⟩
          · rw [if_neg c5] at H
            exact absurd H (by simp)
        · rw [if_neg c4] at H
          exact absurd H (by simp)
      · rw [if_neg c3] at H
        have c3b0 : decide (x8_1 < (l0.length : Int)) = false := decide_eq_false c3
        clear c3
        obtain rfl := Option.some.inj H
        go_wp2
        go_ret
        exact ⟨by first | rfl | (simp; done) | (simp [*]; done), by repeat (first | exact Drawn0.refl _ | apply Drawn0.step)⟩
def cursor_Right.j0 : Nat → List Bool → Int → Option (Int)
  | 0, _, _ => none
  | k + 1, x0, x1 => if x1 ≥ (mx 0 (wrap64 ((x0.length : Int) - 1))) then (some (mx 0 (wrap64 ((x0.length : Int) - 1)))) else (if 0 ≤ (wrap64 (x1 + 1)) then (if (wrap64 (x1 + 1)) ≤ (x0.length : Int) then ((slices_Index_bool_bool.f k (x0.drop ((wrap64 (x1 + 1)) : Int).toNat) true).bind fun t105 => (if t105 ≥ 0 then (some (wrap64 ((wrap64 (x1 + 1)) + t105))) else (some (mx 0 (wrap64 ((x0.length : Int) - 1)))))) else (none)) else (none))
def cursor_Right.f (k : Nat) (l0 : List Bool) (a1 : Int) : Option (Int) := if a1 < 0 then (cursor_Right.j0 k l0 (-1)) else (cursor_Right.j0 k l0 a1)
theorem cursor_Right.mono_l : ∀ k, (∀ y0 y1, LeO (cursor_Right.j0 k y0 y1) (cursor_Right.j0 (k + 1) y0 y1))
  | 0 => fun _ _ r h => by simp [cursor_Right.j0] at h
  | k + 1 => by
    have ih0 := cursor_Right.mono_l k
    · intro y0 y1
      unfold cursor_Right.j0
      repeat' first
      | (with_reducible exact ih0 _ _)
      | (with_reducible exact slices_Index_bool_bool.mono _ _ _)
      | (with_reducible exact LeO.refl _)
      | (with_reducible exact LeO.none _)
      | (with_reducible refine LeO.ite ?_ ?_)
      | (with_reducible refine LeO.bind ?_ (fun _ => ?_))
      | exact ih0 _ _
      | exact slices_Index_bool_bool.mono _ _ _
      | exact LeO.none _
      | refine LeO.ite ?_ ?_
      | refine LeO.bind ?_ (fun _ => ?_)
theorem cursor_Right.mono : ∀ a0 a1 k, LeO (cursor_Right.f k a0 a1) (cursor_Right.f (k + 1) a0 a1) := by
  intro a0 a1 k
  have ih0 := cursor_Right.mono_l k
  unfold cursor_Right.f
  repeat' first
      | (with_reducible exact ih0 _ _)
      | (with_reducible exact slices_Index_bool_bool.mono _ _ _)
      | (with_reducible exact LeO.refl _)
      | (with_reducible exact LeO.none _)
      | (with_reducible refine LeO.ite ?_ ?_)
      | (with_reducible refine LeO.bind ?_ (fun _ => ?_))
      | exact ih0 _ _
      | exact slices_Index_bool_bool.mono _ _ _
      | exact LeO.none _
      | refine LeO.ite ?_ ?_
      | refine LeO.bind ?_ (fun _ => ?_)
set_option maxHeartbeats 8000000 in
set_option maxRecDepth 100000 in
theorem cursor_Right.calls (k : Nat) (A0 : Option Addr) (c0 : Nat) (l0 : List Bool) (a1 : Int) (r : Int) (w : World) (hr0 : Kd.C Kd.bool w A0 l0.length l0) (hc0 : l0.length ≤ c0) (h : cursor_Right.f k l0 a1 = some r) :
    Calls Try.prog 19 #[.slice A0 l0.length c0, .int .i64 a1] w fun e w' => e = .returned (.int .i64 r) ∧ Below w.heap.size w w' := by
  have HR0 := Aside0.mk hr0
  have HC0 := Aside0.mk hc0
  clear hr0 hc0
  have HB := Aside0.mk (Below.refl w.heap.size w)
  have H : (if a1 < 0 then (cursor_Right.j0 k l0 (-1)) else (cursor_Right.j0 k l0 a1)) = some r := h
  clear h
  have HC3 := Aside0.mk H
  clear H
  go_enter Try.func19, Try.ntmps19
  go_upto_if 8 with (fail)
  go_cut [1] (fun v1 wc => ∃ (kq : Nat) (x1_2 : Int), v1 = .int .i64 x1_2 ∧ Aside0 (cursor_Right.j0 kq l0 x1_2 = some r) ∧ Aside0 (kq ≤ k) ∧ Aside0 (Below w.heap.size w wc))
  case first =>
    have H := HC3.out
    clear HC3
    by_cases c4 : a1 < 0
    · rw [if_pos c4] at H
      have c4b0 : decide (a1 < 0) = true := decide_eq_true c4
      clear c4
      (first | rw [c4b0] | (simp only [i64_w, i32_w]; rw [c4b0]) | skip)
      have H' := Aside0.mk H
      clear H
      go_wp2
      go_meet
      case rel => exact ⟨_, ((-1)), (by first | rfl | (simp; done) | (simp [*]; done)), H', ⟨by first | omega | exact Nat.le_refl _⟩, ⟨by repeat (first | (with_reducible first | exact HB.out | apply below_alloc | apply pw_below_drewN | apply below_drew1) | exact HB.out)⟩⟩
    · rw [if_neg c4] at H
      have c4b0 : decide (a1 < 0) = false := decide_eq_false c4
      clear c4
      (first | rw [c4b0] | (simp only [i64_w, i32_w]; rw [c4b0]) | skip)
      have H' := Aside0.mk H
      clear H
      go_wp2
      go_meet
      case rel => exact ⟨_, (a1), (by first | rfl | (simp; done) | (simp [*]; done)), H', ⟨by first | omega | exact Nat.le_refl _⟩, ⟨by repeat (first | (with_reducible first | exact HB.out | apply below_alloc | apply pw_below_drewN | apply below_drew1) | exact HB.out)⟩⟩
  case rest =>
    clear HC3
    try clear c1
    try clear p2
    try clear c4
    try clear c4b0
    obtain ⟨kq, x1_2, rfl, HA, HJ2, HB⟩ := hcut
    cases kq with
    | zero => exact absurd HA.out (by simp [cursor_Right.j0])
    | succ kj2 =>
      have H := HA.out
      clear HA
      simp only [cursor_Right.j0] at H
      obtain ⟨ji5, hji5⟩ : ∃ j_ : Int, (mx 0 (wrap64 ((l0.length : Int) - 1))) = j_ := ⟨_, rfl⟩
      replace H : (if x1_2 ≥ (ji5) then (some ji5) else (if 0 ≤ (wrap64 (x1_2 + 1)) then (if (wrap64 (x1_2 + 1)) ≤ (l0.length : Int) then ((slices_Index_bool_bool.f kj2 (l0.drop ((wrap64 (x1_2 + 1)) : Int).toNat) true).bind fun t105 => (if t105 ≥ 0 then (some (wrap64 ((wrap64 (x1_2 + 1)) + t105))) else (some ji5))) else (none)) else (none))) = some r := by first | (rw [hji5] at H; exact H) | (simp only [hji5] at H ⊢; exact H)
      have hji5_ : (if 0 < (wrap64 ((l0.length : Int) - 1)) then (wrap64 ((l0.length : Int) - 1)) else 0) = ji5 := hji5
      by_cases c6 : x1_2 ≥ (ji5)
      · rw [if_pos c6] at H
        have c6b0 : decide ((ji5) ≤ x1_2) = true := decide_eq_true c6
        clear c6
        obtain rfl := Option.some.inj H
        go_wp2
        go_ret
        exact ⟨by first | rfl | (simp [errW_none, errW_some] <;> rfl) | (simp only [← hji5]; first | rfl | (simp [errW_none, errW_some] <;> rfl)) | (simp [*, errW_none, errW_some] <;> rfl), by repeat (first | (with_reducible first | exact HB.out | apply below_alloc | apply pw_below_drewN | apply below_drew1) | exact HB.out)⟩
      · rw [if_neg c6] at H
        have c6b0 : decide ((ji5) ≤ x1_2) = false := decide_eq_false c6
        clear c6
        obtain ⟨ji7, hji7⟩ : ∃ j_ : Int, (wrap64 (x1_2 + 1)) = j_ := ⟨_, rfl⟩
        replace H : (if 0 ≤ (ji7) then (if (ji7) ≤ (l0.length : Int) then ((slices_Index_bool_bool.f kj2 (l0.drop ((ji7) : Int).toNat) true).bind fun t105 => (if t105 ≥ 0 then (some (wrap64 ((ji7) + t105))) else (some ji5))) else (none)) else (none)) = some r := by first | (rw [hji7] at H; exact H) | (simp only [hji7] at H ⊢; exact H)
        have hji7w : (IntKind.i64.wrap (x1_2 + 1)) = ji7 := (i64_w _).trans hji7
        by_cases c8 : 0 ≤ (ji7)
        · rw [if_pos c8] at H
          have c8b0 := eq_true c8
          have c8b1 : decide (0 ≤ (ji7)) = true := decide_eq_true c8
          clear c8
          by_cases c9 : (ji7) ≤ (l0.length : Int)
          · rw [if_pos c9] at H
            have c9b0 := eq_true c9
            have c9b1 : decide ((ji7) ≤ (l0.length : Int)) = true := decide_eq_true c9
            clear c9
            replace H := Option.bind_eq_some_iff.mp H
            obtain ⟨t105, A100, H⟩ := H
            replace H : (if t105 ≥ 0 then (some (wrap64 ((ji7) + t105))) else (some ji5)) = some r := H
            have A10 := Aside0.mk A100
            clear A100
            by_cases c11 : t105 ≥ 0
            · rw [if_pos c11] at H
              have c11b0 : decide (0 ≤ t105) = true := decide_eq_true c11
              clear c11
              obtain rfl := Option.some.inj H
              obtain ⟨i012, hi012, _, hsz12, _⟩ := info_parts info4
              obtain ⟨A12, hcut12, hA12, hC12⟩ := print_drop_of (P := Try.prog) Value.bool false 40 4 .i64 Try.underlying40 hi012 hsz12 A0 c0 l0 (ji7) (of_decide_eq_true (by first | (with_reducible assumption) | assumption)) (of_decide_eq_true (by first | (with_reducible assumption) | assumption)) HC0.out
              have HR104 := Aside0.mk (Kd.C_of_reads (h1 := fun _ => rfl) (hA12 _ (Kd.reads_of_C HR0.out)))
              have HC104 := Aside0.mk hC12
              clear hA12 hC12 hi012 hsz12
              go_wp2_with (first | ((with_reducible refine gate_callee (f := 33) rfl ?_); refine goesL_ (some 21) rfl rfl Try.func33 (by kernel_rfl) rfl #[.slice A12 (l0.drop ((ji7) : Int).toNat).length (c0 - (ji7).toNat), .bool true] rfl (by (try simp only [List.map_toArray, List.map_cons, List.map_nil]); first | done | (rw [show (l0.drop ((ji7) : Int).toNat).length = (l0.length - (ji7).toNat) from List.length_drop] <;> rfl) | (simp only [hji7]; rfl) | rfl | (simp only [List.length_drop, List.length_take]; rfl)) ?_; (with_reducible refine (slices_Index_bool_bool.calls kj2 _ _ (l0.drop ((ji7) : Int).toNat) true t105 _ ?side1 ?side2 A10.out).mono ?_); (case side1 => repeat (first | exact (Kd.C_below HR104.out HB.out) | (with_reducible refine Kd.C_alloc ?_ _) | (with_reducible refine Kd.C_drewN ?_ _) | (with_reducible refine Kd.C_drew ?_))); (case side2 => exact HC104.out); rintro e w' ⟨rfl, ⟨nd, rfl⟩⟩; refine ⟨_, rfl, ?_⟩))
              go_ret
              exact ⟨by first | rfl | (simp [errW_none, errW_some] <;> rfl) | (simp only [← hji5, ← hji7]; first | rfl | (simp [errW_none, errW_some] <;> rfl)) | (simp [*, errW_none, errW_some] <;> rfl), by repeat (first | (with_reducible first | exact HB.out | apply below_alloc | apply pw_below_drewN | apply below_drew1) | exact HB.out)⟩
            · rw [if_neg c11] at H
              have c11b0 : decide (0 ≤ t105) = false := decide_eq_false c11
              clear c11
              obtain rfl := Option.some.inj H
              obtain ⟨i013, hi013, _, hsz13, _⟩ := info_parts info4
              obtain ⟨A13, hcut13, hA13, hC13⟩ := print_drop_of (P := Try.prog) Value.bool false 40 4 .i64 Try.underlying40 hi013 hsz13 A0 c0 l0 (ji7) (of_decide_eq_true (by first | (with_reducible assumption) | assumption)) (of_decide_eq_true (by first | (with_reducible assumption) | assumption)) HC0.out
              have HR104 := Aside0.mk (Kd.C_of_reads (h1 := fun _ => rfl) (hA13 _ (Kd.reads_of_C HR0.out)))
              have HC104 := Aside0.mk hC13
              clear hA13 hC13 hi013 hsz13
              go_wp2_with (first | ((with_reducible refine gate_callee (f := 33) rfl ?_); refine goesL_ (some 21) rfl rfl Try.func33 (by kernel_rfl) rfl #[.slice A13 (l0.drop ((ji7) : Int).toNat).length (c0 - (ji7).toNat), .bool true] rfl (by (try simp only [List.map_toArray, List.map_cons, List.map_nil]); first | done | (rw [show (l0.drop ((ji7) : Int).toNat).length = (l0.length - (ji7).toNat) from List.length_drop] <;> rfl) | (simp only [hji7]; rfl) | rfl | (simp only [List.length_drop, List.length_take]; rfl)) ?_; (with_reducible refine (slices_Index_bool_bool.calls kj2 _ _ (l0.drop ((ji7) : Int).toNat) true t105 _ ?side1 ?side2 A10.out).mono ?_); (case side1 => repeat (first | exact (Kd.C_below HR104.out HB.out) | (with_reducible refine Kd.C_alloc ?_ _) | (with_reducible refine Kd.C_drewN ?_ _) | (with_reducible refine Kd.C_drew ?_))); (case side2 => exact HC104.out); rintro e w' ⟨rfl, ⟨nd, rfl⟩⟩; refine ⟨_, rfl, ?_⟩))
              go_ret
              exact ⟨by first | rfl | (simp [errW_none, errW_some] <;> rfl) | (simp only [← hji5, ← hji7]; first | rfl | (simp [errW_none, errW_some] <;> rfl)) | (simp [*, errW_none, errW_some] <;> rfl), by repeat (first | (with_reducible first | exact HB.out | apply below_alloc | apply pw_below_drewN | apply below_drew1) | exact HB.out)⟩
          · rw [if_neg c9] at H
            exact absurd H (by simp)
        · rw [if_neg c8] at H
          exact absurd H (by simp)
def foolscapref18_Snap.l0 : Nat → List Bool → Int → Int → Int → Option (Int)
  | 0, _, _, _, _ => none
  | k + 1, x0, x1, x5, x6 => if x6 < (x0.length : Int) then (if 0 ≤ x6 then (if rdOf false x0 x6 = true then (if x6 ≤ x1 then (foolscapref18_Snap.l0 k x0 x1 x6 (wrap64 (x6 + 1))) else (foolscapref18_Snap.l0 k x0 x1 x5 (wrap64 (x6 + 1)))) else (foolscapref18_Snap.l0 k x0 x1 x5 (wrap64 (x6 + 1)))) else (none)) else (some x5)
def foolscapref18_Snap.f (k : Nat) (l0 : List Bool) (a1 : Int) : Option (Int) := foolscapref18_Snap.l0 k l0 a1 0 0
theorem foolscapref18_Snap.mono_l : ∀ k, (∀ y0 y1 y2 y3, LeO (foolscapref18_Snap.l0 k y0 y1 y2 y3) (foolscapref18_Snap.l0 (k + 1) y0 y1 y2 y3))
  | 0 => fun _ _ _ _ r h => by simp [foolscapref18_Snap.l0] at h
  | k + 1 => by
    have ih0 := foolscapref18_Snap.mono_l k
    · intro y0 y1 y2 y3
      unfold foolscapref18_Snap.l0
      repeat' first
      | (with_reducible exact ih0 _ _ _ _)
      | (with_reducible exact LeO.refl _)
      | (with_reducible exact LeO.none _)
      | (with_reducible refine LeO.ite ?_ ?_)
      | (with_reducible refine LeO.bind ?_ (fun _ => ?_))
      | exact ih0 _ _ _ _
      | exact LeO.none _
      | refine LeO.ite ?_ ?_
      | refine LeO.bind ?_ (fun _ => ?_)
theorem foolscapref18_Snap.mono : ∀ a0 a1 k, LeO (foolscapref18_Snap.f k a0 a1) (foolscapref18_Snap.f (k + 1) a0 a1) := by
  intro a0 a1 k
  have ih0 := foolscapref18_Snap.mono_l k
  unfold foolscapref18_Snap.f
  repeat' first
      | (with_reducible exact ih0 _ _ _ _)
      | (with_reducible exact LeO.refl _)
      | (with_reducible exact LeO.none _)
      | (with_reducible refine LeO.ite ?_ ?_)
      | (with_reducible refine LeO.bind ?_ (fun _ => ?_))
      | exact ih0 _ _ _ _
      | exact LeO.none _
      | refine LeO.ite ?_ ?_
      | refine LeO.bind ?_ (fun _ => ?_)
set_option maxHeartbeats 8000000 in
set_option maxRecDepth 100000 in
theorem foolscapref18_Snap.calls (k : Nat) (A0 : Option Addr) (c0 : Nat) (l0 : List Bool) (a1 : Int) (r : Int) (w : World) (hr0 : Kd.C Kd.bool w A0 l0.length l0) (hc0 : l0.length ≤ c0) (h : foolscapref18_Snap.f k l0 a1 = some r) :
    Calls Try.prog 16 #[.slice A0 l0.length c0, .int .i64 a1] w fun e w' => e = .returned (.int .i64 r) ∧ Drawn0 w w' := by
  have HR0 := Aside0.mk hr0
  have HC0 := Aside0.mk hc0
  clear hr0 hc0
  have H : (foolscapref18_Snap.l0 k l0 a1 0 0) = some r := h
  clear h
  have H' := Aside0.mk H
  clear H
  go_enter Try.func16, Try.ntmps16
  go_wp2
  go_loopg [5, 6] k (fun kq v5 v6 w' => ∃ (x5_1 : Int) (x6_1 : Int), v5 = .int .i64 x5_1 ∧ v6 = .int .i64 x6_1 ∧ Aside0 (foolscapref18_Snap.l0 kq l0 a1 x5_1 x6_1 = some r) ∧ Aside0 (kq ≤ k) ∧ Drawn0 w w')
  case atStart => exact ⟨(0), (0), (by first | rfl | (simp; done) | (simp [*]; done)), (by first | rfl | (simp; done) | (simp [*]; done)), H', ⟨Nat.le_refl _⟩, by repeat (first | exact Drawn0.refl _ | apply Drawn0.step)⟩
  case round =>
    clear H'
    try clear c1
    try clear p2
    obtain ⟨x5_1, x6_1, rfl, rfl, HA, HK1, ⟨m1, rfl⟩⟩ := hrel
    cases gk with
    | zero => exact absurd HA.out (by simp [foolscapref18_Snap.l0])
    | succ k1 =>
      have H := HA.out
      clear HA
      simp only [foolscapref18_Snap.l0] at H
      by_cases c3 : x6_1 < (l0.length : Int)
      · rw [if_pos c3] at H
        have c3b0 : decide (x6_1 < (l0.length : Int)) = true := decide_eq_true c3
        clear c3
        by_cases c4 : 0 ≤ x6_1
        · rw [if_pos c4] at H
          have c4b0 : decide (0 ≤ x6_1) = true := decide_eq_true c4
          clear c4
          obtain ⟨bq5, hbq5⟩ : ∃ b_ : Bool, b_ = (rdOf false l0 x6_1) := ⟨_, rfl⟩
          replace H : (if bq5 = true then (if x6_1 ≤ a1 then (foolscapref18_Snap.l0 k1 l0 a1 x6_1 (wrap64 (x6_1 + 1))) else (foolscapref18_Snap.l0 k1 l0 a1 x5_1 (wrap64 (x6_1 + 1)))) else (foolscapref18_Snap.l0 k1 l0 a1 x5_1 (wrap64 (x6_1 + 1)))) = some r := by rw [← hbq5] at H; exact H
          have Nbq5 := Aside0.mk hbq5
          clear hbq5
          by_cases c6 : bq5 = true
          · subst c6
            have H1 : (if x6_1 ≤ a1 then (foolscapref18_Snap.l0 k1 l0 a1 x6_1 (wrap64 (x6_1 + 1))) else (foolscapref18_Snap.l0 k1 l0 a1 x5_1 (wrap64 (x6_1 + 1)))) = some r := by rw [if_pos rfl] at H; exact H
            clear H
            have H := H1
            clear H1
            by_cases c7 : x6_1 ≤ a1
            · rw [if_pos c7] at H
              have c7b0 : decide (x6_1 ≤ a1) = true := decide_eq_true c7
              clear c7
              have H' := Aside0.mk H
              clear H
              have p170 : 0 ≤ (x6_1 : Int) := of_decide_eq_true (by first | (with_reducible assumption) | assumption)
              have q170 : x6_1 < (l0.length : Int) := of_decide_eq_true (by first | (with_reducible assumption) | assumption)
              obtain ⟨ad170, e170, hx170_0⟩ := Kd.at_bool HR0.out x6_1 p170 q170
              (try rw [← Nbq5.out] at hx170_0)
              cases e170
              replace p170 := eq_true p170
              replace q170 := eq_true q170
              go_wp2
              go_roundg k1
              case measure => have := HK1.out; omega
              case rel => exact ⟨(x6_1), (wrap64 (x6_1 + 1)), (by first | rfl | (simp; done) | (simp [*]; done)), (by first | rfl | (simp; done) | (simp [*]; done)), H', ⟨by have := HK1.out; omega⟩, by repeat (first | exact Drawn0.refl _ | apply Drawn0.step)⟩
            · rw [if_neg c7] at H
              have c7b0 : decide (x6_1 ≤ a1) = false := decide_eq_false c7
              clear c7
              have H' := Aside0.mk H
              clear H
              have p170 : 0 ≤ (x6_1 : Int) := of_decide_eq_true (by first | (with_reducible assumption) | assumption)
              have q170 : x6_1 < (l0.length : Int) := of_decide_eq_true (by first | (with_reducible assumption) | assumption)
              obtain ⟨ad170, e170, hx170_0⟩ := Kd.at_bool HR0.out x6_1 p170 q170
              (try rw [← Nbq5.out] at hx170_0)
              cases e170
              replace p170 := eq_true p170
              replace q170 := eq_true q170
              go_wp2
              go_roundg k1
              case measure => have := HK1.out; omega
              case rel => exact ⟨(x5_1), (wrap64 (x6_1 + 1)), (by first | rfl | (simp; done) | (simp [*]; done)), (by first | rfl | (simp; done) | (simp [*]; done)), H', ⟨by have := HK1.out; omega⟩, by repeat (first | exact Drawn0.refl _ | apply Drawn0.step)⟩
          · replace c6 := Bool.eq_false_iff.mpr c6
            subst c6
            have H1 : (foolscapref18_Snap.l0 k1 l0 a1 x5_1 (wrap64 (x6_1 + 1))) = some r := by rw [if_neg (show ¬ (false = true) by decide)] at H; exact H
            clear H
            have H := H1
            clear H1
            have H' := Aside0.mk H
            clear H
            have p170 : 0 ≤ (x6_1 : Int) := of_decide_eq_true (by first | (with_reducible assumption) | assumption)
            have q170 : x6_1 < (l0.length : Int) := of_decide_eq_true (by first | (with_reducible assumption) | assumption)
            obtain ⟨ad170, e170, hx170_0⟩ := Kd.at_bool HR0.out x6_1 p170 q170
            (try rw [← Nbq5.out] at hx170_0)
            cases e170
            replace p170 := eq_true p170
            replace q170 := eq_true q170
            go_wp2
            go_roundg k1
            case measure => have := HK1.out; omega
            case rel => exact ⟨(x5_1), (wrap64 (x6_1 + 1)), (by first | rfl | (simp; done) | (simp [*]; done)), (by first | rfl | (simp; done) | (simp [*]; done)), H', ⟨by have := HK1.out; omega⟩, by repeat (first | exact Drawn0.refl _ | apply Drawn0.step)⟩
        · rw [if_neg c4] at H
          exact absurd H (by simp)
      · rw [if_neg c3] at H
        have c3b0 : decide (x6_1 < (l0.length : Int)) = false := decide_eq_false c3
        clear c3
        obtain rfl := Option.some.inj H
        go_wp2
        go_ret
        exact ⟨by first | rfl | (simp; done) | (simp [*]; done), by repeat (first | exact Drawn0.refl _ | apply Drawn0.step)⟩
def foolscapref18_Left.l0 : Nat → List Bool → Int → Int → Int → Option (Int)
  | 0, _, _, _, _ => none
  | k + 1, x0, x1, x5, x6 => if x6 < (x0.length : Int) then (if 0 ≤ x6 then (if rdOf false x0 x6 = true then (if x6 < x1 then (foolscapref18_Left.l0 k x0 x1 x6 (wrap64 (x6 + 1))) else (foolscapref18_Left.l0 k x0 x1 x5 (wrap64 (x6 + 1)))) else (foolscapref18_Left.l0 k x0 x1 x5 (wrap64 (x6 + 1)))) else (none)) else (some x5)
def foolscapref18_Left.f (k : Nat) (l0 : List Bool) (a1 : Int) : Option (Int) := foolscapref18_Left.l0 k l0 a1 0 0
theorem foolscapref18_Left.mono_l : ∀ k, (∀ y0 y1 y2 y3, LeO (foolscapref18_Left.l0 k y0 y1 y2 y3) (foolscapref18_Left.l0 (k + 1) y0 y1 y2 y3))
  | 0 => fun _ _ _ _ r h => by simp [foolscapref18_Left.l0] at h
  | k + 1 => by
    have ih0 := foolscapref18_Left.mono_l k
    · intro y0 y1 y2 y3
      unfold foolscapref18_Left.l0
      repeat' first
      | (with_reducible exact ih0 _ _ _ _)
      | (with_reducible exact LeO.refl _)
      | (with_reducible exact LeO.none _)
      | (with_reducible refine LeO.ite ?_ ?_)
      | (with_reducible refine LeO.bind ?_ (fun _ => ?_))
      | exact ih0 _ _ _ _
      | exact LeO.none _
      | refine LeO.ite ?_ ?_
      | refine LeO.bind ?_ (fun _ => ?_)
theorem foolscapref18_Left.mono : ∀ a0 a1 k, LeO (foolscapref18_Left.f k a0 a1) (foolscapref18_Left.f (k + 1) a0 a1) := by
  intro a0 a1 k
  have ih0 := foolscapref18_Left.mono_l k
  unfold foolscapref18_Left.f
  repeat' first
      | (with_reducible exact ih0 _ _ _ _)
      | (with_reducible exact LeO.refl _)
      | (with_reducible exact LeO.none _)
      | (with_reducible refine LeO.ite ?_ ?_)
      | (with_reducible refine LeO.bind ?_ (fun _ => ?_))
      | exact ih0 _ _ _ _
      | exact LeO.none _
      | refine LeO.ite ?_ ?_
      | refine LeO.bind ?_ (fun _ => ?_)
set_option maxHeartbeats 8000000 in
set_option maxRecDepth 100000 in
theorem foolscapref18_Left.calls (k : Nat) (A0 : Option Addr) (c0 : Nat) (l0 : List Bool) (a1 : Int) (r : Int) (w : World) (hr0 : Kd.C Kd.bool w A0 l0.length l0) (hc0 : l0.length ≤ c0) (h : foolscapref18_Left.f k l0 a1 = some r) :
    Calls Try.prog 18 #[.slice A0 l0.length c0, .int .i64 a1] w fun e w' => e = .returned (.int .i64 r) ∧ Drawn0 w w' := by
  have HR0 := Aside0.mk hr0
  have HC0 := Aside0.mk hc0
  clear hr0 hc0
  have H : (foolscapref18_Left.l0 k l0 a1 0 0) = some r := h
  clear h
  have H' := Aside0.mk H
  clear H
  go_enter Try.func18, Try.ntmps18
  go_wp2
  go_loopg [5, 6] k (fun kq v5 v6 w' => ∃ (x5_1 : Int) (x6_1 : Int), v5 = .int .i64 x5_1 ∧ v6 = .int .i64 x6_1 ∧ Aside0 (foolscapref18_Left.l0 kq l0 a1 x5_1 x6_1 = some r) ∧ Aside0 (kq ≤ k) ∧ Drawn0 w w')
  case atStart => exact ⟨(0), (0), (by first | rfl | (simp; done) | (simp [*]; done)), (by first | rfl | (simp; done) | (simp [*]; done)), H', ⟨Nat.le_refl _⟩, by repeat (first | exact Drawn0.refl _ | apply Drawn0.step)⟩
  case round =>
    clear H'
    try clear c1
    try clear p2
    obtain ⟨x5_1, x6_1, rfl, rfl, HA, HK1, ⟨m1, rfl⟩⟩ := hrel
    cases gk with
    | zero => exact absurd HA.out (by simp [foolscapref18_Left.l0])
    | succ k1 =>
      have H := HA.out
      clear HA
      simp only [foolscapref18_Left.l0] at H
      by_cases c3 : x6_1 < (l0.length : Int)
      · rw [if_pos c3] at H
        have c3b0 : decide (x6_1 < (l0.length : Int)) = true := decide_eq_true c3
        clear c3
        by_cases c4 : 0 ≤ x6_1
        · rw [if_pos c4] at H
          have c4b0 : decide (0 ≤ x6_1) = true := decide_eq_true c4
          clear c4
          obtain ⟨bq5, hbq5⟩ : ∃ b_ : Bool, b_ = (rdOf false l0 x6_1) := ⟨_, rfl⟩
          replace H : (if bq5 = true then (if x6_1 < a1 then (foolscapref18_Left.l0 k1 l0 a1 x6_1 (wrap64 (x6_1 + 1))) else (foolscapref18_Left.l0 k1 l0 a1 x5_1 (wrap64 (x6_1 + 1)))) else (foolscapref18_Left.l0 k1 l0 a1 x5_1 (wrap64 (x6_1 + 1)))) = some r := by rw [← hbq5] at H; exact H
          have Nbq5 := Aside0.mk hbq5
          clear hbq5
          by_cases c6 : bq5 = true
          · subst c6
            have H1 : (if x6_1 < a1 then (foolscapref18_Left.l0 k1 l0 a1 x6_1 (wrap64 (x6_1 + 1))) else (foolscapref18_Left.l0 k1 l0 a1 x5_1 (wrap64 (x6_1 + 1)))) = some r := by rw [if_pos rfl] at H; exact H
            clear H
            have H := H1
            clear H1
            by_cases c7 : x6_1 < a1
            · rw [if_pos c7] at H
              have c7b0 : decide (x6_1 < a1) = true := decide_eq_true c7
              clear c7
              have H' := Aside0.mk H
              clear H
              have p171 : 0 ≤ (x6_1 : Int) := of_decide_eq_true (by first | (with_reducible assumption) | assumption)
              have q171 : x6_1 < (l0.length : Int) := of_decide_eq_true (by first | (with_reducible assumption) | assumption)
              obtain ⟨ad171, e171, hx171_0⟩ := Kd.at_bool HR0.out x6_1 p171 q171
              (try rw [← Nbq5.out] at hx171_0)
              cases e171
              replace p171 := eq_true p171
              replace q171 := eq_true q171
              go_wp2
              go_roundg k1
              case measure => have := HK1.out; omega
              case rel => exact ⟨(x6_1), (wrap64 (x6_1 + 1)), (by first | rfl | (simp; done) | (simp [*]; done)), (by first | rfl | (simp; done) | (simp [*]; done)), H', ⟨by have := HK1.out; omega⟩, by repeat (first | exact Drawn0.refl _ | apply Drawn0.step)⟩
            · rw [if_neg c7] at H
              have c7b0 : decide (x6_1 < a1) = false := decide_eq_false c7
              clear c7
              have H' := Aside0.mk H
              clear H
              have p171 : 0 ≤ (x6_1 : Int) := of_decide_eq_true (by first | (with_reducible assumption) | assumption)
              have q171 : x6_1 < (l0.length : Int) := of_decide_eq_true (by first | (with_reducible assumption) | assumption)
              obtain ⟨ad171, e171, hx171_0⟩ := Kd.at_bool HR0.out x6_1 p171 q171
              (try rw [← Nbq5.out] at hx171_0)
              cases e171
              replace p171 := eq_true p171
              replace q171 := eq_true q171
              go_wp2
              go_roundg k1
              case measure => have := HK1.out; omega
              case rel => exact ⟨(x5_1), (wrap64 (x6_1 + 1)), (by first | rfl | (simp; done) | (simp [*]; done)), (by first | rfl | (simp; done) | (simp [*]; done)), H', ⟨by have := HK1.out; omega⟩, by repeat (first | exact Drawn0.refl _ | apply Drawn0.step)⟩
          · replace c6 := Bool.eq_false_iff.mpr c6
            subst c6
            have H1 : (foolscapref18_Left.l0 k1 l0 a1 x5_1 (wrap64 (x6_1 + 1))) = some r := by rw [if_neg (show ¬ (false = true) by decide)] at H; exact H
            clear H
            have H := H1
            clear H1
            have H' := Aside0.mk H
            clear H
            have p171 : 0 ≤ (x6_1 : Int) := of_decide_eq_true (by first | (with_reducible assumption) | assumption)
            have q171 : x6_1 < (l0.length : Int) := of_decide_eq_true (by first | (with_reducible assumption) | assumption)
            obtain ⟨ad171, e171, hx171_0⟩ := Kd.at_bool HR0.out x6_1 p171 q171
            (try rw [← Nbq5.out] at hx171_0)
            cases e171
            replace p171 := eq_true p171
            replace q171 := eq_true q171
            go_wp2
            go_roundg k1
            case measure => have := HK1.out; omega
            case rel => exact ⟨(x5_1), (wrap64 (x6_1 + 1)), (by first | rfl | (simp; done) | (simp [*]; done)), (by first | rfl | (simp; done) | (simp [*]; done)), H', ⟨by have := HK1.out; omega⟩, by repeat (first | exact Drawn0.refl _ | apply Drawn0.step)⟩
        · rw [if_neg c4] at H
          exact absurd H (by simp)
      · rw [if_neg c3] at H
        have c3b0 : decide (x6_1 < (l0.length : Int)) = false := decide_eq_false c3
        clear c3
        obtain rfl := Option.some.inj H
        go_wp2
        go_ret
        exact ⟨by first | rfl | (simp; done) | (simp [*]; done), by repeat (first | exact Drawn0.refl _ | apply Drawn0.step)⟩
def foolscapref18_Right.l0 : Nat → List Bool → Int → Int → Option (Int)
  | 0, _, _, _ => none
  | k + 1, x0, x1, x5 => if x5 < (x0.length : Int) then (if 0 ≤ x5 then (if rdOf false x0 x5 = true then (if x5 > x1 then (some x5) else (foolscapref18_Right.l0 k x0 x1 (wrap64 (x5 + 1)))) else (foolscapref18_Right.l0 k x0 x1 (wrap64 (x5 + 1)))) else (none)) else (some (mx 0 (wrap64 ((x0.length : Int) - 1))))
def foolscapref18_Right.f (k : Nat) (l0 : List Bool) (a1 : Int) : Option (Int) := foolscapref18_Right.l0 k l0 a1 0
theorem foolscapref18_Right.mono_l : ∀ k, (∀ y0 y1 y2, LeO (foolscapref18_Right.l0 k y0 y1 y2) (foolscapref18_Right.l0 (k + 1) y0 y1 y2))
  | 0 => fun _ _ _ r h => by simp [foolscapref18_Right.l0] at h
  | k + 1 => by
    have ih0 := foolscapref18_Right.mono_l k
    · intro y0 y1 y2
      unfold foolscapref18_Right.l0
      repeat' first
      | (with_reducible exact ih0 _ _ _)
      | (with_reducible exact LeO.refl _)
      | (with_reducible exact LeO.none _)
      | (with_reducible refine LeO.ite ?_ ?_)
      | (with_reducible refine LeO.bind ?_ (fun _ => ?_))
      | exact ih0 _ _ _
      | exact LeO.none _
      | refine LeO.ite ?_ ?_
      | refine LeO.bind ?_ (fun _ => ?_)
theorem foolscapref18_Right.mono : ∀ a0 a1 k, LeO (foolscapref18_Right.f k a0 a1) (foolscapref18_Right.f (k + 1) a0 a1) := by
  intro a0 a1 k
  have ih0 := foolscapref18_Right.mono_l k
  unfold foolscapref18_Right.f
  repeat' first
      | (with_reducible exact ih0 _ _ _)
      | (with_reducible exact LeO.refl _)
      | (with_reducible exact LeO.none _)
      | (with_reducible refine LeO.ite ?_ ?_)
      | (with_reducible refine LeO.bind ?_ (fun _ => ?_))
      | exact ih0 _ _ _
      | exact LeO.none _
      | refine LeO.ite ?_ ?_
      | refine LeO.bind ?_ (fun _ => ?_)
set_option maxHeartbeats 8000000 in
set_option maxRecDepth 100000 in
theorem foolscapref18_Right.calls (k : Nat) (A0 : Option Addr) (c0 : Nat) (l0 : List Bool) (a1 : Int) (r : Int) (w : World) (hr0 : Kd.C Kd.bool w A0 l0.length l0) (hc0 : l0.length ≤ c0) (h : foolscapref18_Right.f k l0 a1 = some r) :
    Calls Try.prog 20 #[.slice A0 l0.length c0, .int .i64 a1] w fun e w' => e = .returned (.int .i64 r) ∧ Below w.heap.size w w' := by
  have HR0 := Aside0.mk hr0
  have HC0 := Aside0.mk hc0
  clear hr0 hc0
  have HB := Aside0.mk (Below.refl w.heap.size w)
  have H : (foolscapref18_Right.l0 k l0 a1 0) = some r := h
  clear h
  have H' := Aside0.mk H
  clear H
  go_enter Try.func20, Try.ntmps20
  go_wp2
  go_loopg [5] k (fun kq v5 w' => ∃ (x5_1 : Int), v5 = .int .i64 x5_1 ∧ Aside0 (foolscapref18_Right.l0 kq l0 a1 x5_1 = some r) ∧ Aside0 (kq ≤ k) ∧ Aside0 (Below w.heap.size w w'))
  case atStart => exact ⟨(0), (by first | rfl | (simp; done) | (simp [*]; done)), H', ⟨Nat.le_refl _⟩, ⟨by repeat (first | (with_reducible first | exact HB.out | apply below_alloc | apply pw_below_drewN | apply below_drew1) | exact HB.out)⟩⟩
  case round =>
    clear H'
    try clear c2
    try clear p2
    obtain ⟨x5_1, rfl, HA, HK1, HB⟩ := hrel
    cases gk with
    | zero => exact absurd HA.out (by simp [foolscapref18_Right.l0])
    | succ k1 =>
      have H := HA.out
      clear HA
      simp only [foolscapref18_Right.l0] at H
      by_cases c3 : x5_1 < (l0.length : Int)
      · rw [if_pos c3] at H
        have c3b0 : decide (x5_1 < (l0.length : Int)) = true := decide_eq_true c3
        clear c3
        by_cases c4 : 0 ≤ x5_1
        · rw [if_pos c4] at H
          have c4b0 : decide (0 ≤ x5_1) = true := decide_eq_true c4
          clear c4
          obtain ⟨bq5, hbq5⟩ : ∃ b_ : Bool, b_ = (rdOf false l0 x5_1) := ⟨_, rfl⟩
          replace H : (if bq5 = true then (if x5_1 > a1 then (some x5_1) else (foolscapref18_Right.l0 k1 l0 a1 (wrap64 (x5_1 + 1)))) else (foolscapref18_Right.l0 k1 l0 a1 (wrap64 (x5_1 + 1)))) = some r := by rw [← hbq5] at H; exact H
          have Nbq5 := Aside0.mk hbq5
          clear hbq5
          by_cases c6 : bq5 = true
          · subst c6
            have H1 : (if x5_1 > a1 then (some x5_1) else (foolscapref18_Right.l0 k1 l0 a1 (wrap64 (x5_1 + 1)))) = some r := by rw [if_pos rfl] at H; exact H
            clear H
            have H := H1
            clear H1
            by_cases c7 : x5_1 > a1
            · rw [if_pos c7] at H
              have c7b0 : decide (a1 < x5_1) = true := decide_eq_true c7
              clear c7
              obtain rfl := Option.some.inj H
              have p172 : 0 ≤ (x5_1 : Int) := of_decide_eq_true (by first | (with_reducible assumption) | assumption)
              have q172 : x5_1 < (l0.length : Int) := of_decide_eq_true (by first | (with_reducible assumption) | assumption)
              obtain ⟨ad172, e172, hx172_0⟩ := Kd.at_bool HR0.out x5_1 p172 q172
              (try rw [← Nbq5.out] at hx172_0)
              cases e172
              replace hx172_0 := (HB.out.cell (World.block_lt_of_cell? w _ hx172_0)).trans hx172_0
              replace p172 := eq_true p172
              replace q172 := eq_true q172
              go_wp2
              go_ret
              exact ⟨by first | rfl | (simp [errW_none, errW_some] <;> rfl) | (simp [*, errW_none, errW_some] <;> rfl), by repeat (first | (with_reducible first | exact HB.out | apply below_alloc | apply pw_below_drewN | apply below_drew1) | exact HB.out)⟩
            · rw [if_neg c7] at H
              have c7b0 : decide (a1 < x5_1) = false := decide_eq_false c7
              clear c7
              have H' := Aside0.mk H
              clear H
              have p172 : 0 ≤ (x5_1 : Int) := of_decide_eq_true (by first | (with_reducible assumption) | assumption)
              have q172 : x5_1 < (l0.length : Int) := of_decide_eq_true (by first | (with_reducible assumption) | assumption)
              obtain ⟨ad172, e172, hx172_0⟩ := Kd.at_bool HR0.out x5_1 p172 q172
              (try rw [← Nbq5.out] at hx172_0)
              cases e172
              replace hx172_0 := (HB.out.cell (World.block_lt_of_cell? w _ hx172_0)).trans hx172_0
              replace p172 := eq_true p172
              replace q172 := eq_true q172
              go_wp2
              go_roundg k1
              case measure => have := HK1.out; omega
              case rel => exact ⟨(wrap64 (x5_1 + 1)), (by first | rfl | (simp; done) | (simp [*]; done)), H', ⟨by have := HK1.out; omega⟩, ⟨by repeat (first | (with_reducible first | exact HB.out | apply below_alloc | apply pw_below_drewN | apply below_drew1) | exact HB.out)⟩⟩
          · replace c6 := Bool.eq_false_iff.mpr c6
            subst c6
            have H1 : (foolscapref18_Right.l0 k1 l0 a1 (wrap64 (x5_1 + 1))) = some r := by rw [if_neg (show ¬ (false = true) by decide)] at H; exact H
            clear H
            have H := H1
            clear H1
            have H' := Aside0.mk H
            clear H
            have p172 : 0 ≤ (x5_1 : Int) := of_decide_eq_true (by first | (with_reducible assumption) | assumption)
            have q172 : x5_1 < (l0.length : Int) := of_decide_eq_true (by first | (with_reducible assumption) | assumption)
            obtain ⟨ad172, e172, hx172_0⟩ := Kd.at_bool HR0.out x5_1 p172 q172
            (try rw [← Nbq5.out] at hx172_0)
            cases e172
            replace hx172_0 := (HB.out.cell (World.block_lt_of_cell? w _ hx172_0)).trans hx172_0
            replace p172 := eq_true p172
            replace q172 := eq_true q172
            go_wp2
            go_roundg k1
            case measure => have := HK1.out; omega
            case rel => exact ⟨(wrap64 (x5_1 + 1)), (by first | rfl | (simp; done) | (simp [*]; done)), H', ⟨by have := HK1.out; omega⟩, ⟨by repeat (first | (with_reducible first | exact HB.out | apply below_alloc | apply pw_below_drewN | apply below_drew1) | exact HB.out)⟩⟩
        · rw [if_neg c4] at H
          exact absurd H (by simp)
      · rw [if_neg c3] at H
        have c3b0 : decide (x5_1 < (l0.length : Int)) = false := decide_eq_false c3
        clear c3
        obtain ⟨ji8, hji8⟩ : ∃ j_ : Int, (mx 0 (wrap64 ((l0.length : Int) - 1))) = j_ := ⟨_, rfl⟩
        replace H : (some ji8) = some r := by first | (rw [hji8] at H; exact H) | (simp only [hji8] at H ⊢; exact H)
        have hji8_ : (if 0 < (wrap64 ((l0.length : Int) - 1)) then (wrap64 ((l0.length : Int) - 1)) else 0) = ji8 := hji8
        obtain rfl := Option.some.inj H
        go_wp2
        go_ret
        exact ⟨by first | rfl | (simp [errW_none, errW_some] <;> rfl) | (simp only [← hji8]; first | rfl | (simp [errW_none, errW_some] <;> rfl)) | (simp [*, errW_none, errW_some] <;> rfl), by repeat (first | (with_reducible first | exact HB.out | apply below_alloc | apply pw_below_drewN | apply below_drew1) | exact HB.out)⟩
end Go.Proofs.Ytefnpalkkhhkfaa.PC
namespace Go.Proofs.Ytefnpalkkhhkfaa.PC
open Go.RowKit Go.Proofs.YtefnpalkkhhkfaaW.PrintWords Go.Proofs.YtefnpalkkhhkfaaW.PrintLast Go.Proofs.YtefnpalkkhhkfaaW.PrintMore
set_option linter.unusedVariables false
set_option linter.unusedSimpArgs false
theorem w64 (x : Int) (h1 : -9223372036854775808 ≤ x) (h2 : x ≤ 9223372036854775807) : wrap64 x = x := by
  unfold wrap64
  omega
def bAt (b : List Bool) (j : Nat) : Bool := b.getD j false
theorem bAt_lt {b : List Bool} {j : Nat} (h : bAt b j = true) : j < b.length := by
  unfold bAt at h
  by_cases hl : j < b.length
  · exact hl
  · rw [List.getD_eq_getElem?_getD, List.getElem?_eq_none (by omega)] at h; cases h
theorem rd_b (b : List Bool) (j : Nat) : rdOf false b (j : Int) = bAt b j := by unfold rdOf bAt; simp
/-- The greatest boundary that is not above p; the beginning where there is none. -/
def SnapP (b : List Bool) (p r : Int) : Prop := 0 ≤ r ∧ (r = 0 ∨ (bAt b r.toNat = true ∧ r ≤ p)) ∧ ∀ j : Nat, bAt b j = true → (j : Int) ≤ p → (j : Int) ≤ r
theorem SnapP.le {b : List Bool} {p r s : Int} (h : SnapP b p r) (k : SnapP b p s) : r ≤ s := by
  obtain ⟨h1, h2, _⟩ := h
  obtain ⟨k1, _, k3⟩ := k
  rcases h2 with h2 | ⟨h2, h3⟩
  · omega
  · have := k3 r.toNat h2 (by omega)
    omega
theorem SnapP.uniq {b : List Bool} {p r s : Int} (h : SnapP b p r) (k : SnapP b p s) : r = s := Int.le_antisymm (h.le k) (k.le h)
theorem csnap_l0 (b : List Bool) (p : Int) (hb : b.length ≤ 100000) : ∀ (m : Nat), (m < b.length ∨ m = 0) → ((m : Int) ≤ p ∨ m = 0) → (∀ j : Nat, bAt b j = true → (j : Int) ≤ p → j ≤ m) → ∀ k, m < k → ∃ r, cursor_Snap.l0 k b (m : Int) = some r ∧ SnapP b p r := by
  intro m
  induction m with
  | zero =>
    intro _ _ hj k hk
    obtain ⟨k, rfl⟩ : ∃ q, k = q + 1 := ⟨k - 1, by omega⟩
    refine ⟨0, ?_, Int.le_refl _, .inl rfl, fun j h1 h2 => by have := hj j h1 h2; omega⟩
    rw [cursor_Snap.l0, if_neg (by decide)]
  | succ m ih =>
    intro hm hp hj k hk
    obtain ⟨k, rfl⟩ : ∃ q, k = q + 1 := ⟨k - 1, by omega⟩
    rw [cursor_Snap.l0, if_pos (by omega), if_pos (by omega), if_pos (by omega), rd_b]
    by_cases hv : bAt b (m + 1) = true
    · rw [if_pos hv]
      exact ⟨_, rfl, by omega, .inr ⟨by simpa using hv, by omega⟩, fun j h1 h2 => by have := hj j h1 h2; omega⟩
    · rw [if_neg hv, w64 _ (by omega) (by omega), show (((m + 1 : Nat) : Int) - 1) = (m : Int) by omega]
      refine ih (by omega) (by omega) (fun j h1 h2 => ?_) k (by omega)
      have := hj j h1 h2
      by_cases he : j = m + 1
      · subst he; exact absurd h1 hv
      · omega
theorem csnap (b : List Bool) (p : Int) (hb : b.length ≤ 100000) : ∃ r, cursor_Snap.f (b.length + 1) b p = some r ∧ SnapP b p r := by
  unfold cursor_Snap.f
  rw [w64 _ (by omega) (by omega)]
  obtain ⟨x, hx⟩ : ∃ x, mn p ((b.length : Int) - 1) = x := ⟨_, rfl⟩
  have hx1 : x ≤ p ∧ x ≤ (b.length : Int) - 1 ∧ (x = p ∨ x = (b.length : Int) - 1) := by
    unfold mn at hx
    split at hx <;> omega
  have hj : ∀ j : Nat, bAt b j = true → (j : Int) ≤ p → (j : Int) ≤ x := fun j h1 h2 => by
    have := bAt_lt h1
    omega
  rw [hx]
  by_cases h0 : 0 < x
  · obtain ⟨m, rfl⟩ : ∃ m : Nat, x = m := ⟨x.toNat, by omega⟩
    exact csnap_l0 b p hb m (by omega) (by omega) (fun j h1 h2 => by have := hj j h1 h2; omega) _ (by omega)
  · refine ⟨0, ?_, Int.le_refl _, .inl rfl, fun j h1 h2 => by have := hj j h1 h2; omega⟩
    rw [cursor_Snap.l0, if_neg (by omega)]
theorem cleft (b : List Bool) (p : Int) (hb : b.length ≤ 100000) (hp : p ≤ 9223372036854775807) : ∃ r, cursor_Left.f (b.length + 1) b p = some r ∧ SnapP b (p - 1) r := by
  unfold cursor_Left.f
  by_cases h1 : p < 1
  · rw [if_pos h1]
    exact ⟨0, rfl, Int.le_refl _, .inl rfl, fun j _ h2 => by omega⟩
  · rw [if_neg h1, w64 _ (by omega) (by omega)]
    obtain ⟨r, e, h⟩ := csnap b (p - 1) hb
    rw [e]
    exact ⟨r, rfl, h⟩
theorem rsnap_l0 (b : List Bool) (p : Int) (hb : b.length ≤ 100000) : ∀ (m i : Nat) (out : Int), i + m = b.length → 0 ≤ out → out ≤ i → (out = 0 ∨ (bAt b out.toNat = true ∧ out ≤ p)) → (∀ j : Nat, j < i → bAt b j = true → (j : Int) ≤ p → (j : Int) ≤ out) → ∀ k, m < k → ∃ r, foolscapref18_Snap.l0 k b p out (i : Int) = some r ∧ SnapP b p r := by
  intro m
  induction m with
  | zero =>
    intro i out hi h0 _ h1 h2 k hk
    obtain ⟨k, rfl⟩ : ∃ q, k = q + 1 := ⟨k - 1, by omega⟩
    rw [foolscapref18_Snap.l0, if_neg (by omega)]
    exact ⟨out, rfl, h0, h1, fun j h3 h4 => h2 j (by have := bAt_lt h3; omega) h3 h4⟩
  | succ m ih =>
    intro i out hi h0 ho h1 h2 k hk
    obtain ⟨k, rfl⟩ : ∃ q, k = q + 1 := ⟨k - 1, by omega⟩
    rw [foolscapref18_Snap.l0, if_pos (by omega), if_pos (by omega), rd_b, w64 _ (by omega) (by omega), show ((i : Int) + 1) = ((i + 1 : Nat) : Int) by omega]
    have go : ∀ (o : Int), 0 ≤ o → o ≤ ((i + 1 : Nat) : Int) → (o = 0 ∨ (bAt b o.toNat = true ∧ o ≤ p)) → (out ≤ o) → ((bAt b i = true → (i : Int) ≤ p → (i : Int) ≤ o)) → ∃ r, foolscapref18_Snap.l0 k b p o ((i + 1 : Nat) : Int) = some r ∧ SnapP b p r := fun o q0 q1 q2 q3 q4 =>
      ih (i + 1) o (by omega) q0 q1 q2 (fun j h3 h4 h5 => by
        by_cases he : j = i
        · subst he; exact q4 h4 h5
        · have := h2 j (by omega) h4 h5; omega) k (by omega)
    by_cases hv : bAt b i = true
    · rw [if_pos hv]
      by_cases hp : (i : Int) ≤ p
      · rw [if_pos hp]
        exact go i (by omega) (by omega) (.inr ⟨by simpa using hv, hp⟩) (by omega) (fun _ _ => Int.le_refl _)
      · rw [if_neg hp]
        exact go out h0 (by omega) h1 (Int.le_refl _) (fun _ h => absurd h hp)
    · rw [if_neg hv]
      exact go out h0 (by omega) h1 (Int.le_refl _) (fun h _ => absurd h hv)
theorem rsnap (b : List Bool) (p : Int) (hb : b.length ≤ 100000) : ∃ r, foolscapref18_Snap.f (b.length + 1) b p = some r ∧ SnapP b p r := by
  unfold foolscapref18_Snap.f
  exact rsnap_l0 b p hb b.length 0 0 (by omega) (Int.le_refl _) (Int.le_refl _) (.inl rfl) (fun j h => by omega) _ (by omega)
theorem rleft_l0 (b : List Bool) (p : Int) (hb : b.length ≤ 100000) : ∀ (m i : Nat) (out : Int), i + m = b.length → 0 ≤ out → out ≤ i → (out = 0 ∨ (bAt b out.toNat = true ∧ out ≤ p - 1)) → (∀ j : Nat, j < i → bAt b j = true → (j : Int) ≤ p - 1 → (j : Int) ≤ out) → ∀ k, m < k → ∃ r, foolscapref18_Left.l0 k b p out (i : Int) = some r ∧ SnapP b (p - 1) r := by
  intro m
  induction m with
  | zero =>
    intro i out hi h0 _ h1 h2 k hk
    obtain ⟨k, rfl⟩ : ∃ q, k = q + 1 := ⟨k - 1, by omega⟩
    rw [foolscapref18_Left.l0, if_neg (by omega)]
    exact ⟨out, rfl, h0, h1, fun j h3 h4 => h2 j (by have := bAt_lt h3; omega) h3 h4⟩
  | succ m ih =>
    intro i out hi h0 ho h1 h2 k hk
    obtain ⟨k, rfl⟩ : ∃ q, k = q + 1 := ⟨k - 1, by omega⟩
    rw [foolscapref18_Left.l0, if_pos (by omega), if_pos (by omega), rd_b, w64 _ (by omega) (by omega), show ((i : Int) + 1) = ((i + 1 : Nat) : Int) by omega]
    have go : ∀ (o : Int), 0 ≤ o → o ≤ ((i + 1 : Nat) : Int) → (o = 0 ∨ (bAt b o.toNat = true ∧ o ≤ p - 1)) → (out ≤ o) → ((bAt b i = true → (i : Int) ≤ p - 1 → (i : Int) ≤ o)) → ∃ r, foolscapref18_Left.l0 k b p o ((i + 1 : Nat) : Int) = some r ∧ SnapP b (p - 1) r := fun o q0 q1 q2 q3 q4 =>
      ih (i + 1) o (by omega) q0 q1 q2 (fun j h3 h4 h5 => by
        by_cases he : j = i
        · subst he; exact q4 h4 h5
        · have := h2 j (by omega) h4 h5; omega) k (by omega)
    by_cases hv : bAt b i = true
    · rw [if_pos hv]
      by_cases hp : (i : Int) < p
      · rw [if_pos hp]
        exact go i (by omega) (by omega) (.inr ⟨by simpa using hv, by omega⟩) (by omega) (fun _ _ => Int.le_refl _)
      · rw [if_neg hp]
        exact go out h0 (by omega) h1 (Int.le_refl _) (fun _ h => by omega)
    · rw [if_neg hv]
      exact go out h0 (by omega) h1 (Int.le_refl _) (fun h _ => absurd h hv)
theorem rleft (b : List Bool) (p : Int) (hb : b.length ≤ 100000) : ∃ r, foolscapref18_Left.f (b.length + 1) b p = some r ∧ SnapP b (p - 1) r := by
  unfold foolscapref18_Left.f
  exact rleft_l0 b p hb b.length 0 0 (by omega) (Int.le_refl _) (Int.le_refl _) (.inl rfl) (fun j h => by omega) _ (by omega)
/-- The least boundary above p; the last place where there is none. -/
def RightP (b : List Bool) (p r : Int) : Prop := (p < r ∧ 0 ≤ r ∧ bAt b r.toNat = true ∧ ∀ j : Nat, bAt b j = true → p < (j : Int) → r ≤ j) ∨ ((∀ j : Nat, bAt b j = true → (j : Int) ≤ p) ∧ r = mx 0 ((b.length : Int) - 1))
theorem RightP.uniq {b : List Bool} {p r s : Int} (h : RightP b p r) (k : RightP b p s) : r = s := by
  rcases h with ⟨h1, h2, h3, h4⟩ | ⟨h1, h2⟩ <;> rcases k with ⟨k1, k2, k3, k4⟩ | ⟨k1, k2⟩
  · have := h4 s.toNat k3 (by omega)
    have := k4 r.toNat h3 (by omega)
    omega
  · have := k1 r.toNat h3
    omega
  · have := h1 s.toNat k3
    omega
  · rw [h2, k2]
theorem index_l0 (l : List Bool) (hb : l.length ≤ 100000) : ∀ (m i : Nat), i + m = l.length → (∀ j : Nat, j < i → bAt l j = false) → ∀ k, m < k → ∃ r, slices_Index_bool_bool.l0 k l true (l.length : Int) (i : Int) = some r ∧ ((r = -1 ∧ ∀ j, bAt l j = false) ∨ (0 ≤ r ∧ bAt l r.toNat = true ∧ ∀ j : Nat, (j : Int) < r → bAt l j = false)) := by
  intro m
  induction m with
  | zero =>
    intro i hi h k hk
    obtain ⟨k, rfl⟩ : ∃ q, k = q + 1 := ⟨k - 1, by omega⟩
    rw [slices_Index_bool_bool.l0, if_neg (by omega)]
    refine ⟨-1, rfl, .inl ⟨rfl, fun j => ?_⟩⟩
    cases hv : bAt l j with
    | false => rfl
    | true => have := h j (by have := bAt_lt hv; omega); rw [hv] at this; cases this
  | succ m ih =>
    intro i hi h k hk
    obtain ⟨k, rfl⟩ : ∃ q, k = q + 1 := ⟨k - 1, by omega⟩
    rw [slices_Index_bool_bool.l0, if_pos (by omega), if_pos (by omega), if_pos (by omega), rd_b]
    cases hv : bAt l i with
    | true =>
      rw [if_pos (by decide)]
      exact ⟨_, rfl, .inr ⟨by omega, by simpa using hv, fun j hj => h j (by omega)⟩⟩
    | false =>
      rw [if_neg (by decide), w64 _ (by omega) (by omega), show ((i : Int) + 1) = ((i + 1 : Nat) : Int) by omega]
      refine ih (i + 1) (by omega) (fun j hj => ?_) k (by omega)
      by_cases he : j = i
      · subst he; exact hv
      · exact h j (by omega)
theorem bAt_drop (b : List Bool) (n j : Nat) : bAt (b.drop n) j = bAt b (n + j) := by
  unfold bAt
  rw [List.getD_eq_getElem?_getD, List.getD_eq_getElem?_getD, List.getElem?_drop]
theorem cright (b : List Bool) (p : Int) (hb : b.length ≤ 100000) : ∃ r, cursor_Right.f (b.length + 2) b p = some r ∧ RightP b p r := by
  have key : ∀ q : Int, -1 ≤ q → ∃ r, cursor_Right.j0 (b.length + 2) b q = some r ∧ RightP b q r := by
    intro q hq
    have hw : wrap64 ((b.length : Int) - 1) = (b.length : Int) - 1 := w64 _ (by omega) (by omega)
    rw [cursor_Right.j0, hw]
    have hmx : mx 0 ((b.length : Int) - 1) = if b.length = 0 then 0 else (b.length : Int) - 1 := by
      unfold mx
      split <;> split <;> omega
    by_cases h1 : q ≥ mx 0 ((b.length : Int) - 1)
    · rw [if_pos h1]
      refine ⟨_, rfl, .inr ⟨fun j hj => ?_, rfl⟩⟩
      have := bAt_lt hj
      rw [hmx] at h1
      split at h1 <;> omega
    · have h2 : q + 1 ≤ (b.length : Int) := by
        rw [hmx] at h1
        split at h1 <;> omega
      rw [if_neg h1, w64 (q + 1) (by omega) (by omega), if_pos (by omega), if_pos (by omega)]
      obtain ⟨n, hn⟩ : ∃ n : Nat, q + 1 = n := ⟨(q + 1).toNat, by omega⟩
      rw [hn, Int.toNat_natCast]
      have hdl : (b.drop n).length = b.length - n := List.length_drop
      obtain ⟨r, e, h⟩ := index_l0 (b.drop n) (by omega) (b.drop n).length 0 (by omega) (fun j hj => by omega) (b.length + 1) (by omega)
      unfold slices_Index_bool_bool.f
      rw [show ((0 : Nat) : Int) = 0 from rfl] at e
      rw [e]
      show ∃ r_1, (if r ≥ 0 then some (wrap64 ((n : Int) + r)) else some (mx 0 ((b.length : Int) - 1))) = some r_1 ∧ RightP b q r_1
      rcases h with ⟨hr, hf⟩ | ⟨h0, ht, hf⟩
      · rw [if_neg (by omega)]
        refine ⟨_, rfl, .inr ⟨fun j hj => ?_, rfl⟩⟩
        apply Decidable.byContradiction
        intro hc
        obtain ⟨d, hd⟩ : ∃ d : Nat, j = n + d := ⟨j - n, by omega⟩
        have := hf d
        rw [bAt_drop, ← hd, hj] at this
        cases this
      · obtain ⟨d, rfl⟩ : ∃ d : Nat, r = d := ⟨r.toNat, by omega⟩
        rw [bAt_drop] at ht
        simp only [Int.toNat_natCast] at ht
        have hl := bAt_lt ht
        rw [if_pos (by omega), w64 _ (by omega) (by omega)]
        refine ⟨_, rfl, .inl ⟨by omega, by omega, by rw [show ((n : Int) + (d : Int)).toNat = n + d by omega]; exact ht, fun j hj hq3 => ?_⟩⟩
        apply Decidable.byContradiction
        intro hc
        obtain ⟨g, hg⟩ : ∃ g : Nat, j = n + g := ⟨j - n, by omega⟩
        have := hf g (by omega)
        rw [bAt_drop, ← hg, hj] at this
        cases this
  unfold cursor_Right.f
  by_cases h0 : p < 0
  · rw [if_pos h0]
    obtain ⟨r, e, h⟩ := key (-1) (by decide)
    refine ⟨r, e, ?_⟩
    rcases h with ⟨h1, h2, h3, h4⟩ | ⟨h1, h2⟩
    · exact .inl ⟨by omega, h2, h3, fun j hj hj2 => h4 j hj (by omega)⟩
    · exact .inr ⟨fun j hj => by have := h1 j hj; omega, h2⟩
  · rw [if_neg h0]
    exact key p (by omega)
theorem rright_l0 (b : List Bool) (p : Int) (hb : b.length ≤ 100000) : ∀ (m i : Nat), i + m = b.length → (∀ j : Nat, j < i → bAt b j = true → (j : Int) ≤ p) → ∀ k, m < k → ∃ r, foolscapref18_Right.l0 k b p (i : Int) = some r ∧ RightP b p r := by
  intro m
  induction m with
  | zero =>
    intro i hi h k hk
    obtain ⟨k, rfl⟩ : ∃ q, k = q + 1 := ⟨k - 1, by omega⟩
    rw [foolscapref18_Right.l0, if_neg (by omega), w64 _ (by omega) (by omega)]
    exact ⟨_, rfl, .inr ⟨fun j hj => h j (by have := bAt_lt hj; omega) hj, rfl⟩⟩
  | succ m ih =>
    intro i hi h k hk
    obtain ⟨k, rfl⟩ : ∃ q, k = q + 1 := ⟨k - 1, by omega⟩
    rw [foolscapref18_Right.l0, if_pos (by omega), if_pos (by omega), rd_b, w64 ((i : Int) + 1) (by omega) (by omega), show ((i : Int) + 1) = ((i + 1 : Nat) : Int) by omega]
    by_cases hv : bAt b i = true
    · rw [if_pos hv]
      by_cases hp : (i : Int) > p
      · rw [if_pos hp]
        refine ⟨_, rfl, .inl ⟨hp, by omega, by simpa using hv, fun j hj hj2 => ?_⟩⟩
        apply Decidable.byContradiction
        intro hc
        have := h j (by omega) hj
        omega
      · rw [if_neg hp]
        refine ih (i + 1) (by omega) (fun j hj hj2 => ?_) k (by omega)
        by_cases he : j = i
        · subst he; omega
        · exact h j (by omega) hj2
    · rw [if_neg hv]
      refine ih (i + 1) (by omega) (fun j hj hj2 => ?_) k (by omega)
      by_cases he : j = i
      · subst he; exact absurd hj2 hv
      · exact h j (by omega) hj2
theorem rright (b : List Bool) (p : Int) (hb : b.length ≤ 100000) : ∃ r, foolscapref18_Right.f (b.length + 1) b p = some r ∧ RightP b p r := by
  unfold foolscapref18_Right.f
  exact rright_l0 b p hb b.length 0 (by omega) (fun j h => by omega) _ (by omega)
end Go.Proofs.Ytefnpalkkhhkfaa.PC
namespace Go.Proofs.Ytefnpalkkhhkfaa.PC
open Go.RowKit Go.Proofs.YtefnpalkkhhkfaaW.PrintWords Go.Proofs.YtefnpalkkhhkfaaW.PrintLast Go.Proofs.YtefnpalkkhhkfaaW.PrintMore Go.Proofs.Ytefnpalkkhhkfaa.K Go.Proofs.Ytefnpalkkhhkfaa.IX Go.Proofs.Ytefnpalkkhhkfaa.I
attribute [local go_sem] max2_int min2_int max_two min_two max_three min_three max_four min_four
attribute [local go_sem high] eqA24
set_option linter.unusedVariables false
set_option linter.unusedSimpArgs false
theorem flat_b : Flat Kd.bool (fun x => [Value.bool x]) := ⟨fun _ => rfl, fun h => h, fun h => h, fun _ _ _ _ => rfl, fun x u hu => by rw [List.mem_singleton.1 hu]; rfl, Nat.one_pos, rfl⟩
theorem shownHold1 : holdS st1.l 1 false = ((⟨1, 0⟩, false), 0) := by
  have h1 : (holdS st1.l 1 false).2 = 0 := by decide +kernel
  have h2 : (holdS st1.l 1 false).1.2 = false := by decide +kernel
  have h3 : (holdS st1.l 1 false).1.1.f0 = 1 := by decide +kernel
  have h4 : (holdS st1.l 1 false).1.1.f1 = 0 := by decide +kernel
  exact Prod.ext (Prod.ext (id_ext h3 h4) h2) h1
theorem shownPlace : placeA st1.l ⟨1, 0⟩ false = (1, 0) := by decide +kernel
theorem shownHold2 : holdS st1.l 2 false = ((⟨0, 0⟩, false), 3) := by
  have h1 : (holdS st1.l 2 false).2 = 3 := by decide +kernel
  have h2 : (holdS st1.l 2 false).1.2 = false := by decide +kernel
  have h3 : (holdS st1.l 2 false).1.1.f0 = 0 := by decide +kernel
  have h4 : (holdS st1.l 2 false).1.1.f1 = 0 := by decide +kernel
  exact Prod.ext (Prod.ext (id_ext h3 h4) h2) h1
theorem shownSnap : cursor_Snap.f 5 [true, false, true, true] 1 = some 0 := by decide +kernel
theorem shownLeft : cursor_Left.f 5 [true, false, true, true] 2 = some 0 := by decide +kernel
theorem shownRight : cursor_Right.f 6 [true, false, true, true] 0 = some 2 := by decide +kernel
set_option maxHeartbeats 8000000 in
set_option maxRecDepth 100000 in
theorem shown18_calls (w : World) : Calls Try.prog 9 #[] w fun e w' => e = .returned (.bool true) ∧ Below w.heap.size w w' := by
  obtain ⟨F1, i1⟩ := inv1
  have l1 : st1.ops.length ≤ 1 := putT_len T0 so1
  have ll1 : st1.l.length ≤ 100000 := by have := i1.ll; omega
  have K1 := Lib.hid (fun p W (h : St w W (sep (isTx p T0) emp)) => put_named sp1 inv0 (by decide) asn_emp h)
  unfold opV so1 at K1
  have HS := Lib.hid (St.emp w)
  have KH1 := Lib.hid (fun (p : Nat) (w3 W : World) (h : St w w3 (sep (isTx p st1) emp)) (hb : Below w3.heap.size w3 W) => hold_nm asn_emp h hb ll1 1 false shownHold1)
  have KP1 := Lib.hid (fun (p : Nat) (w3 W : World) (h : St w w3 (sep (isTx p st1) emp)) (hb : Below w3.heap.size w3 W) => place_nm asn_emp h hb ll1 1 0 false shownPlace)
  have KH2 := Lib.hid (fun (p : Nat) (w3 W : World) (h : St w w3 (sep (isTx p st1) emp)) (hb : Below w3.heap.size w3 W) => hold_nm asn_emp h hb ll1 2 false shownHold2)
  have KSN := Lib.hid (fun W A (h : Kd.C Kd.bool W A 4 [true, false, true, true]) => cursor_Snap.calls 5 A 4 [true, false, true, true] 1 0 W h (Nat.le_refl _) shownSnap)
  have KLF := Lib.hid (fun W A (h : Kd.C Kd.bool W A 4 [true, false, true, true]) => cursor_Left.calls 5 A 4 [true, false, true, true] 2 0 W h (Nat.le_refl _) shownLeft)
  have KRT := Lib.hid (fun W A (h : Kd.C Kd.bool W A 4 [true, false, true, true]) => cursor_Right.calls 6 A 4 [true, false, true, true] 0 2 W h (Nat.le_refl _) shownRight)
  clear l1 i1 ll1
  generalize st1 = T1 at *
  simp only [List.length_cons, List.length_nil, Nat.zero_add, Nat.reduceAdd] at KSN KLF KRT
  go_enter Try.func9, Try.ntmps9
  go_wp2_with (first
    | (go_at_call 27; refine (new_st asn_emp HS.out).mono ?_; rintro e w1 ⟨p, rfl, hS⟩; have HS := Lib.hid hS; clear hS)
    | (go_at_call 24; with_reducible refine (K1.out _ _ HS.out).mono ?_; rintro e w3 ⟨rfl, hS⟩; have HP := Lib.hid hS; clear hS)
    | (go_at_call 13; with_reducible refine (KH1.out _ _ _ HP.out (Below.refl _ _)).mono ?_; rintro e w4 ⟨rfl, hb⟩; have HB4 := Lib.hid (show Below w3.heap.size w3 (w4.alloc (.cells #[.int .i64 1, .int .i64 0, .bool false] 26)) from hb.alloc hb.size _); have HX4 := Lib.hid (show St w4 (w4.alloc (anZ 1 0 false)) (sep (isBlk w4.heap.size (anZ 1 0 false)) emp) from (St.emp w4).mkblk asn_emp _); clear hb))
  go_wp2_with (go_at_call 11; refine (KP1.out _ _ _ HP.out HB4.out).mono ?_; rintro e w5 ⟨rfl, hb⟩; have HB5 := Lib.hid (below_step HB4.out hb); have HX5 := Lib.hid (HX4.out.below (asn_sep (asn_blk _ _) asn_emp) hb); clear hb)
  go_wp2_with (go_at_call 13; refine (KH2.out _ _ _ HP.out HB5.out).mono ?_; rintro e w6 ⟨rfl, hb⟩; have HB6 := Lib.hid (below_step HB5.out hb); have HX6 := Lib.hid (HX5.out.below (asn_sep (asn_blk _ _) asn_emp) hb); have HX7 := Lib.hid (lits_st flat_b 4 (asn_sep (asn_blk _ _) asn_emp) (HX6.out.below (asn_sep (asn_blk _ _) asn_emp) ((Below.refl _ w6).alloc (Nat.le_refl _) (anZ 0 0 false))) [true, false, true, true] (by decide)); have f0 : ((w6.alloc (.cells #[.int .i64 0, .int .i64 0, .bool false] 26)).alloc (.cells #[.bool true, .bool false, .bool true, .bool true] 4)).cell? ⟨w4.heap.size, 0, none⟩ = some (.int .i64 1) := HX7.out.snd.an_cells.1; clear hb)
  have HRW := Lib.hid (show Kd.C Kd.bool ((w6.alloc (.cells #[.int .i64 0, .int .i64 0, .bool false] 26)).alloc (.cells #[.bool true, .bool false, .bool true, .bool true] 4)) (some ⟨w6.heap.size + 1, 0, none⟩) 4 [true, false, true, true] from by
    have h := (HX7.out.later (Below.refl _ _)).2.2
    rw [alloc_sz] at h
    exact h)
  have HB7 := Lib.hid (show Below w3.heap.size w3 ((w6.alloc (.cells #[.int .i64 0, .int .i64 0, .bool false] 26)).alloc (.cells #[.bool true, .bool false, .bool true, .bool true] 4)) from (HB6.out.alloc HB6.out.size _).alloc (HB6.out.alloc HB6.out.size _).size _)
  go_wp2_with (first
    | (go_at_call 15; with_reducible refine (KSN.out _ _ HRW.out).mono ?_; rintro e w8 ⟨rfl, hb⟩; have HB8 := Lib.hid (below_step HB7.out hb); have HR8 := Lib.hid (Kd.C_below HRW.out hb); clear hb)
    | (go_at_call 17; with_reducible refine (KLF.out _ _ HR8.out).mono ?_; rintro e w9 ⟨rfl, hb⟩; have HB9 := Lib.hid (below_step HB8.out hb); have HR9 := Lib.hid (Kd.C_below HR8.out hb); clear hb)
    | (go_at_call 19; with_reducible refine (KRT.out _ _ HR9.out).mono ?_; rintro e w10 ⟨rfl, hb⟩; have HB10 := Lib.hid (below_step HB9.out hb); clear hb))
  go_ret
  exact ⟨rfl, below_step HP.out.bel HB10.out⟩
end Go.Proofs.Ytefnpalkkhhkfaa.PC
namespace Go.Proofs.Ytefnpalkkhhkfaa.PC
open Go.RowKit Go.Proofs.YtefnpalkkhhkfaaW.PrintWords Go.Proofs.YtefnpalkkhhkfaaW.PrintLast Go.Proofs.YtefnpalkkhhkfaaW.PrintMore Go.Proofs.Ytefnpalkkhhkfaa.K Go.Proofs.Ytefnpalkkhhkfaa.IX Go.Proofs.Ytefnpalkkhhkfaa.I
attribute [local go_sem] max2_int min2_int max_two min_two max_three min_three max_four min_four
set_option linter.unusedVariables false
set_option linter.unusedSimpArgs false
theorem wf_range {x : Int} (h : (Lit.int .i64 x).wf = true) : -9223372036854775808 ≤ x ∧ x ≤ 9223372036854775807 := by
  have := range_i64 (zs := [x]) (fun n hn => by rw [List.mem_singleton.1 hn]; exact h) 0
  simpa using this
/-- A row of marks, as it is read in a later world: what the functions tell of it. -/
theorem snap_nm {w W : World} {A : Option Addr} {c n : Nat} {b : List Bool} {p r : Int} (h : Kd.C Kd.bool w A b.length b) (hc : b.length ≤ c) (hl : b.length ≤ 100000) (hn : b.length = n) (hb : Below w.heap.size w W) (hr : SnapP b p r) : Calls Try.prog 15 #[.slice A n c, .int .i64 p] W fun e w' => e = .returned (.int .i64 r) ∧ Below W.heap.size W w' := by
  obtain ⟨s, e, k⟩ := csnap b p hl
  have := cursor_Snap.calls _ A c b p s W (Kd.C_below h hb) hc e
  rw [hn, k.uniq hr] at this
  exact this
theorem left_nm {w W : World} {A : Option Addr} {c n : Nat} {b : List Bool} {p r : Int} (h : Kd.C Kd.bool w A b.length b) (hc : b.length ≤ c) (hl : b.length ≤ 100000) (hn : b.length = n) (hb : Below w.heap.size w W) (hp : p ≤ 9223372036854775807) (hr : SnapP b (p - 1) r) : Calls Try.prog 17 #[.slice A n c, .int .i64 p] W fun e w' => e = .returned (.int .i64 r) ∧ Below W.heap.size W w' := by
  obtain ⟨s, e, k⟩ := cleft b p hl hp
  have := cursor_Left.calls _ A c b p s W (Kd.C_below h hb) hc e
  rw [hn, k.uniq hr] at this
  exact this
theorem right_nm {w W : World} {A : Option Addr} {c n : Nat} {b : List Bool} {p r : Int} (h : Kd.C Kd.bool w A b.length b) (hc : b.length ≤ c) (hl : b.length ≤ 100000) (hn : b.length = n) (hb : Below w.heap.size w W) (hr : RightP b p r) : Calls Try.prog 19 #[.slice A n c, .int .i64 p] W fun e w' => e = .returned (.int .i64 r) ∧ Below W.heap.size W w' := by
  obtain ⟨s, e, k⟩ := cright b p hl
  have := cursor_Right.calls _ A c b p s W (Kd.C_below h hb) hc e
  rw [hn, k.uniq hr] at this
  exact this
theorem gsnap_nm {w W : World} {A : Option Addr} {c n : Nat} {b : List Bool} {p r : Int} (h : Kd.C Kd.bool w A b.length b) (hc : b.length ≤ c) (hl : b.length ≤ 100000) (hn : b.length = n) (hb : Below w.heap.size w W) (hr : SnapP b p r) : Calls Try.prog 16 #[.slice A n c, .int .i64 p] W fun e w' => e = .returned (.int .i64 r) ∧ Below W.heap.size W w' := by
  obtain ⟨s, e, k⟩ := rsnap b p hl
  have := foolscapref18_Snap.calls _ A c b p s W (Kd.C_below h hb) hc e
  rw [hn, k.uniq hr] at this
  exact this.mono fun _ _ h => ⟨h.1, by obtain ⟨m, rfl⟩ := h.2.out; exact pw_below_drewN (Below.refl _ _) m⟩
theorem gleft_nm {w W : World} {A : Option Addr} {c n : Nat} {b : List Bool} {p r : Int} (h : Kd.C Kd.bool w A b.length b) (hc : b.length ≤ c) (hl : b.length ≤ 100000) (hn : b.length = n) (hb : Below w.heap.size w W) (hr : SnapP b (p - 1) r) : Calls Try.prog 18 #[.slice A n c, .int .i64 p] W fun e w' => e = .returned (.int .i64 r) ∧ Below W.heap.size W w' := by
  obtain ⟨s, e, k⟩ := rleft b p hl
  have := foolscapref18_Left.calls _ A c b p s W (Kd.C_below h hb) hc e
  rw [hn, k.uniq hr] at this
  exact this.mono fun _ _ h => ⟨h.1, by obtain ⟨m, rfl⟩ := h.2.out; exact pw_below_drewN (Below.refl _ _) m⟩
theorem gright_nm {w W : World} {A : Option Addr} {c n : Nat} {b : List Bool} {p r : Int} (h : Kd.C Kd.bool w A b.length b) (hc : b.length ≤ c) (hl : b.length ≤ 100000) (hn : b.length = n) (hb : Below w.heap.size w W) (hr : RightP b p r) : Calls Try.prog 20 #[.slice A n c, .int .i64 p] W fun e w' => e = .returned (.int .i64 r) ∧ Below W.heap.size W w' := by
  obtain ⟨s, e, k⟩ := rright b p hl
  have := foolscapref18_Right.calls _ A c b p s W (Kd.C_below h hb) hc e
  rw [hn, k.uniq hr] at this
  exact this
theorem cut0 (A : Option Addr) (c : Nat) : (if c = 0 then A else A.map (·.add 0)) = A := by
  split
  · rfl
  · cases A with
    | none => rfl
    | some x => simp [Addr.add]
set_option maxHeartbeats 8000000 in
set_option maxRecDepth 100000 in
theorem bounds18_row (A : Option Addr) (cap : Nat) (b0 : List Bool) (pl : Int) (w : World) (hr : Kd.C Kd.bool w A b0.length b0) (hc : b0.length ≤ cap) (hy : b0.length * 1 ≤ 140737488351232) (hg : ∀ y ∈ b0, True) (hw : (Lit.int .i64 pl).wf = true) :
    Calls Try.prog 4 #[.slice A b0.length cap, .int .i64 pl] w fun e w' => e = .returned (.bool true) ∧ Below w.heap.size w w' := by
  obtain ⟨len, hlen⟩ : ∃ len, b0.length = len := ⟨_, rfl⟩
  obtain ⟨N, hN⟩ : ∃ N, min len 200 = N := ⟨_, rfl⟩
  have C1 := Kd.C_take (m := N) hr (by omega)
  have hbl : (b0.take N).length = N := by rw [List.length_take]; omega
  generalize b0.take N = b at C1 hbl
  have hl : b.length ≤ 100000 := by omega
  have hcb : b.length ≤ cap := by omega
  obtain ⟨h1, h2⟩ := wf_range hw
  obtain ⟨r1, _, k1⟩ := csnap b pl hl
  obtain ⟨r2, _, k2⟩ := cleft b pl hl h2
  obtain ⟨r3, _, k3⟩ := cright b pl hl
  have KS := Lib.hid (fun W hb => snap_nm C1 hcb hl hbl (W := W) hb k1)
  have KL := Lib.hid (fun W hb => left_nm C1 hcb hl hbl (W := W) hb h2 k2)
  have KR := Lib.hid (fun W hb => right_nm C1 hcb hl hbl (W := W) hb k3)
  have GS := Lib.hid (fun W hb => gsnap_nm C1 hcb hl hbl (W := W) hb k1)
  have GL := Lib.hid (fun W hb => gleft_nm C1 hcb hl hbl (W := W) hb k2)
  have GR := Lib.hid (fun W hb => gright_nm C1 hcb hl hbl (W := W) hb k3)
  have HSH := Lib.hid (shown18_calls w)
  have hA1 := cut0 A cap
  rw [hlen] at hc hy ⊢
  have hmn : (if (len : Int) < 200 then (len : Int) else 200) = (N : Int) := by split <;> omega
  have hmn2 : (if (200 : Int) < (len : Int) then (200 : Int) else (len : Int)) = (N : Int) := by split <;> omega
  have hN1 : N ≤ len := by omega
  have hNc : N ≤ cap := by omega
  clear hr hg hw hlen hN C1 hbl hl hcb k1 k2 k3 h1 h2
  go_enter Try.func4, Try.ntmps4
  go_wp2_with (first
    | (go_at_call 9; refine HSH.out.mono ?_; rintro e w1 ⟨rfl, hb⟩; have HB1 := Lib.hid hb; clear hb)
    | (go_at_call 15; with_reducible refine (KS.out _ HB1.out).mono ?_; rintro e w2 ⟨rfl, hb⟩; have HB2 := Lib.hid (below_step HB1.out hb); clear hb)
    | (go_at_call 16; with_reducible refine (GS.out _ HB2.out).mono ?_; rintro e w3 ⟨rfl, hb⟩; have HB3 := Lib.hid (below_step HB2.out hb); clear hb)
    | (go_at_call 17; with_reducible refine (KL.out _ HB3.out).mono ?_; rintro e w4 ⟨rfl, hb⟩; have HB4 := Lib.hid (below_step HB3.out hb); clear hb)
    | (go_at_call 18; with_reducible refine (GL.out _ HB4.out).mono ?_; rintro e w5 ⟨rfl, hb⟩; have HB5 := Lib.hid (below_step HB4.out hb); clear hb)
    | (go_at_call 19; with_reducible refine (KR.out _ HB5.out).mono ?_; rintro e w6 ⟨rfl, hb⟩; have HB6 := Lib.hid (below_step HB5.out hb); clear hb)
    | (go_at_call 20; with_reducible refine (GR.out _ HB6.out).mono ?_; rintro e w7 ⟨rfl, hb⟩; have HB7 := Lib.hid (below_step HB6.out hb); clear hb))
  go_ret
  exact ⟨rfl, HB7.out⟩
end Go.Proofs.Ytefnpalkkhhkfaa.PC
