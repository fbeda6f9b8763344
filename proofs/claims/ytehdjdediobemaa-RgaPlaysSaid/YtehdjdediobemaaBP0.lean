/- A part of the proof of rgaPlaces_holds: its texts, one behind the other, as far as the proof stands on them. (Lines of its texts on the printed words and functions began as lines that a program of the kit had written for this statement.) -/
import Derived.ArgAppend
import Derived.Below
import Derived.BigQuiet
import Derived.BigRegion
import Derived.ChangeMaps4
import Derived.ChangeMaps5
import Derived.ChangeOld
import Derived.Deep.AppendLies
import Derived.Deep.CutBlock
import Derived.Deep.CutRange
import Derived.Deep.DeepCutAuto
import Derived.Deep.DrawnRows
import Derived.Deep.Draws
import Derived.Deep.LoopGhost
import Derived.Deep.OwnRows
import Derived.Deep.QuietTactic
import Derived.Deep.RegionHeld3
import Derived.Deep.RegionLaw
import Derived.Deep.RegionWith
import Derived.Deep.Slices
import Derived.KernelRfl
import Derived.Laws.BitsLemmas
import Derived.Laws.BytesArg
import Derived.Laws.CopyRow
import Derived.Laws.Cover4
import Derived.Laws.Externs
import Derived.Laws.IdiomCopy
import Derived.Laws.MakeOwn
import Derived.Laws.NewBlocks
import Derived.Laws.OwnMore
import Derived.Laws.Rows
import Derived.Laws.Slices
import Derived.Laws.StructEq
import Derived.Lib.AppendStr
import Derived.Lib.AppendZeros
import Derived.Lib.AppendZerosOnto
import Derived.Lib.ConvBytes
import Derived.Lib.Hide
import Derived.Lib.JoinLaws
import Derived.Lib.Overlaps
import Derived.Lib.SmallJoins
import Derived.Lib.Walk
import Derived.MapKept
import Derived.Maps.AppendAt
import Derived.OpenShut
import Derived.OrdersHeld
import Derived.OwnWalk
import Derived.ProofKit
import Derived.RegionTactic
import Derived.RowKit
import Derived.RowKit3
import Derived.SizedLaws
import Derived.StillTail
import Derived.StillTailTactics
import Derived.Tactics
import Derived.Test.YtehdjdediobemaaProg
import Derived.Test.YtehdjdediobemaaRows
import Derived.WalkKit
import Derived.WalkSpells
import Derived.WideLaws
import Derived.WideShapes
import Derived.Test.YtehdjdediobemaaBF10
namespace Go.Proofs.Ytehdjdediobemaa.PC
open Go.RowKit Go.Proofs.YtehdjdediobemaaW.PrintWords Go.Proofs.YtehdjdediobemaaW.PrintLast Go.Proofs.YtehdjdediobemaaW.PrintMore
attribute [local go_sem] max2_int min2_int max_two min_two max_three min_three max_four min_four   -- for this text's walks alone
set_option linter.unusedVariables false
set_option linter.unusedSimpArgs false
theorem k31_mk (w : World) (x : S31)  : k31.K w x [.int .i64 x.f0, .int .i64 x.f1] := ⟨[.int .i64 x.f0], [.int .i64 x.f1], rfl, rfl, rfl⟩
theorem k34_mk (w : World) (x : S34)  : k34.K w x [.int .i64 x.f0.f0, .int .i64 x.f0.f1, .int .i64 x.f1, .bool x.f2, .int .i64 x.f3.f0, .int .i64 x.f3.f1, .int .i32 x.f4] := ⟨[.int .i64 x.f0.f0, .int .i64 x.f0.f1], [.int .i64 x.f1, .bool x.f2, .int .i64 x.f3.f0, .int .i64 x.f3.f1, .int .i32 x.f4], rfl, (k31_mk w x.f0 ), ⟨[.int .i64 x.f1], [.bool x.f2, .int .i64 x.f3.f0, .int .i64 x.f3.f1, .int .i32 x.f4], rfl, rfl, ⟨[.bool x.f2], [.int .i64 x.f3.f0, .int .i64 x.f3.f1, .int .i32 x.f4], rfl, rfl, ⟨[.int .i64 x.f3.f0, .int .i64 x.f3.f1], [.int .i32 x.f4], rfl, (k31_mk w x.f3 ), rfl⟩⟩⟩⟩
end Go.Proofs.Ytehdjdediobemaa.PC
namespace Go.Proofs.Ytehdjdediobemaa.OpenS
open Go.ChangeShapes Go.WideShapes Go.ChangeAt Go.Joins
set_option linter.unusedVariables false
set_option maxRecDepth 100000
variable {H : Type} {enc : TypeId × Value → H} {w : World} {base : Nat} {spare : Nat → Bool} {held : Bool}
/-- The two numbers of an ID's cells. -/
theorem cells31 {fuel : Nat} {cs : List Value} {x : DataW H × List MemPlace} (h : DataW.trod enc Try.prog w base spare held fuel 31 cs = some x) : ∃ a b, cs = [.int .i64 a, .int .i64 b] ∧ (Lit.int .i64 a).wf = true ∧ (Lit.int .i64 b).wf = true := by
  obtain ⟨xs, n, _, _, hl, hlen, hf⟩ := DataW.trod_struct Try.underlying31 h
  have hc : Try.prog.cellsOf 31 = 2 := by kernel_rfl
  have hi : Try.prog.cellsOf 3 = 1 := by kernel_rfl
  rw [hc] at hl
  match cs, hl, xs, hlen with
  | [c0, c1], _, [y0, y1], _ =>
    have g0 := hf 0 _ rfl
    have g1 := hf 1 _ rfl
    simp [hi] at g0 g1
    obtain ⟨a, ha, _, wa⟩ := DataW.trod_int Try.underlying3 (x := y0) (by simpa using g0)
    obtain ⟨b, hb, _, wb⟩ := DataW.trod_int Try.underlying3 (x := y1) (by simpa using g1)
    simp only [List.cons.injEq, and_true] at ha hb
    exact ⟨a, b, by rw [ha, hb], wa, wb⟩
end Go.Proofs.Ytehdjdediobemaa.OpenS
namespace Go.Proofs.Ytehdjdediobemaa.OpenS
open Go.RowKit Go.ChangeShapes Go.WideShapes Go.ChangeAt Go.Joins Go.Proofs.Ytehdjdediobemaa.PC Go.Proofs.Ytehdjdediobemaa.K Go.Proofs.YtehdjdediobemaaW.PrintWords
set_option linter.unusedVariables false
set_option maxRecDepth 100000
variable {H : Type} {enc : TypeId × Value → H} {w : World} {base : Nat} {spare : Nat → Bool} {held : Bool}
theorem cellsOp {fuel : Nat} {cs : List Value} {x : DataW H × List MemPlace} (hf : DataW.trod enc Try.prog w base spare held fuel 34 cs = some x) : ∃ y : S34, k34.K w y cs ∧ True := by
  obtain ⟨xs, n, _, _, hl, hlen, hff⟩ := DataW.trod_struct Try.underlying34 hf
  have hc : Try.prog.cellsOf 34 = 7 := by kernel_rfl
  have h3 : Try.prog.cellsOf 3 = 1 := by kernel_rfl
  have h4 : Try.prog.cellsOf 4 = 1 := by kernel_rfl
  have h21 : Try.prog.cellsOf 21 = 1 := by kernel_rfl
  have h59 : Try.prog.cellsOf 31 = 2 := by kernel_rfl
  rw [hc] at hl
  match cs, hl, xs, hlen with
  | [c0, c1, c2, c3, c4, c5, c6], _, [y0, y1, y2, y3, y4], _ =>
    have g0 := hff 0 _ rfl
    have g1 := hff 1 _ rfl
    have g2 := hff 2 _ rfl
    have g3 := hff 3 _ rfl
    have g4 := hff 4 _ rfl
    simp [h3, h4, h21, h59] at g0 g1 g2 g3 g4
    obtain ⟨a, b, e0, wa, wb⟩ := cells31 (x := y0) (by simpa using g0)
    obtain ⟨c, e1, _, wc⟩ := DataW.trod_int Try.underlying3 (x := y1) (by simpa using g1)
    obtain ⟨e, e2, _⟩ := DataW.trod_bool Try.underlying4 (x := y2) (by simpa using g2)
    obtain ⟨f, g, e3, wf, wg⟩ := cells31 (x := y3) (by simpa using g3)
    obtain ⟨i, e4, _, wi⟩ := DataW.trod_int Try.underlying21 (x := y4) (by simpa using g4)
    simp only [List.cons.injEq, and_true] at e0 e1 e2 e3 e4
    refine ⟨⟨⟨a, b⟩, c, e, ⟨f, g⟩, i⟩, ?_, trivial⟩
    rw [e0.1, e0.2, e1, e2, e3.1, e3.2, e4]
    exact k34_mk w ⟨⟨a, b⟩, c, e, ⟨f, g⟩, i⟩
theorem openOps {ts : List TypeId} {ds : List (DataW H)} {j : Nat} {a : Option Addr} {len cap : Nat} {d : DataW H} {ps : List MemPlace} (hsz : (DataW.weightsEach Try.prog ts ds).all (· ≤ reachBytes) = true) (ht : ts[j]? = some 38) (hd : ds[j]? = some d)
    (h : DataW.Trod enc Try.prog w base spare held 38 (.slice a len cap) d ps) :
    ∃ zs : List S34, zs.length = len ∧ Kd.C k34 w a zs.length zs ∧ zs.length ≤ cap ∧ zs.length * 56 ≤ 140737488351232 ∧ ∀ y ∈ zs, True :=
  open_rows (K := k34.K w) (sz := 7) hsz ht hd Try.underlying38 (by kernel_rfl) (by kernel_rfl) (fun x c hx => by rw [k34_open hx]; rfl) (fun n cs x hx => cellsOp hx) h
end Go.Proofs.Ytehdjdediobemaa.OpenS
namespace Go.Proofs.Ytehdjdediobemaa.IX
open Go.RowKit
set_option linter.unusedVariables false
/-- Which place is the k-th that is seen. -/
def sel : List Bool → Nat → Option Nat
  | [], _ => none
  | true :: l, 0 => some 0
  | true :: l, k + 1 => (sel l k).map (· + 1)
  | false :: l, k => (sel l k).map (· + 1)
theorem sel_app (a b : List Bool) (k : Nat) : sel (a ++ b) k = if k < cn a then sel a k else (sel b (k - cn a)).map (· + a.length) := by
  induction a generalizing k with
  | nil => simp [cn]
  | cons x a ih =>
    rw [List.cons_append, cn_cons]
    cases x
    · simp only [sel, ih, Bool.false_eq_true, if_false, Nat.zero_add]
      split
      · rfl
      · rw [Option.map_map]; congr 1
    · cases k with
      | zero => simp [sel]
      | succ k =>
        simp only [sel, ih, if_true]
        by_cases c : k < cn a
        · rw [if_pos c, if_pos (by omega)]
        · rw [if_neg c, if_neg (by omega), Option.map_map, show k + 1 - (1 + cn a) = k - cn a by omega]; congr 1
theorem sel_none (l : List Bool) (k : Nat) (h : cn l ≤ k) : sel l k = none := by
  induction l generalizing k with
  | nil => rfl
  | cons x l ih =>
    rw [cn_cons] at h
    cases x
    · simp only [sel]; rw [ih k (by simpa using h)]; rfl
    · cases k with
      | zero => simp at h
      | succ k => simp only [sel]; rw [ih k (by simp at h; omega)]; rfl
theorem sel_some (l : List Bool) (k : Nat) (h : k < cn l) : ∃ i, sel l k = some i ∧ i < l.length ∧ l[i]? = some true ∧ cn (l.take i) = k := by
  induction l generalizing k with
  | nil => simp [cn] at h
  | cons x l ih =>
    rw [cn_cons] at h
    cases x
    · obtain ⟨i, h1, h2, h3, h4⟩ := ih k (by simpa using h)
      exact ⟨i + 1, by simp [sel, h1], by simp; omega, by simpa using h3, by rw [List.take_succ_cons, cn_cons, h4]; simp⟩
    · cases k with
      | zero => exact ⟨0, rfl, by simp, rfl, rfl⟩
      | succ k =>
        obtain ⟨i, h1, h2, h3, h4⟩ := ih k (by simp at h; omega)
        exact ⟨i + 1, by simp [sel, h1], by simp; omega, by simpa using h3, by rw [List.take_succ_cons, cn_cons, h4]; simp; omega⟩
end Go.Proofs.Ytehdjdediobemaa.IX
namespace Go.Proofs.Ytehdjdediobemaa.PC
open Go.RowKit Go.Proofs.YtehdjdediobemaaW.PrintWords Go.Proofs.YtehdjdediobemaaW.PrintLast Go.Proofs.YtehdjdediobemaaW.PrintMore Go.Proofs.Ytehdjdediobemaa.K Go.Proofs.Ytehdjdediobemaa.IX
attribute [local go_sem] max2_int min2_int max_two min_two max_three min_three max_four min_four
set_option linter.unusedVariables false
set_option linter.unusedSimpArgs false
def rankS (ms : List Bool) (a : Int) : Int := cn (ms.take a.toNat)
def selS (ms : List Bool) (k : Int) : Int × Bool := if 0 ≤ k then (match sel ms k.toNat with | some i => ((i : Int), true) | none => (0, false)) else (0, false)
theorem cn_take_end (ms : List Bool) (a : Int) (h : (ms.length : Int) ≤ a) : rankS ms a = cn ms := by
  unfold rankS
  rw [List.take_of_length_le (by omega)]
set_option maxHeartbeats 4000000 in
set_option maxRecDepth 100000 in
theorem rank_calls (w : World) (F : List Nat) (p : Nat) (ms : List Bool) (a : Int) (h : Ix w F p ms) (hs : ms.length ≤ 1000000) : Calls Try.prog 54 #[.pointer (some ⟨p, 0, none⟩), .int .i64 a] w fun e w' => e = .returned (.int .i64 (rankS ms a)) ∧ ∃ n, w' = w.drewN n := by
  obtain ⟨lv, L, hR, rfl, _, hLn⟩ := h
  obtain ⟨g, cap, _, hcap, h0, h1, h2, hrow⟩ := hR.head_cells
  by_cases hend : ((marks L).length : Int) ≤ a ∨ (marks L).length = 0
  · have hv : rankS (marks L) a = (cn (marks L) : Int) := by
      rcases hend with h | h
      · exact cn_take_end _ _ h
      · have : marks L = [] := List.eq_nil_of_length_eq_zero h
        rw [this]; simp [rankS, cn]
    rw [hv]
    clear hrow hR hv hLn
    generalize cn (marks L) = c at *
    generalize (marks L).length = tot at *
    by_cases h3 : a < 0
    · have h4 : tot = 0 := by omega
      subst h4
      clear hend
      go_enter Try.func54, Try.ntmps54
      go_wp2
      go_ret
      exact ⟨rfl, 0, rfl⟩
    · have h4 : (tot : Int) ≤ a := by omega
      clear hend
      by_cases h5 : a = tot
      · subst h5
        go_enter Try.func54, Try.ntmps54
        go_wp2
        go_ret
        exact ⟨rfl, 0, rfl⟩
      · have h6 : (tot : Int) < a := by omega
        go_enter Try.func54, Try.ntmps54
        go_wp2
        go_ret
        exact ⟨rfl, 0, rfl⟩
  · obtain ⟨n, hn, hlt⟩ : ∃ n : Nat, (n : Int) = max a 0 ∧ n < (marks L).length := ⟨(max a 0).toNat, by omega, by omega⟩
    have hv : rankS (marks L) a = (cn ((marks L).take n) : Int) := by
      unfold rankS
      rw [show a.toNat = n by omega]
    rw [hv]
    have hf := find_calls w p lv L n false hR hs (by omega) (.inl (by omega))
    have HROW := Lib.hid hrow
    have HR := Lib.hid hR
    have HF := Lib.hid hf
    have hm1 : (if a < 0 then 0 else a) = (n : Int) := by split <;> omega
    have hm2 : (if 0 < a then a else 0) = (n : Int) := by split <;> omega
    obtain ⟨tot, htot⟩ : ∃ t, (marks L).length = t := ⟨_, rfl⟩
    have hm3 : (if (n : Int) < tot then (n : Int) else tot) = n := by split <;> omega
    have hm4 : (if (tot : Int) < n then (tot : Int) else n) = n := by split <;> omega
    rw [htot] at h0 hlt
    have HT := Lib.hid htot
    obtain ⟨LL, hLL⟩ : ∃ t, L.length = t := ⟨_, rfl⟩
    rw [hLL] at h2 hcap
    have HLL := Lib.hid hLL
    have hlt2 : n ≤ 1000000 := by omega
    have HN := Lib.hid hn
    clear hrow hR hf htot hLL hLn hv hend hn
    go_enter Try.func54, Try.ntmps54
    go_wp2_with (go_at_call 69; refine HF.out.mono ?_; rintro e w' ⟨pre, x, post, k, hL, hat, hk, rfl, nd, rfl⟩; obtain ⟨hx, hb⟩ := found HR.out hL; replace hk : k < x.ms.length := hk.elim id (fun h => by cases h.1); obtain ⟨g2, c2, hxv, hc2, hc0, hc1, hm⟩ := hb.mark (List.getElem?_eq_getElem hk); have hptr := HROW.out _ _ hx; have hplt : pre.length < LL := (by rw [← HLL.out, hL]; simp); have hv : cn ((marks L).take n) = cn (marks pre) + cn (x.ms.take k) := (by rw [hat, hL, take_found _ _ _ _ (Nat.le_of_lt hk), cn_app]); have hkc : k ≤ c2 := (by omega); have hk6 : k ≤ 1000000 := (by omega); have hcb := cn_le (marks pre); have hcb2 : (marks pre).length ≤ 1000000 := (by omega); have HV := Lib.hid hv; have HB := Lib.hid (And.intro hb (And.intro hxv hk)); clear hL hat hx hb hv hm hxv; obtain ⟨cp, hcp⟩ : ∃ c, cn (marks pre) = c := ⟨_, rfl⟩; rw [hcp] at hcb; have HCP := Lib.hid hcp; have hcb3 : cp ≤ 1000000 := (by omega); clear hcp hcb hcb2; generalize pre.length = i at *)
    go_loopw [7, 50] (fun v7 v50 w' => ∃ (j s m : Nat), v7 = .int .i64 (s : Int) ∧ v50 = .int .i64 (j : Int) ∧ j ≤ k ∧ s ≤ 2000000 ∧ Aside0 (s = cp + cn (x.ms.take j)) ∧ Aside0 (w' = w.drewN m)) (fun _ v50 _ => k - (intOf v50).toNat)
    case atStart => exact ⟨0, cp, nd, by rw [HCP.out], rfl, by omega, by omega, ⟨by simp [cn]⟩, ⟨rfl⟩⟩
    case round =>
      obtain ⟨j, s, m, rfl, rfl, hj, hsb, HI, HW⟩ := hrel
      obtain rfl := HW.out
      by_cases hlt : j < k
      · have hjl : j < x.ms.length := by have := HB.out.2.2; omega
        obtain ⟨g3, c3, e3, _, _, _, hm⟩ := HB.out.1.mark (List.getElem?_eq_getElem hjl)
        obtain rfl : g2 = g3 := by
          have e := HB.out.2.1.symm.trans e3
          injection e with e1 _ _
          injection e1 with e1
          injection e1 with e1
        have hct := cn_take_succ x.ms j hjl
        have hcl := cn_le (x.ms.take (j + 1))
        rw [List.length_take] at hcl
        obtain ⟨u, hu⟩ : ∃ u, x.ms[j] = u := ⟨_, rfl⟩
        rw [hu] at hm hct
        have hob := oneI_b u
        have hoe : oneI u = ((if u = true then 1 else 0 : Nat) : Int) := by unfold oneI; split <;> rfl
        have hsm : s + cn (x.ms.take (j + 1)) ≤ 2000000 + s := by omega
        have hs2 : cp + cn (x.ms.take (j + 1)) ≤ 2000000 := by omega
        have HCT := Lib.hid hct
        have HS2 := Lib.hid hs2
        have HOE := Lib.hid hoe
        clear hct hcl hu hsm hs2 hoe e3
        have hw2 : IntKind.i64.wrap ((s : Int) + oneI u) = (s : Int) + oneI u := by rw [IntKind.wrap_i64]; omega
        go_wp2_with (go_at_call 70; refine (one_calls u _).mono ?_; rintro e w' ⟨rfl, rfl⟩)
        go_roundw
        case rel => exact ⟨j + 1, cp + cn (x.ms.take (j + 1)), m, by rw [HCT.out, HI.out]; have := HOE.out; congr 1; rw [this]; push_cast; omega, by go_num, by omega, HS2.out, ⟨rfl⟩, ⟨rfl⟩⟩
        case measure => simp [intOf]; omega
      · obtain rfl : j = k := by omega
        go_wp2
        go_ret
        exact ⟨by rw [HV.out, HCP.out, HI.out]; rfl, m, rfl⟩
theorem sel_drop (ms : List Bool) (j k : Nat) (h : j < ms.length) : sel (ms.drop j) k = if ms[j] = true ∧ k = 0 then some 0 else (sel (ms.drop (j + 1)) (if ms[j] = true then k - 1 else k)).map (· + 1) := by
  rw [List.drop_eq_getElem_cons h]
  cases hm : ms[j]
  · simp [sel]
  · cases k with
    | zero => simp [sel]
    | succ k => simp [sel]
theorem cn_drop (ms : List Bool) (j : Nat) (h : j < ms.length) : cn (ms.drop j) = (if ms[j] = true then 1 else 0) + cn (ms.drop (j + 1)) := by
  rw [List.drop_eq_getElem_cons h, cn_cons]
def SelPost (ms : List Bool) (k : Nat) (w : World) (e : Ending) (w' : World) : Prop := ∃ i, sel ms k = some i ∧ e = .returned (.tuple #[.int .i64 (i : Int), .bool true]) ∧ ∃ n, w' = w.drewN n
theorem marks_drop (L : List Blk) (i : Nat) (h : i < L.length) : marks (L.drop i) = L[i].ms ++ marks (L.drop (i + 1)) := by
  rw [List.drop_eq_getElem_cons h, marks_cons]
set_option maxHeartbeats 4000000 in
set_option maxRecDepth 100000 in
theorem sel_walk (w : World) (p : Nat) (lv : Value) (L : List Blk) (K : Nat) (hR : IxR w p lv L) (hs : (marks L).length ≤ 1000000) (hLn : L.length ≤ 1000001) (hK : K < cn (marks L)) :
    Calls Try.prog 53 #[.pointer (some ⟨p, 0, none⟩), .int .i64 (K : Int)] w (SelPost (marks L) K w) := by
  obtain ⟨g, cap, _, hcap, h0, h1, h2, hrow⟩ := hR.head_cells
  have hcl := cn_le (marks L)
  have HROW := Lib.hid hrow
  have HR := Lib.hid hR
  obtain ⟨tot, htot⟩ : ∃ t, cn (marks L) = t := ⟨_, rfl⟩
  rw [htot] at h1 hK hcl
  have hK2 : K ≤ 1000000 := by omega
  have HT := Lib.hid htot
  have HS := Lib.hid hs
  clear hrow hR htot h0 hs hcl
  have hd1 : decide ((K : Int) < 0) = false := by simp
  have hd2 : decide (tot ≤ K) = false := by simpa using hK
  go_enter Try.func53, Try.ntmps53
  go_wp2
  go_loopw [1, 6, 27] (fun v1 v6 v27 w' => ∃ (i k a n : Nat), v1 = .int .i64 (k : Int) ∧ v6 = .int .i64 (a : Int) ∧ v27 = .int .i64 (i : Int) ∧ i ≤ L.length ∧ k ≤ 1000000 ∧ a ≤ 1000000 ∧ Aside0 (a = (marks (L.take i)).length ∧ k < cn (marks (L.drop i)) ∧ sel (marks L) K = (sel (marks (L.drop i)) k).map (· + a)) ∧ Aside0 (w' = w.drewN n)) (fun _ _ v27 _ => L.length - (intOf v27).toNat)
  case atStart => exact ⟨0, K, 0, 0, rfl, rfl, rfl, by omega, by omega, by omega, ⟨by simp [marks], by rw [List.drop_zero, HT.out]; exact hK, by rw [List.drop_zero]; simp⟩, ⟨rfl⟩⟩
  case round =>
    obtain ⟨i, k, a, n, rfl, rfl, rfl, hi, hk6, ha6, HI, HW⟩ := hrel
    obtain rfl := HW.out
    by_cases hlt : i < L.length
    · have hx : L[i]? = some L[i] := List.getElem?_eq_getElem hlt
      have hptr := HROW.out i _ hx
      have hb := HR.out.blk L[i] (List.getElem_mem hlt)
      obtain ⟨A, c, hv, hc, hc0, hc1⟩ := hb.cells
      have hmd := marks_drop L i hlt
      have hmt := marks_take_succ L i hlt
      have hlen := marks_len_take L (i + 1)
      have hsl := HS.out
      rw [hmt, List.length_append] at hlen
      obtain ⟨x, hxe⟩ : ∃ x, L[i] = x := ⟨_, rfl⟩
      rw [hxe] at hptr hb hv hc hc0 hc1 hmd hmt hlen
      obtain ⟨hI1, hI2, hI3⟩ := HI.out
      rw [hmd, cn_app] at hI2
      rw [hmd, sel_app] at hI3
      have hxl : a + x.ms.length ≤ 1000000 := by omega
      obtain ⟨cx, hcx⟩ : ∃ c, cn x.ms = c := ⟨_, rfl⟩
      obtain ⟨ln, hln⟩ : ∃ ln, x.ms.length = ln := ⟨_, rfl⟩
      have hcl := cn_le x.ms
      rw [hcx] at hI2 hI3 hc1 hcl
      rw [hln] at hI3 hc0 hc hxl hcl
      have hm : ∀ j u, x.ms[j]? = some u → ∃ g2, A = some ⟨g2, 0, none⟩ ∧ w.cell? ⟨g2, j, none⟩ = some (.bool u) := by
        intro j u hu
        obtain ⟨g2, c2, e2, _, _, _, hcell⟩ := hb.mark hu
        rw [hv] at e2
        injection e2 with e2 _ _
        exact ⟨g2, e2, hcell⟩
      have HM := Lib.hid hm
      have HLN := Lib.hid hln
      have HCX := Lib.hid hcx
      have HMT := Lib.hid hmt
      have HI1 := Lib.hid hI1
      have HI2 := Lib.hid hI2
      clear hx hb hv hmd hmt hlen hsl hm hln hcx hI1 HI hI2
      by_cases hkc : cx ≤ k
      · rw [if_neg (by omega)] at hI3
        have HI3 := Lib.hid hI3
        clear hI3
        have hw1 : IntKind.i64.wrap ((k : Int) - (cx : Int)) = (k : Int) - (cx : Int) := by rw [IntKind.wrap_i64]; omega
        have hw2 : IntKind.i64.wrap ((a : Int) + (ln : Int)) = (a : Int) + (ln : Int) := by rw [IntKind.wrap_i64]; omega
        go_wp2
        go_quiet (fail)
        go_wp2
        go_roundw
        case rel => exact ⟨i + 1, k - cx, a + ln, n + nq, by rw [show ((k - cx : Nat) : Int) = (k : Int) - (cx : Int) by omega], by go_num, by go_num, by omega, by omega, by omega, ⟨by rw [HMT.out, List.length_append, HLN.out, ← HI1.out], by have := HI2.out; omega, by rw [HI3.out, Option.map_map]; congr 1; funext z; simp; omega⟩, ⟨by simp⟩⟩
        case measure => simp [intOf]; omega
      · rw [if_pos (by omega)] at hI3
        have HI3 := Lib.hid hI3
        have HI2' := Lib.hid (show k < cn x.ms by rw [HCX.out]; omega)
        clear hI3
        go_wp2
        go_loopw [1, 55] (fun v1 v55 w' => ∃ (j k2 : Nat), v1 = .int .i64 (k2 : Int) ∧ v55 = .int .i64 (j : Int) ∧ j ≤ ln ∧ k2 ≤ 1000000 ∧ Aside0 (k2 < cn (x.ms.drop j) ∧ sel x.ms k = (sel (x.ms.drop j) k2).map (· + j)) ∧ Aside0 (w' = w.drewN n)) (fun _ v55 _ => ln - (intOf v55).toNat)
        case atStart => exact ⟨0, k, rfl, rfl, by omega, by omega, ⟨by rw [List.drop_zero]; exact HI2'.out, by rw [List.drop_zero]; simp⟩, ⟨rfl⟩⟩
        case round =>
          obtain ⟨j, k2, rfl, rfl, hj, hk26, HJ, HW2⟩ := hrel
          obtain rfl := HW2.out
          by_cases hlt2 : j < ln
          · have hjl : j < x.ms.length := by rw [HLN.out]; exact hlt2
            obtain ⟨g2, rfl, hm⟩ := HM.out j _ (List.getElem?_eq_getElem hjl)
            obtain ⟨hJ1, hJ2⟩ := HJ.out
            rw [cn_drop x.ms j hjl] at hJ1
            rw [sel_drop x.ms j k2 hjl] at hJ2
            obtain ⟨u, hu⟩ : ∃ u, x.ms[j] = u := ⟨_, rfl⟩
            rw [hu] at hm hJ1 hJ2
            clear hu HJ hjl
            cases u with
            | true =>
              by_cases hk0 : k2 = 0
              · subst hk0
                have hv : sel (marks L) K = some (a + j) := by
                  rw [HI3.out, hJ2]; simp; omega
                have HV := Lib.hid hv
                have hw2 : IntKind.i64.wrap ((a : Int) + (j : Int)) = (a : Int) + (j : Int) := by rw [IntKind.wrap_i64]; omega
                clear hJ1 hJ2 hv
                go_wp2
                go_ret2
                exact ⟨a + j, HV.out, by push_cast; rfl, n, rfl⟩
              · have hk1 : ((k2 : Int) == 0) = false := by simp; omega
                simp only [true_and, if_neg hk0, if_true] at hJ1 hJ2
                have HJ1 := Lib.hid hJ1
                have HJ2 := Lib.hid hJ2
                clear hJ1 hJ2
                have hw2 : IntKind.i64.wrap ((k2 : Int) - oneI true) = (k2 : Int) - 1 := by rw [IntKind.wrap_i64]; unfold oneI; simp; omega
                go_wp2_with (go_at_call 70; refine (one_calls true _).mono ?_; rintro e w' ⟨rfl, rfl⟩)
                go_roundw
                case rel => exact ⟨j + 1, k2 - 1, by rw [show ((k2 - 1 : Nat) : Int) = (k2 : Int) - 1 by omega], by go_num, by omega, by omega, ⟨by have := HJ1.out; omega, by rw [HJ2.out, Option.map_map]; congr 1; funext z; simp; omega⟩, ⟨by trivial⟩⟩
                case measure => simp [intOf]; omega
            | false =>
              simp only [Bool.false_eq_true, false_and, if_false, Nat.zero_add] at hJ1 hJ2
              have HJ1 := Lib.hid hJ1
              have HJ2 := Lib.hid hJ2
              clear hJ1 hJ2
              have hw2 : IntKind.i64.wrap ((k2 : Int) - oneI false) = (k2 : Int) := by rw [IntKind.wrap_i64]; unfold oneI; simp; omega
              go_wp2_with (go_at_call 70; refine (one_calls false _).mono ?_; rintro e w' ⟨rfl, rfl⟩)
              go_roundw
              case rel => exact ⟨j + 1, k2, rfl, by go_num, by omega, by omega, ⟨HJ1.out, by rw [HJ2.out, Option.map_map]; congr 1; funext z; simp; omega⟩, ⟨by trivial⟩⟩
              case measure => simp [intOf]; omega
          · exfalso
            have h3 := HJ.out.1
            rw [List.drop_of_length_le (by rw [HLN.out]; omega)] at h3
            simp [cn] at h3
    · exfalso
      have h3 := HI.out.2.1
      rw [List.drop_of_length_le (by omega)] at h3
      simp [cn, marks] at h3
theorem select_calls (w : World) (F : List Nat) (p : Nat) (ms : List Bool) (a : Int) (h : Ix w F p ms) (hs : ms.length ≤ 1000000) : Calls Try.prog 53 #[.pointer (some ⟨p, 0, none⟩), .int .i64 a] w fun e w' => e = .returned (.tuple #[.int .i64 (selS ms a).1, .bool (selS ms a).2]) ∧ ∃ n, w' = w.drewN n := by
  obtain ⟨lv, L, hR, rfl, _, hLn⟩ := h
  by_cases hin : 0 ≤ a ∧ a < (cn (marks L) : Int)
  · obtain ⟨n, rfl⟩ : ∃ n : Nat, a = n := ⟨a.toNat, by omega⟩
    refine (sel_walk w p lv L n hR hs (by omega) (by omega)).mono ?_
    rintro e w' ⟨i, h1, rfl, h2⟩
    refine ⟨?_, h2⟩
    unfold selS
    rw [if_pos (by omega), Int.toNat_natCast, h1]
  · have hv : selS (marks L) a = (0, false) := by
      unfold selS
      by_cases h3 : 0 ≤ a
      · rw [if_pos h3, sel_none _ _ (by omega)]
      · rw [if_neg h3]
    rw [hv]
    obtain ⟨g, cap, _, hcap, h0, h1, h2, hrow⟩ := hR.head_cells
    clear hrow hR hv hLn hs
    generalize cn (marks L) = tot at *
    by_cases h3 : a < 0
    · clear hin
      go_enter Try.func53, Try.ntmps53
      go_wp2
      go_ret2
      exact ⟨rfl, 0, rfl⟩
    · have h4 : (tot : Int) ≤ a := by omega
      clear hin
      go_enter Try.func53, Try.ntmps53
      go_wp2
      go_ret2
      exact ⟨rfl, 0, rfl⟩
end Go.Proofs.Ytehdjdediobemaa.PC
namespace Go.Proofs.Ytehdjdediobemaa.PC
open Go.RowKit Go.Proofs.YtehdjdediobemaaW.PrintWords Go.Proofs.YtehdjdediobemaaW.PrintLast Go.Proofs.YtehdjdediobemaaW.PrintMore Go.Proofs.Ytehdjdediobemaa.K Go.Proofs.Ytehdjdediobemaa.IX
attribute [local go_sem] max2_int min2_int max_two min_two max_three min_three max_four min_four
attribute [local go_sem high] eqA31
set_option linter.unusedVariables false
set_option linter.unusedSimpArgs false
theorem info31 : (Try.prog.info? 31).map (fun i => (i.zero, i.size, i.bytes)) = some (some (.agg #[(.int .i64 0), (.int .i64 0)]), 2, 16) := by kernel_rfl
def idsS (so : S75 → Bool) (l : List S75) : List S31 := (l.filter so).map (·.f0)
theorem idsS_snoc (so : S75 → Bool) (l : List S75) (e : S75) : idsS so (l ++ [e]) = if so e = true then idsS so l ++ [e.f0] else idsS so l := by
  unfold idsS
  rw [List.filter_append, List.map_append]
  cases h : so e <;> simp [h]
theorem idsS_len (so : S75 → Bool) (l : List S75) : (idsS so l).length ≤ l.length := by
  unfold idsS
  rw [List.length_map]
  exact List.length_filter_le _ _
end Go.Proofs.Ytehdjdediobemaa.PC
namespace Go.Proofs.Ytehdjdediobemaa.PC
open Go.RowKit Go.Proofs.YtehdjdediobemaaW.PrintWords Go.Proofs.YtehdjdediobemaaW.PrintLast Go.Proofs.YtehdjdediobemaaW.PrintMore Go.Proofs.Ytehdjdediobemaa.K Go.Proofs.Ytehdjdediobemaa.IX
attribute [local go_sem] max2_int min2_int max_two min_two max_three min_three max_four min_four
attribute [local go_sem high] eqA31
set_option linter.unusedVariables false
set_option linter.unusedSimpArgs false
theorem cIDs_calls (e : S75) (w : World) : Calls Try.prog 50 #[elV e] w fun e' w' => e' = .returned (.bool e.f2) ∧ Below w.heap.size w w' := by
  unfold elV
  go_enter Try.func50, Try.ntmps50
  go_wp2
  go_ret
  exact ⟨rfl, (Below.refl _ w).alloc (Nat.le_refl _) _⟩
set_option maxHeartbeats 4000000 in
set_option maxRecDepth 100000 in
theorem ids_cIDs (w : World) (F : List Nat) (p : Nat) (T : TS) (h : Tx w F p T) (hl : T.l.length ≤ 1000000) : Calls Try.prog 49 #[.pointer (some ⟨p, 0, none⟩), .func (Fn.func 50) #[] #[]] w fun e w' => ∃ v, e = .returned v ∧ Kd.R k31 31 w' w.heap.size (fun _ => True) v (idsS (fun e : S75 => e.f2) T.l) ∧ Below w.heap.size w w' := by
  obtain ⟨A1, c1, x, A2, c2, A3, c3, mb, FI, h0, h1, h2, h3, h4, h5, ⟨hc, hr⟩, _⟩ := h.read
  generalize T.l = l at *
  have HR := Lib.hid hr
  clear h h1 h2 h3 h4 h5 hr
  go_enter Try.func49, Try.ntmps49
  go_wp2
  go_loopw [5, 13] (fun v5 v13 w' => ∃ i : Nat, v13 = .int .i64 (i : Int) ∧ i ≤ l.length ∧ Aside0 (Kd.R k31 31 w' w.heap.size (fun _ => True) v5 (idsS (fun e : S75 => e.f2) (l.take i)) ∧ Below w.heap.size w w')) (fun _ v13 _ => l.length - (intOf v13).toNat)
  case atStart => exact ⟨0, rfl, by omega, ⟨Kd.R_nil _ _ _ _ _, Below.refl _ _⟩⟩
  case round =>
    obtain ⟨i, rfl, hi, HI⟩ := hrel
    by_cases hlt : i < l.length
    · obtain ⟨ad, eA, e0, e1, e2, e3⟩ := cell_el HR.out HI.out.2 i hlt
      subst eA
      have hta : idsS (fun e : S75 => e.f2) (l.take (i + 1)) = if ((fun e : S75 => e.f2)) l[i] = true then idsS (fun e : S75 => e.f2) (l.take i) ++ [(l[i]).f0] else idsS (fun e : S75 => e.f2) (l.take i) := by rw [show l.take (i + 1) = l.take i ++ [l[i]] from (List.take_append_getElem hlt).symm]; exact idsS_snoc _ _ _
      have hvl := idsS_len (fun e : S75 => e.f2) (l.take i)
      rw [List.length_take] at hvl
      obtain ⟨e, he⟩ : ∃ e, l[i] = e := ⟨_, rfl⟩
      rw [he] at e0 e1 e2 e3 hta
      obtain ⟨vs, hvs⟩ : ∃ vs, idsS (fun e : S75 => e.f2) (l.take i) = vs := ⟨_, rfl⟩
      rw [hvs] at hta hvl
      have HO := Lib.hid (show Kd.R k31 31 wr w.heap.size (fun _ => True) u5 vs from by rw [← hvs]; exact HI.out.1)
      have HB := Lib.hid HI.out.2
      have HT := Lib.hid hta
      have HVL := Lib.hid (show vs.length ≤ 1000000 by omega)
      clear hta he hvs hvl HI
      have K1 := Lib.hid (fun w2 => cIDs_calls e w2)
      unfold elV at K1
      cases hq : e.f2 with
      | true =>
        rw [hq] at e3 K1
        have HQ := Lib.hid hq
        clear hq
        go_wp2_with (first | (go_at_call 50; refine (K1.out _).mono ?_; rintro e' w' ⟨rfl, hb⟩; have HC := Lib.hid (show Below wr.heap.size wr w' from below_step ((Below.refl _ wr).alloc (Nat.le_refl _) _) hb); have d0 : w'.cell? ⟨wr.heap.size, 0, none⟩ = some (.int .i64 e.f0.f0) := (hb.cell (by rw [alloc_sz]; exact Nat.lt_succ_self _)).trans ((cell_of (heap_new wr _) 0).trans rfl); have d1 : w'.cell? ⟨wr.heap.size, 1, none⟩ = some (.int .i64 e.f0.f1) := (hb.cell (by rw [alloc_sz]; exact Nat.lt_succ_self _)).trans ((cell_of (heap_new wr _) 1).trans rfl); clear hb) | ((with_reducible refine gate_builtin (b := .append) (xs := #[.tmp 20, .tmp 23]) rfl ?_); at_builtin; refine Kd.R_append k31 (w0 := w) w.heap.size rfl (.tmp 20) (.tmp 23) 45 31 (.agg #[(.int .i64 0), (.int .i64 0)]) 16 rfl Try.underlying45 info31 rfl (by decide) (by omega) u5 vs e.f0 [.int .i64 e.f0.f0, .int .i64 e.f0.f1] (fun _ => True) (fun _ => False) rfl ?aX ?aP (fun _ hk => hk.elim) ?aF ?aO ?aB ?aS ?aL ?_; (case aX => rfl); (case aP => exact k31_mkM _ _ _ _); (case aF => exact (fun _ _ => trivial)); (case aO => exact Kd.R_below HO.out HC.out); (case aB => exact below_step HB.out HC.out); (case aS => exact below_size (below_step HB.out HC.out)); (case aL => have := HVL.out; omega); intro v7 w7 ho7 hb hg hat; have HO7 := Lib.hid ho7; have HB7 := Lib.hid hb; clear ho7 hb hg hat))
        go_roundw
        case rel => exact ⟨i + 1, by go_num, by omega, ⟨by rw [HT.out, if_pos HQ.out]; exact HO7.out, HB7.out⟩⟩
        case measure => simp [intOf]; omega
      | false =>
        rw [hq] at e3 K1
        have HQ := Lib.hid hq
        clear hq
        go_wp2_with (first | (go_at_call 50; refine (K1.out _).mono ?_; rintro e' w' ⟨rfl, hb⟩; have HC := Lib.hid (show Below wr.heap.size wr w' from below_step ((Below.refl _ wr).alloc (Nat.le_refl _) _) hb); have d0 : w'.cell? ⟨wr.heap.size, 0, none⟩ = some (.int .i64 e.f0.f0) := (hb.cell (by rw [alloc_sz]; exact Nat.lt_succ_self _)).trans ((cell_of (heap_new wr _) 0).trans rfl); have d1 : w'.cell? ⟨wr.heap.size, 1, none⟩ = some (.int .i64 e.f0.f1) := (hb.cell (by rw [alloc_sz]; exact Nat.lt_succ_self _)).trans ((cell_of (heap_new wr _) 1).trans rfl); clear hb))
        go_roundw
        case rel => exact ⟨i + 1, by go_num, by omega, ⟨by rw [HT.out, if_neg (by rw [HQ.out]; decide)]; exact Kd.R_below HO.out HC.out, below_step HB.out HC.out⟩⟩
        case measure => simp [intOf]; omega
    · obtain rfl : i = l.length := by omega
      have HO := Lib.hid (show Kd.R k31 31 wr w.heap.size (fun _ => True) u5 (idsS (fun e : S75 => e.f2) l) from by have := HI.out.1; rw [List.take_length] at this; exact this)
      have HB := Lib.hid HI.out.2
      clear HI
      go_wp2
      go_ret
      exact ⟨_, rfl, HO.out, HB.out⟩
theorem alive_calls_ids (w : World) (F : List Nat) (p : Nat) (T : TS) (h : Tx w F p T) (hl : T.l.length ≤ 1000000) : Calls Try.prog 22 #[.pointer (some ⟨p, 0, none⟩)] w fun e w' => ∃ v, e = .returned v ∧ Kd.R k31 31 w' w.heap.size (fun _ => True) v (idsS (fun e : S75 => e.f2) T.l) ∧ Below w.heap.size w w' := by
  have K1 := Lib.hid (ids_cIDs w F p T h hl)
  clear h
  go_enter Try.func22, Try.ntmps22
  go_wp2_with (go_at_call 49; refine K1.out.mono ?_; rintro e w' ⟨v, rfl, hr, hb⟩; have HO := Lib.hid hr; have HB := Lib.hid hb; clear hr hb)
  go_ret
  exact ⟨_, rfl, HO.out, HB.out⟩
end Go.Proofs.Ytehdjdediobemaa.PC
namespace Go.Proofs.Ytehdjdediobemaa.PC
open Go.RowKit Go.Proofs.YtehdjdediobemaaW.PrintWords Go.Proofs.YtehdjdediobemaaW.PrintLast Go.Proofs.YtehdjdediobemaaW.PrintMore Go.Proofs.Ytehdjdediobemaa.K Go.Proofs.Ytehdjdediobemaa.IX
attribute [local go_sem] max2_int min2_int max_two min_two max_three min_three max_four min_four
attribute [local go_sem high] eqA31
set_option linter.unusedVariables false
set_option linter.unusedSimpArgs false
def aliveS (l : List S75) (x : S31) : Bool := decide (0 ≤ placeS l x) && (rd_T75 l (placeS l x)).f2
theorem alive_calls (w : World) (F : List Nat) (p : Nat) (T : TS) (x : S31) (h : Tx w F p T) (hl : T.l.length ≤ 1000000) : Calls Try.prog 27 #[.pointer (some ⟨p, 0, none⟩), .agg #[.int .i64 x.f0, .int .i64 x.f1]] w fun e w' => e = .returned (.bool (aliveS T.l x)) ∧ Below w.heap.size w w' := by
  obtain ⟨x0, x1⟩ := x
  have hb : Below w.heap.size w (w.alloc (.cells #[.int .i64 x0, .int .i64 x1] 31)) := (Below.refl _ w).alloc (Nat.le_refl _) _
  have K1 := Lib.hid (tplace_calls _ F p T ⟨x0, x1⟩ (h.below hb) hl)
  obtain ⟨A1, c1, _, A2, c2, A3, c3, mb, FI, h0, h1, h2, h3, h4, h5, ⟨hc, hr⟩, _⟩ := h.read
  have hrg := placeS_range T.l ⟨x0, x1⟩
  unfold aliveS
  have HR := Lib.hid hr
  have H0 := Lib.hid h0
  have HP := Lib.hid (World.block_lt_of_cell? w _ h0)
  generalize placeS T.l ⟨x0, x1⟩ = r at *
  generalize T.l = l at *
  have HB := Lib.hid hb
  clear h hb hr h0 h1 h2 h3 h4 h5
  by_cases hq : 0 ≤ r
  · obtain ⟨n, rfl⟩ : ∃ n : Nat, r = n := ⟨r.toNat, by omega⟩
    have hn : n < l.length := by omega
    have hrd : rd_T75 l (n : Int) = l[n] := by unfold rd_T75; simp [hn]
    rw [hrd]
    obtain ⟨b, hbq⟩ : ∃ b, (l[n]).f2 = b := ⟨_, rfl⟩
    have K2 := Lib.hid (fun wr (hb : Below w.heap.size w wr) => cell_el HR.out hb n hn)
    rw [hbq] at K2 ⊢
    have hd : decide ((0 : Int) ≤ (n : Int)) = true := by simp
    rw [hd]
    clear hrd hbq
    go_enter Try.func27, Try.ntmps27
    go_wp2_with (go_at_call 43; refine K1.out.mono ?_; rintro e w' ⟨rfl, hb⟩; have hb2 := below_step HB.out hb; have HB2 := Lib.hid hb2; obtain ⟨ad, eA, e0, e1, e2, e3⟩ := K2.out w' hb2; subst eA; have hp0 := (hb2.cell HP.out).trans H0.out; clear hb hb2)
    go_ret
    exact ⟨rfl, HB2.out⟩
  · have hd : decide ((0 : Int) ≤ r) = false := by simpa using hq
    have hq2 : r < 0 := by omega
    rw [hd]
    clear hq
    go_enter Try.func27, Try.ntmps27
    go_wp2_with (go_at_call 43; refine K1.out.mono ?_; rintro e w' ⟨rfl, hb⟩; have hb2 := below_step HB.out hb; have HB2 := Lib.hid hb2; have hp0 := (hb2.cell HP.out).trans H0.out; clear hb hb2)
    go_ret
    exact ⟨rfl, HB2.out⟩
end Go.Proofs.Ytehdjdediobemaa.PC
namespace Go.Proofs.Ytehdjdediobemaa.PC
open Go.RowKit Go.Proofs.YtehdjdediobemaaW.PrintWords Go.Proofs.YtehdjdediobemaaW.PrintLast Go.Proofs.YtehdjdediobemaaW.PrintMore Go.Proofs.Ytehdjdediobemaa.K Go.Proofs.Ytehdjdediobemaa.IX
attribute [local go_sem] max2_int min2_int max_two min_two max_three min_three max_four min_four
attribute [local go_sem high] eqA31
set_option linter.unusedVariables false
set_option linter.unusedSimpArgs false
def aheadS (l : List S75) (x : S31) : Int := rankS (l.map (·.f2)) (placeS l x)
set_option maxHeartbeats 4000000 in
set_option maxRecDepth 100000 in
theorem ahead_calls (w : World) (F : List Nat) (p : Nat) (T : TS) (x : S31) (h : Tx w F p T) (hl : T.l.length ≤ 500000) : Calls Try.prog 32 #[.pointer (some ⟨p, 0, none⟩), .agg #[.int .i64 x.f0, .int .i64 x.f1]] w fun e w' => e = .returned (.int .i64 (aheadS T.l x)) ∧ Below w.heap.size w w' := by
  obtain ⟨x0, x1⟩ := x
  obtain ⟨W1, hW1⟩ : ∃ W1, (w.alloc (.cells #[.int .i64 x0, .int .i64 x1] 31)).drew = W1 := ⟨_, rfl⟩
  have hb : Below w.heap.size w W1 := by rw [← hW1]; exact ((Below.refl _ w).alloc (Nat.le_refl _) _).drew
  have hnew : W1.heap[w.heap.size]? = some (.cells #[.int .i64 x0, .int .i64 x1] 31 (0, 0)) := by rw [← hW1]; exact heap_new w _
  have K1 := Lib.hid (tplace_calls W1 F p T ⟨x0, x1⟩ (h.below hb) (by omega))
  obtain ⟨A1, c1, xi, A2, c2, A3, c3, mb, FI, h0, h1, h2, h3, h4, h5, _, hx, _⟩ := h.read
  unfold aheadS
  have HX := Lib.hid (fun W (hb : Below w.heap.size w W) a => rank_calls W FI xi _ a (hx.below hb) (by rw [List.length_map]; omega))
  generalize placeS T.l ⟨x0, x1⟩ = r at *
  obtain ⟨rr, hrr⟩ : ∃ rr, rankS (T.l.map (·.f2)) r = rr := ⟨_, rfl⟩
  have HX2 := Lib.hid (fun W (hb : Below w.heap.size w W) => (hrr ▸ HX.out W hb r : Calls Try.prog 54 #[.pointer (some ⟨xi, 0, none⟩), .int .i64 r] W fun e w' => e = .returned (.int .i64 rr) ∧ ∃ n, w' = W.drewN n))
  rw [hrr]
  have HB := Lib.hid hb
  have HS : Aside0 (∀ W, Below W1.heap.size W1 W → W.cell? ⟨p, 1, none⟩ = some (.pointer (some ⟨xi, 0, none⟩)) ∧ W.cell? ⟨w.heap.size, 0, none⟩ = some (.int .i64 x0) ∧ W.cell? ⟨w.heap.size, 1, none⟩ = some (.int .i64 x1)) :=
    ⟨fun W hb2 => ⟨((below_step hb hb2).cell (World.block_lt_of_cell? w _ h1)).trans h1, (hb2.cell (lt_of hnew)).trans ((cell_of hnew 0).trans rfl), (hb2.cell (lt_of hnew)).trans ((cell_of hnew 1).trans rfl)⟩⟩
  have HB0 := Lib.hid (Below.refl W1.heap.size W1)
  have HW1 := Lib.hid hW1
  clear h hb hnew hx hrr h0 h1 h2 h3 h4 h5 hW1
  go_enter Try.func32, Try.ntmps32
  go_wp2
  go_region_held3 (fun W => W.cell? ⟨p, 1, none⟩ = some (.pointer (some ⟨xi, 0, none⟩)) ∧ W.cell? ⟨w.heap.size, 0, none⟩ = some (.int .i64 x0) ∧ W.cell? ⟨w.heap.size, 1, none⟩ = some (.int .i64 x1)) ((first | (rw [HW1.out]; exact HS.out _ HB0.out) | exact HS.out _ HB0.out | exact HS.out _ HB2.out | exact HS.out _ HB3.out)) (first
    | (go_at_call 43; rw [HW1.out]; refine K1.out.mono ?_; rintro e w' ⟨rfl, hb⟩; have HB2 := Lib.hid hb; clear hb)
    | (go_at_call 54; refine (HX2.out _ (below_step HB.out HB2.out)).mono ?_; rintro e w6 ⟨rfl, n6, hw6⟩; have HB3 := Lib.hid (show Below W1.heap.size W1 w6 from by rw [hw6]; exact pw_below_drewN HB2.out n6); clear hw6))
  go_wp2
  go_ret
  exact ⟨rfl, below_step HB.out HB3.out⟩
end Go.Proofs.Ytehdjdediobemaa.PC
namespace Go.Proofs.Ytehdjdediobemaa.PC
open Go.RowKit Go.Proofs.YtehdjdediobemaaW.PrintWords Go.Proofs.YtehdjdediobemaaW.PrintLast Go.Proofs.YtehdjdediobemaaW.PrintMore Go.Proofs.Ytehdjdediobemaa.K Go.Proofs.Ytehdjdediobemaa.IX
attribute [local go_sem] max2_int min2_int max_two min_two max_three min_three max_four min_four
attribute [local go_sem high] eqA31
set_option linter.unusedVariables false
set_option linter.unusedSimpArgs false
def atS (l : List S75) (k : Int) : S31 × Bool := if (selS (l.map (·.f2)) k).2 = true then ((rd_T75 l (selS (l.map (·.f2)) k).1).f0, true) else (z31, false)
set_option maxHeartbeats 4000000 in
set_option maxRecDepth 100000 in
theorem at_calls (w : World) (F : List Nat) (p : Nat) (T : TS) (k : Int) (h : Tx w F p T) (hl : T.l.length ≤ 500000) : Calls Try.prog 31 #[.pointer (some ⟨p, 0, none⟩), .int .i64 k] w fun e w' => e = .returned (.tuple #[.agg #[.int .i64 (atS T.l k).1.f0, .int .i64 (atS T.l k).1.f1], .bool (atS T.l k).2]) ∧ Below w.heap.size w w' := by
  obtain ⟨A1, c1, xi, A2, c2, A3, c3, mb, FI, h0, h1, h2, h3, h4, h5, ⟨hc, hr⟩, hx, _⟩ := h.read
  have hb : Below w.heap.size w (w.alloc (.cells #[.int .i64 0, .int .i64 0] 31)) := (Below.refl _ w).alloc (Nat.le_refl _) _
  obtain ⟨i, b, hib⟩ : ∃ i b, selS (T.l.map (·.f2)) k = (i, b) := ⟨_, _, rfl⟩
  have K1 := select_calls (w.alloc (.cells #[.int .i64 0, .int .i64 0] 31)) FI xi _ k (hx.below hb) (by rw [List.length_map]; omega)
  have hat : atS T.l k = if b = true then ((rd_T75 T.l i).f0, true) else (z31, false) := by unfold atS; rw [hib]
  have hir : b = true → 0 ≤ i ∧ i < T.l.length := by
    intro hb2
    subst hb2
    unfold selS at hib
    split at hib
    · rename_i hk
      by_cases hkc : k.toNat < cn (T.l.map (·.f2))
      · obtain ⟨j, hj, hjl, _⟩ := sel_some _ _ hkc
        rw [hj] at hib
        rw [List.length_map] at hjl
        injection hib with hib _
        omega
      · rw [sel_none _ _ (by omega)] at hib
        injection hib with _ hib
        cases hib
    · injection hib with _ hib
      cases hib
  rw [hib] at K1
  rw [hat]
  have HK := Lib.hid K1
  have HB := Lib.hid hb
  have HR := Lib.hid hr
  have HP := Lib.hid (World.block_lt_of_cell? w _ h0)
  have H0 := Lib.hid h0
  have H1 := Lib.hid ((hb.cell (World.block_lt_of_cell? w _ h1)).trans h1)
  have q1 := H1.out
  generalize T.l = l at *
  clear h hb hr h0 h1 h2 h3 h4 h5 hx hat hib K1
  cases b with
  | true =>
    obtain ⟨hi0, hi1⟩ := hir rfl
    obtain ⟨n, rfl⟩ : ∃ n : Nat, i = n := ⟨i.toNat, by omega⟩
    have hn : n < l.length := by omega
    have hrd : rd_T75 l (n : Int) = l[n] := by unfold rd_T75; simp [hn]
    rw [if_pos rfl, hrd]
    have K2 := Lib.hid (fun wr (hb : Below w.heap.size w wr) => cell_el HR.out hb n hn)
    obtain ⟨e, he⟩ : ∃ e, l[n] = e := ⟨_, rfl⟩
    rw [he] at K2 ⊢
    clear hrd he hir hi0 hi1
    go_enter Try.func31, Try.ntmps31
    go_wp2_with (go_at_call 53; refine HK.out.mono ?_; rintro e9 w' ⟨rfl, n9, hw⟩; have hb9 : Below (w.alloc (.cells #[.int .i64 0, .int .i64 0] 31)).heap.size (w.alloc (.cells #[.int .i64 0, .int .i64 0] 31)) w' := (by rw [hw]; exact pw_below_drewN (Below.refl _ _) n9); have hb2 := below_step HB.out hb9; have HB2 := Lib.hid hb2; have hnb : w'.heap[w.heap.size]? = some (.cells #[.int .i64 0, .int .i64 0] 31 (0, 0)) := (by rw [hw]; exact heap_new w _); have HNB := Lib.hid hnb; have fz := free_of hnb; have v0 : w'.cell? ⟨w.heap.size, 0, none⟩ = some (.int .i64 0) := (cell_of hnb 0).trans rfl; have v1 : w'.cell? ⟨w.heap.size, 1, none⟩ = some (.int .i64 0) := (cell_of hnb 1).trans rfl; obtain ⟨ad, eA, e0, e1, e2, e3⟩ := K2.out w' hb2; subst eA; have hp0 := (hb2.cell HP.out).trans H0.out; clear hb2 hb9 hw hnb)
    refine bodyPost_ret (results_ct rfl _ _ w.heap.size 31 #[.int .i64 e.f0.f0, .int .i64 e.f0.f1] (0, 0) _ rfl ((heap_set _ w.heap.size 1 _ (heap_set w' w.heap.size 0 _ HNB.out)).trans rfl) Try.underlying31 rfl (by kernel_rfl)) rfl ⟨rfl, ?_⟩
    exact ((Fr.of_set (F := [w.heap.size]) w' ⟨w.heap.size, 0, none⟩ _ (by simp)).trans (Fr.of_set (F := [w.heap.size]) _ ⟨w.heap.size, 1, none⟩ _ (by simp)) (fun _ h => .inl h)).below HB2.out (by simp)
  | false =>
    rw [if_neg (by decide)]
    go_enter Try.func31, Try.ntmps31
    go_wp2_with (go_at_call 53; refine HK.out.mono ?_; rintro e9 w' ⟨rfl, n9, hw⟩; have hb9 : Below (w.alloc (.cells #[.int .i64 0, .int .i64 0] 31)).heap.size (w.alloc (.cells #[.int .i64 0, .int .i64 0] 31)) w' := (by rw [hw]; exact pw_below_drewN (Below.refl _ _) n9); have hb2 := below_step HB.out hb9; have HB2 := Lib.hid hb2; have hnb : w'.heap[w.heap.size]? = some (.cells #[.int .i64 0, .int .i64 0] 31 (0, 0)) := (by rw [hw]; exact heap_new w _); have HNB := Lib.hid hnb; have fz := free_of hnb; have v0 : w'.cell? ⟨w.heap.size, 0, none⟩ = some (.int .i64 0) := (cell_of hnb 0).trans rfl; have v1 : w'.cell? ⟨w.heap.size, 1, none⟩ = some (.int .i64 0) := (cell_of hnb 1).trans rfl; clear hb2 hb9 hw hnb)
    refine bodyPost_ret (results_ct rfl _ _ w.heap.size 31 #[.int .i64 0, .int .i64 0] (0, 0) _ rfl ((heap_set _ w.heap.size 1 _ (heap_set w' w.heap.size 0 _ HNB.out)).trans rfl) Try.underlying31 rfl (by kernel_rfl)) rfl ⟨rfl, ?_⟩
    exact ((Fr.of_set (F := [w.heap.size]) w' ⟨w.heap.size, 0, none⟩ _ (by simp)).trans (Fr.of_set (F := [w.heap.size]) _ ⟨w.heap.size, 1, none⟩ _ (by simp)) (fun _ h => .inl h)).below HB2.out (by simp)
end Go.Proofs.Ytehdjdediobemaa.PC
namespace Go.Proofs.Ytehdjdediobemaa.PC
open Go.RowKit Go.Proofs.YtehdjdediobemaaW.PrintWords Go.Proofs.YtehdjdediobemaaW.PrintLast Go.Proofs.YtehdjdediobemaaW.PrintMore Go.Proofs.Ytehdjdediobemaa.K Go.Proofs.Ytehdjdediobemaa.IX Go.Proofs.Ytehdjdediobemaa.I
attribute [local go_sem] max2_int min2_int max_two min_two max_three min_three max_four min_four
attribute [local go_sem high] eqA31
set_option linter.unusedVariables false
set_option linter.unusedSimpArgs false
theorem cell_op {w wr : World} {A : Option Addr} {l : List S34} (h : Kd.C k34 w A l.length l) (hb : Below w.heap.size w wr) (i : Nat) (hi : i < l.length) : ∃ ad, A = some ad ∧ wr.cell? (ad.add (i * 7)) = some (.int .i64 l[i].f0.f0) ∧ wr.cell? ⟨(ad.add (i * 7)).block, (ad.add (i * 7)).off + 1, none⟩ = some (.int .i64 l[i].f0.f1) ∧
    wr.cell? ⟨(ad.add (i * 7)).block, (ad.add (i * 7)).off + 2, none⟩ = some (.int .i64 l[i].f1) ∧ wr.cell? ⟨(ad.add (i * 7)).block, (ad.add (i * 7)).off + 3, none⟩ = some (.bool l[i].f2) ∧
    wr.cell? ⟨(ad.add (i * 7)).block, (ad.add (i * 7)).off + 4, none⟩ = some (.int .i64 l[i].f3.f0) ∧ wr.cell? ⟨(ad.add (i * 7)).block, (ad.add (i * 7)).off + 5, none⟩ = some (.int .i64 l[i].f3.f1) ∧ wr.cell? ⟨(ad.add (i * 7)).block, (ad.add (i * 7)).off + 6, none⟩ = some (.int .i32 l[i].f4) := by
  obtain ⟨ad, eA, c0, c1, c2, c3, c4, c5, c6⟩ := at_T34 h (i : Int) (by omega) (by omega)
  have hrd : rd_T34 l (i : Int) = l[i] := by unfold rd_T34; simp [hi]
  simp only [Int.toNat_natCast] at c0 c1 c2 c3 c4 c5 c6
  rw [hrd] at c0 c1 c2 c3 c4 c5 c6
  have go : ∀ {x : Addr} {v : Value}, w.cell? x = some v → wr.cell? x = some v := fun c => (hb.cell (World.block_lt_of_cell? w _ c)).trans c
  exact ⟨ad, eA, go c0, go c1, go c2, go c3, go c4, go c5, go c6⟩
end Go.Proofs.Ytehdjdediobemaa.PC
namespace Go.Proofs.Ytehdjdediobemaa.PC
open Go.RowKit Go.Proofs.YtehdjdediobemaaW.PrintWords Go.Proofs.YtehdjdediobemaaW.PrintLast Go.Proofs.YtehdjdediobemaaW.PrintMore Go.Proofs.Ytehdjdediobemaa.K Go.Proofs.Ytehdjdediobemaa.IX Go.Proofs.Ytehdjdediobemaa.I
set_option linter.unusedVariables false
set_option linter.unusedSimpArgs false
def isBlk (b : Nat) (o : Obj) : As := fun w F => w.heap[b]? = some o ∧ F = [b]
theorem asn_blk (b : Nat) (o : Obj) : Asn (isBlk b o) := ⟨fun h hk => ⟨(hk b (by rw [h.2]; simp)).trans h.1, h.2⟩, fun h k hk => by rw [h.2, List.mem_singleton] at hk; rw [hk]; exact lt_of h.1⟩
theorem ids_st {w0 w : World} {p : Nat} {T : TS} {B : As} (b : Asn B) (h : St w0 w (sep (isTx p T) B)) (hl : T.l.length ≤ 100000) : Calls Try.prog 22 #[.pointer (some ⟨p, 0, none⟩)] w fun e w' => ∃ A c, e = .returned (.slice A (idsS (fun e : S75 => e.f2) T.l).length c) ∧ St w0 w' (sep (isRow k31 31 (.slice A (idsS (fun e : S75 => e.f2) T.l).length c) (idsS (fun e : S75 => e.f2) T.l)) (sep (isTx p T) B)) := by
  obtain ⟨F, ⟨FA, FB, h1, h2, rfl, hd⟩, hb, hn⟩ := id h
  refine (alive_calls_ids w FA p T h1 (by omega)).mono ?_
  rintro e w' ⟨v, rfl, hr, hb2⟩
  obtain ⟨A, c, rfl⟩ := Kd.R_slice hr
  exact ⟨A, c, rfl, St.row rfl h (asn_sep (asn_tx p T) b) hb2 hr⟩
theorem alive_st {w0 w : World} {p : Nat} {T : TS} {B : As} (b : Asn B) (h : St w0 w (sep (isTx p T) B)) (hl : T.l.length ≤ 100000) (x : S31) : Calls Try.prog 27 #[.pointer (some ⟨p, 0, none⟩), .agg #[.int .i64 x.f0, .int .i64 x.f1]] w fun e w' => e = .returned (.bool (aliveS T.l x)) ∧ St w0 w' (sep (isTx p T) B) := by
  obtain ⟨F, ⟨FA, FB, h1, h2, rfl, hd⟩, hb, hn⟩ := id h
  exact (alive_calls w FA p T x h1 (by omega)).mono fun e w' ⟨he, hb2⟩ => ⟨he, h.below (asn_sep (asn_tx p T) b) hb2⟩
theorem ahead_st {w0 w : World} {p : Nat} {T : TS} {B : As} (b : Asn B) (h : St w0 w (sep (isTx p T) B)) (hl : T.l.length ≤ 100000) (x : S31) : Calls Try.prog 32 #[.pointer (some ⟨p, 0, none⟩), .agg #[.int .i64 x.f0, .int .i64 x.f1]] w fun e w' => e = .returned (.int .i64 (aheadS T.l x)) ∧ St w0 w' (sep (isTx p T) B) := by
  obtain ⟨F, ⟨FA, FB, h1, h2, rfl, hd⟩, hb, hn⟩ := id h
  exact (ahead_calls w FA p T x h1 (by omega)).mono fun e w' ⟨he, hb2⟩ => ⟨he, h.below (asn_sep (asn_tx p T) b) hb2⟩
theorem at_st {w0 w : World} {p : Nat} {T : TS} {B : As} (b : Asn B) (h : St w0 w (sep (isTx p T) B)) (hl : T.l.length ≤ 100000) (k : Int) : Calls Try.prog 31 #[.pointer (some ⟨p, 0, none⟩), .int .i64 k] w fun e w' => e = .returned (.tuple #[.agg #[.int .i64 (atS T.l k).1.f0, .int .i64 (atS T.l k).1.f1], .bool (atS T.l k).2]) ∧ St w0 w' (sep (isTx p T) B) := by
  obtain ⟨F, ⟨FA, FB, h1, h2, rfl, hd⟩, hb, hn⟩ := id h
  exact (at_calls w FA p T k h1 (by omega)).mono fun e w' ⟨he, hb2⟩ => ⟨he, h.below (asn_sep (asn_tx p T) b) hb2⟩
end Go.Proofs.Ytehdjdediobemaa.PC
namespace Go.Proofs.Ytehdjdediobemaa.PC
open Go.RowKit Go.Proofs.YtehdjdediobemaaW.PrintWords Go.Proofs.Ytehdjdediobemaa.K Go.Proofs.Ytehdjdediobemaa.IX Go.Proofs.Ytehdjdediobemaa.I
set_option linter.unusedVariables false
set_option linter.unusedSimpArgs false
def aliveIds (l : List S75) : List S31 := idsS (fun e : S75 => e.f2) l
theorem filter_cn (l : List S75) : (l.filter (fun e : S75 => e.f2)).length = cn (l.map (·.f2)) := by
  induction l with
  | nil => rfl
  | cons e l ih =>
    rw [List.filter_cons, List.map_cons, cn_cons]
    cases h : e.f2 <;> simp [h, ih] <;> omega
theorem ids_cn (l : List S75) : (aliveIds l).length = cn (l.map (·.f2)) := by
  unfold aliveIds idsS
  rw [List.length_map, filter_cn]
theorem vis_cn (l : List S75) : (visS l).length = cn (l.map (·.f2)) := by
  unfold visS
  rw [List.length_map]
  exact filter_cn l
theorem place_nth (l : List S75) (hn : (l.map (·.f0)).Nodup) (i : Nat) (h : i < l.length) : placeS l l[i].f0 = i := by
  have e : l = l.take i ++ l[i] :: l.drop (i + 1) := by rw [← List.drop_eq_getElem_cons h, List.take_append_drop]
  have key : ∀ x, x = l[i] → placeS l x.f0 = i := by
    intro x hx
    rw [e, ← hx, placeS_at _ _ x x.f0 ?_ (idq_self _), List.length_take]
    · omega
    · intro y hy
      rw [idq_no]
      intro he
      rw [e, List.map_append, List.map_cons, List.nodup_append] at hn
      exact hn.2.2 _ (List.mem_map.2 ⟨y, hy, rfl⟩) _ List.mem_cons_self (by rw [he, hx])
  exact key _ rfl
theorem sel_nth (l : List S75) (p : Nat) (h : p < cn (l.map (·.f2))) : ∃ i, ∃ hi : i < l.length, sel (l.map (·.f2)) p = some i ∧ l[i].f2 = true ∧ cn ((l.map (·.f2)).take i) = p ∧ (aliveIds l)[p]? = some l[i].f0 := by
  obtain ⟨i, h1, h2, h3, h4⟩ := sel_some _ _ h
  rw [List.length_map] at h2
  have h3 : l[i].f2 = true := by
    rw [List.getElem?_map, List.getElem?_eq_getElem h2] at h3
    simpa using h3
  refine ⟨i, h2, h1, h3, h4, ?_⟩
  have e : l = l.take i ++ l[i] :: l.drop (i + 1) := by rw [← List.drop_eq_getElem_cons h2, List.take_append_drop]
  have hp : ((l.take i).filter (fun e : S75 => e.f2)).length = p := by rw [filter_cn, List.map_take]; exact h4
  have e2 : aliveIds l = ((l.take i).filter (fun e : S75 => e.f2)).map (·.f0) ++ l[i].f0 :: ((l.drop (i + 1)).filter (fun e : S75 => e.f2)).map (·.f0) := by
    unfold aliveIds idsS
    conv => lhs; rw [e]
    rw [List.filter_append, List.filter_cons, if_pos h3, List.map_append, List.map_cons]
  rw [e2, List.getElem?_append_right (by rw [List.length_map, hp]; exact Nat.le_refl _), List.length_map, hp, Nat.sub_self]
  rfl
/-- At, Ahead and Alive of the element at a place. -/
theorem places (l : List S75) (hn : (l.map (·.f0)).Nodup) (p : Nat) (h : p < (aliveIds l).length) : atS l (p : Int) = ((aliveIds l)[p], true) ∧ aheadS l (aliveIds l)[p] = p ∧ aliveS l (aliveIds l)[p] = true := by
  obtain ⟨i, hi, h1, h2, h3, h4⟩ := sel_nth l p (by rw [← ids_cn]; exact h)
  have h4 : (aliveIds l)[p] = l[i].f0 := by
    rw [List.getElem?_eq_getElem h] at h4
    injection h4
  have hrd : rd_T75 l (i : Int) = l[i] := by unfold rd_T75; simp [hi]
  have hs : selS (l.map (·.f2)) (p : Int) = ((i : Int), true) := by
    unfold selS
    rw [if_pos (by omega), Int.toNat_natCast, h1]
  refine ⟨?_, ?_, ?_⟩
  · unfold atS
    rw [hs, if_pos rfl, h4, hrd]
  · unfold aheadS
    rw [h4, place_nth l hn i hi]
    unfold rankS
    rw [Int.toNat_natCast, h3]
  · unfold aliveS
    rw [h4, place_nth l hn i hi, hrd, h2]
    simp
theorem at_over (l : List S75) : (atS l (cn (l.map (·.f2)) : Int)).2 = false := by
  unfold atS
  have hs : selS (l.map (·.f2)) (cn (l.map (·.f2)) : Int) = (0, false) := by
    unfold selS
    rw [if_pos (by omega), Int.toNat_natCast, sel_none _ _ (Nat.le_refl _)]
  rw [hs]
  rfl
theorem at_under (l : List S75) : (atS l (-1)).2 = false := by
  unfold atS selS
  rfl
end Go.Proofs.Ytehdjdediobemaa.PC
namespace Go.Proofs.Ytehdjdediobemaa.PC
open Go.RowKit Go.Proofs.YtehdjdediobemaaW.PrintWords Go.Proofs.YtehdjdediobemaaW.PrintLast Go.Proofs.YtehdjdediobemaaW.PrintMore Go.Proofs.Ytehdjdediobemaa.K Go.Proofs.Ytehdjdediobemaa.IX Go.Proofs.Ytehdjdediobemaa.I
attribute [local go_sem] max2_int min2_int max_two min_two max_three min_three max_four min_four
attribute [local go_sem high] eqA31
set_option linter.unusedVariables false
set_option linter.unusedSimpArgs false
theorem cell_id {w wr : World} {A : Option Addr} {l : List S31} (h : Kd.C k31 w A l.length l) (hb : Below w.heap.size w wr) (i : Nat) (hi : i < l.length) : ∃ ad, A = some ad ∧ wr.cell? (ad.add (i * 2)) = some (.int .i64 l[i].f0) ∧ wr.cell? ⟨(ad.add (i * 2)).block, (ad.add (i * 2)).off + 1, none⟩ = some (.int .i64 l[i].f1) := by
  obtain ⟨ad, eA, c0, c1⟩ := at_T31 h (i : Int) (by omega) (by omega)
  have hrd : rd_T31 l (i : Int) = l[i] := by unfold rd_T31; simp [hi]
  simp only [Int.toNat_natCast] at c0 c1
  rw [hrd] at c0 c1
  have go : ∀ {x : Addr} {v : Value}, w.cell? x = some v → wr.cell? x = some v := fun c => (hb.cell (World.block_lt_of_cell? w _ c)).trans c
  exact ⟨ad, eA, go c0, go c1⟩
theorem St.blk {w0 w : World} {b : Nat} {o : Obj} {B : As} (h : St w0 w (sep (isBlk b o) B)) : w.heap[b]? = some o := by
  obtain ⟨F, ⟨FA, FB, h1, h2, _⟩, _⟩ := h
  exact h1.1
/-- A block made anew. -/
theorem St.mkblk {w0 w : World} {A : As} (h : St w0 w A) (a : Asn A) (o : Obj) : St w0 (w.alloc o) (sep (isBlk w.heap.size o) A) :=
  h.add a ((Below.refl _ w).alloc (Nat.le_refl _) _) ⟨heap_new w o, rfl⟩ (fun k hk => by rw [List.mem_singleton.1 hk]; exact Nat.le_refl _)
/-- The state of the loop that puts. -/
def PutS (w wr : World) (p i : Nat) : Prop := ∃ T F, Inv T F ∧ T.ops.length ≤ i ∧ St w wr (sep (isTx p T) emp)
set_option maxHeartbeats 4000000 in
set_option maxRecDepth 100000 in
theorem places_row (A : Option Addr) (cap : Nat) (l : List S34) (w : World) (hr : Kd.C k34 w A l.length l) (hc : l.length ≤ cap) (hy : l.length * 56 ≤ 140737488351232) (hg : ∀ y ∈ l, True) :
    Calls Try.prog 9 #[.slice A l.length cap] w fun e w' => e = .returned (.bool true) ∧ Below w.heap.size w w' := by
  have HRD := Lib.hid hr
  obtain ⟨len, hlen⟩ : ∃ len, l.length = len := ⟨_, rfl⟩
  have HLEN := Lib.hid hlen
  rw [hlen] at hc hy
  obtain ⟨N, hN⟩ : ∃ N, min len 30 = N := ⟨_, rfl⟩
  have hN1 : N ≤ len := by omega
  have hN2 : N ≤ 30 := by omega
  have HN3 := Lib.hid (show len ≤ N ∨ N = 30 by omega)
  have hl2 : len ≤ 140737488351232 := by omega
  have HSH := Lib.hid (shown14_calls w)
  rw [hlen]
  clear hr hg hy hN hlen
  go_enter Try.func9, Try.ntmps9
  go_wp2_with (first
    | (go_at_call 11; refine HSH.out.mono ?_; rintro e w1 ⟨rfl, hb⟩; have HS := Lib.hid ((St.emp w).below asn_emp hb); clear hb)
    | (go_at_call 12; refine (new_st asn_emp HS.out).mono ?_; rintro e w2 ⟨p, rfl, hS⟩; have HS := Lib.hid (show PutS w w2 p 0 from ⟨T0, _, inv0, Nat.le_refl _, hS⟩); clear hS))
  go_loopg [5] N (fun kq v5 wr => ∃ (i : Nat), v5 = .int .i64 (i : Int) ∧ Aside0 (kq + i = N ∧ PutS w wr p i))
  case atStart => exact ⟨0, rfl, by omega, HS.out⟩
  case round =>
    obtain ⟨i, rfl, HI⟩ := hrel
    have hki := HI.out.1
    obtain ⟨T, Fo', hI, hol, hS⟩ := HI.out.2
    by_cases hlt : i < N
    · have hil : i < l.length := by rw [HLEN.out]; omega
      obtain ⟨ad, rfl, c0, c1, c2, c3, c4, c5, c6⟩ := cell_op HRD.out hS.bel i hil
      generalize l[i] = o at c0 c1 c2 c3 c4 c5 c6
      have hd1 : decide (i < len) = true := by simp; omega
      have hd2 : decide ((i : Int) < 30) = true := by simp; omega
      have K1 := Lib.hid (put_st asn_emp hS hI (by omega) o)
      have HI2 := Lib.hid (inv_put hI o)
      have HL2 := Lib.hid (putT_len T o)
      generalize putT T o = r at K1 HI2 HL2
      unfold opV at K1
      obtain ⟨⟨o0, o1⟩, o2, o3, ⟨o4, o5⟩, o6⟩ := o
      simp only at c0 c1 c2 c3 c4 c5 c6
      clear hI hS
      go_wp2_with (go_at_call 14; refine K1.out.mono ?_; rintro e w3 ⟨rfl, hS3⟩; have HS3 := Lib.hid hS3; clear hS3)
      go_roundg (N - (i + 1))
      case measure => omega
      case rel =>
        obtain ⟨F2, h2⟩ := HI2.out
        exact ⟨i + 1, by go_num, by omega, r.2, F2, h2, by have := HL2.out; omega, HS3.out⟩
    · obtain rfl : i = N := by omega
      have hlids := hI.ll
      have hvl := vis_cn T.l
      have hil := ids_cn T.l
      unfold aliveIds at hil
      obtain ⟨m, hm⟩ : ∃ m, cn (T.l.map (·.f2)) = m := ⟨_, rfl⟩
      rw [hm] at hvl hil
      have AI := Lib.hid (fun A c => asn_sep (asn_row k31 31 (.slice A m c) (idsS (fun e : S75 => e.f2) T.l)) asn_emp)
      have K5 := Lib.hid (fun W (h : St w W (sep (isTx p T) emp)) => ids_st asn_emp h (by omega))
      have K6 := Lib.hid (fun W B (h : St w W (sep (isTx p T) B)) => len_st h)
      have K7 := Lib.hid (fun W B (b : Asn B) (h : St w W (sep (isTx p T) B)) => vis_st b h (by omega))
      rw [hil] at K5
      rw [hm] at K6
      rw [hvl] at K7
      have HPL := Lib.hid (show ∀ j : Nat, j < m → ∃ x : S31, (∃ hj : j < (aliveIds T.l).length, (aliveIds T.l)[j] = x) ∧ atS T.l (j : Int) = (x, true) ∧ aheadS T.l x = j ∧ aliveS T.l x = true from fun j hj => by
        have hj2 : j < (aliveIds T.l).length := by rw [ids_cn, hm]; exact hj
        obtain ⟨p1, p2, p3⟩ := places T.l (by rw [hI.lids]; exact hI.nodup) j hj2
        exact ⟨_, ⟨hj2, rfl⟩, p1, p2, p3⟩)
      have HOV := Lib.hid (show (atS T.l (m : Int)).2 = false by rw [← hm]; exact at_over T.l)
      have HUN := Lib.hid (at_under T.l)
      have hm2 : m ≤ 1000 := by have := cn_le (T.l.map (·.f2)); rw [List.length_map] at this; omega
      have HS0 := Lib.hid hS
      have HLL := Lib.hid (show T.l.length ≤ 100000 by omega)
      have HIL := Lib.hid hil
      clear hI hS hol hlids hvl hil hm HI
      have hex : (decide (i < len) = true ∧ decide ((i : Int) < 30) = false) ∨ decide (i < len) = false := by
        by_cases h3 : i < len
        · rcases HN3.out with k | k
          · omega
          · exact .inl ⟨by simpa using h3, by simp; omega⟩
        · exact .inr (by simpa using h3)
      have HID := Lib.hid (show aliveIds T.l = idsS (fun e : S75 => e.f2) T.l from rfl)
      generalize idsS (fun e : S75 => e.f2) T.l = ids at *
      rcases hex with ⟨hd1, hd2⟩ | hd1
      all_goals
        go_wp2_with (first
          | (go_at_call 22; with_reducible refine (K5.out _ HS0.out).mono ?_; rintro e w4 ⟨A4, c4, rfl, hS⟩; have HS := Lib.hid hS.turn; clear hS)
          | (go_at_call 30; with_reducible refine (K6.out _ _ HS.out).mono ?_; rintro e w5 ⟨rfl, rfl⟩)
          | (go_at_call 17; with_reducible refine (K7.out _ _ (AI.out _ _) HS.out).mono ?_; rintro e w6 ⟨A6, c6, rfl, hS⟩; have HS := Lib.hid hS.snd; clear hS))
        go_loopg [7] m (fun kq v7 wr => ∃ (j : Nat), v7 = .int .i64 (j : Int) ∧ Aside0 (kq + j = m ∧ St w wr (sep (isTx p T) (sep (isRow k31 31 (.slice A4 m c4) ids) emp))))
        case atStart => exact ⟨0, rfl, by omega, HS.out⟩
        case round =>
          obtain ⟨j, rfl, HJ⟩ := hrel
          have hkj := HJ.out.1
          have HSJ := Lib.hid HJ.out.2
          have AX := Lib.hid (asn_sep (asn_tx p T) (AI.out A4 c4))
          by_cases hjm : j < m
          · have hd5 : decide (j < m) = true := by simpa using hjm
            obtain ⟨x, ⟨hj, hx⟩, q1, q2, q3⟩ := HPL.out j hjm
            have K8 := Lib.hid (fun W (h : St w W (sep (isTx p T) (sep (isRow k31 31 (.slice A4 m c4) ids) emp))) => at_st (AI.out A4 c4) h HLL.out (j : Int))
            have K9 := Lib.hid (fun W B (b : Asn B) (h : St w W (sep (isTx p T) B)) => ahead_st b h HLL.out x)
            have K10 := Lib.hid (fun W B (b : Asn B) (h : St w W (sep (isTx p T) B)) => alive_st b h HLL.out x)
            rw [q1] at K8
            rw [q2] at K9
            rw [q3] at K10
            have HCI := Lib.hid (fun W B (h : St w W (sep B (sep (isRow k31 31 (.slice A4 m c4) ids) emp))) => show ∃ ad, A4 = some ad ∧ W.cell? (ad.add (j * 2)) = some (.int .i64 x.f0) ∧ W.cell? ⟨(ad.add (j * 2)).block, (ad.add (j * 2)).off + 1, none⟩ = some (.int .i64 x.f1) from by
              obtain ⟨y1, y2, ey, y3, y4⟩ := h.snd.reads
              injection ey with ey1 ey2 ey3
              subst ey1
              have hj2 : j < ids.length := by omega
              obtain ⟨ad, e1, e2, e3⟩ := cell_id y4 (Below.refl _ W) j hj2
              have ex : ids[j] = x := by
                rw [← hx]
                congr 1
                exact HID.out.symm
              rw [ex] at e2 e3
              exact ⟨ad, e1, e2, e3⟩)
            obtain ⟨ad4, rfl, _⟩ := HCI.out _ _ HSJ.out
            obtain ⟨x0, x1⟩ := x
            clear q1 q2 q3 hx hj
            go_wp2_with (first
              | (go_at_call 30; with_reducible refine (K6.out _ _ HSJ.out).mono ?_; rintro e w7 ⟨rfl, rfl⟩)
              | (go_at_call 31; with_reducible refine (K8.out _ HSJ.out).mono ?_; rintro e w8 ⟨rfl, hS⟩; have HS8 := Lib.hid hS; clear hS))
            have HSB := Lib.hid ((HS8.out.mkblk AX.out (.cells #[.int .i64 x0, .int .i64 x1] 31 (0, 0))).turn.drew (asn_sep (asn_tx p T) (asn_sep (asn_blk _ _) (AI.out (some ad4) c4))))
            have HCC := Lib.hid (fun W (h : St w W (sep (isTx p T) (sep (isBlk w8.heap.size (.cells #[.int .i64 x0, .int .i64 x1] 31 (0, 0))) (sep (isRow k31 31 (.slice (some ad4) m c4) ids) emp)))) => show (W.cell? ⟨w8.heap.size, 0, none⟩ = some (.int .i64 x0) ∧ W.cell? ⟨w8.heap.size, 1, none⟩ = some (.int .i64 x1) ∧ W.cell? (ad4.add (j * 2)) = some (.int .i64 x0) ∧ W.cell? ⟨(ad4.add (j * 2)).block, (ad4.add (j * 2)).off + 1, none⟩ = some (.int .i64 x1)) from by
              have hb := h.snd.blk
              obtain ⟨ad, e1, e2, e3⟩ := HCI.out _ _ h.snd
              injection e1 with e1
              subst e1
              exact ⟨(cell_of hb 0).trans rfl, (cell_of hb 1).trans rfl, e2, e3⟩)
            have AY := Lib.hid (asn_sep (asn_blk w8.heap.size (.cells #[.int .i64 x0, .int .i64 x1] 31 (0, 0))) (AI.out (some ad4) c4))
            go_region_held3 (fun W => W.cell? ⟨w8.heap.size, 0, none⟩ = some (.int .i64 x0) ∧ W.cell? ⟨w8.heap.size, 1, none⟩ = some (.int .i64 x1) ∧ W.cell? (ad4.add (j * 2)) = some (.int .i64 x0) ∧ W.cell? ⟨(ad4.add (j * 2)).block, (ad4.add (j * 2)).off + 1, none⟩ = some (.int .i64 x1)) ((first | exact HCC.out _ HSB.out | exact HCC.out _ HS10.out | exact HCC.out _ HS11.out)) (first
              | (go_at_call 32; with_reducible refine (K9.out _ _ AY.out HSB.out).mono ?_; rintro e w10 ⟨rfl, hS⟩; have HS10 := Lib.hid hS; clear hS)
              | (go_at_call 27; with_reducible refine (K10.out _ _ AY.out HS10.out).mono ?_; rintro e w11 ⟨rfl, hS⟩; have HS11 := Lib.hid hS; clear hS))
            go_wp2
            go_roundg (m - (j + 1))
            case measure => omega
            case rel => exact ⟨j + 1, by go_num, by omega, HS11.out.turn.snd⟩
          · obtain rfl : j = m := by omega
            have hd5 : decide (j < j) = false := by simp
            obtain ⟨y, hy⟩ : ∃ y, atS T.l (j : Int) = (y, false) := ⟨(atS T.l (j : Int)).1, Prod.ext rfl HOV.out⟩
            obtain ⟨z, hz⟩ : ∃ z, atS T.l (-1) = (z, false) := ⟨(atS T.l (-1)).1, Prod.ext rfl HUN.out⟩
            have K12 := Lib.hid (fun W (h : St w W (sep (isTx p T) (sep (isRow k31 31 (.slice A4 j c4) ids) emp))) => at_st (AI.out A4 c4) h HLL.out (j : Int))
            have K13 := Lib.hid (fun W (h : St w W (sep (isTx p T) (sep (isRow k31 31 (.slice A4 j c4) ids) emp))) => at_st (AI.out A4 c4) h HLL.out (-1))
            rw [hy] at K12
            rw [hz] at K13
            obtain ⟨y0, y1⟩ := y
            obtain ⟨z0, z1⟩ := z
            clear hy hz
            go_wp2_with (first
              | (go_at_call 30; with_reducible refine (K6.out _ _ HSJ.out).mono ?_; rintro e w7 ⟨rfl, rfl⟩)
              | (go_at_call 31; with_reducible refine (K12.out _ HSJ.out).mono ?_; rintro e w8 ⟨rfl, hS⟩; have HS8 := Lib.hid (hS.below AX.out ((Below.refl _ w8).alloc (Nat.le_refl _) (.cells #[.int .i64 y0, .int .i64 y1] 31))); clear hS)
              | (go_at_call 31; with_reducible refine (K13.out _ HS8.out).mono ?_; rintro e w9 ⟨rfl, hS⟩; have HS9 := Lib.hid (hS.below AX.out ((Below.refl _ w9).alloc (Nat.le_refl _) (.cells #[.int .i64 z0, .int .i64 z1] 31))); clear hS))
            go_ret
            exact ⟨rfl, HS9.out.bel⟩
end Go.Proofs.Ytehdjdediobemaa.PC
