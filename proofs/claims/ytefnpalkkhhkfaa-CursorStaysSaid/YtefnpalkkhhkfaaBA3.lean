/- A part of the proof of cursorBounds_holds: its texts, one behind the other, as far as the proof stands on them. (Lines of its texts on the printed words and functions began as lines that a program of the kit had written for this statement.) -/
import Derived.ArgAppend
import Derived.Below
import Derived.BigQuiet
import Derived.BigRegion
import Derived.ChangeMaps4
import Derived.ChangeMaps5
import Derived.Deep.AppendLies
import Derived.Deep.CutBlock
import Derived.Deep.DeepCutAuto
import Derived.Deep.DrawnRows
import Derived.Deep.Draws
import Derived.Deep.LoopGhost
import Derived.Deep.OwnRows
import Derived.Deep.QuietTactic
import Derived.Deep.RegionHeld3
import Derived.Deep.RegionLaw
import Derived.Deep.RegionWith
import Derived.KernelRfl
import Derived.Laws.BitsLemmas
import Derived.Laws.BytesArg
import Derived.Laws.CopyRow
import Derived.Laws.Externs
import Derived.Laws.IdiomCopy
import Derived.Laws.MakeOwn
import Derived.Laws.NewBlocks
import Derived.Laws.OwnMore
import Derived.Laws.Rows
import Derived.Laws.Slices
import Derived.Laws.StructEq
import Derived.Lib.AppendStr
import Derived.Lib.AppendZerosOnto
import Derived.Lib.ConvBytes
import Derived.Lib.Hide
import Derived.Lib.JoinLaws
import Derived.Lib.Overlaps
import Derived.Lib.Walk
import Derived.MapKept
import Derived.Maps.AppendAt
import Derived.OrdersHeld
import Derived.OwnWalk
import Derived.RegionTactic
import Derived.RowKit
import Derived.RowKit3
import Derived.StillTailTactics
import Derived.Tactics
import Derived.Test.YtefnpalkkhhkfaaProg
import Derived.WalkKit
import Derived.WalkSpells
import Derived.WideLaws
import Derived.Test.YtefnpalkkhhkfaaBA2
namespace Go.Proofs.Ytefnpalkkhhkfaa.PC
open Go.RowKit Go.Proofs.YtefnpalkkhhkfaaW.PrintWords Go.Proofs.YtefnpalkkhhkfaaW.PrintLast Go.Proofs.YtefnpalkkhhkfaaW.PrintMore Go.Proofs.Ytefnpalkkhhkfaa.K Go.Proofs.Ytefnpalkkhhkfaa.IX
attribute [local go_sem] max2_int min2_int max_two min_two max_three min_three max_four min_four
set_option linter.unusedVariables false
set_option linter.unusedSimpArgs false
def setS (ms : List Bool) (a : Int) (u : Bool) : Bool × List Bool := if 0 ≤ a ∧ a < ms.length then (true, ms.set a.toNat u) else (false, ms)
theorem one_quiet (b : Bool) (w : World) (n : Nat) : Calls Try.prog 50 #[.bool b] (w.drewN n) fun e w'' => e = .returned (.int .i64 (oneI b)) ∧ ∃ m, w'' = w.drewN m :=
  Calls.quiet_of_same ((one_calls b (w.drewN n)).mono fun _ _ h => ⟨h.1, h.2.symm⟩)
/-- What the walk reads and writes at a mark: its block, the block's row, the index' own block. -/
def AtMark (w : World) (p g LL cap i k g2 c2 xb ln tot c cs : Nat) (o : Bool) : Prop :=
  w.cell? ⟨p, 0, none⟩ = some (.int .i64 (tot : Int)) ∧ w.cell? ⟨p, 1, none⟩ = some (.int .i64 (c : Int)) ∧ w.cell? ⟨p, 2, none⟩ = some (.slice (some ⟨g, 0, none⟩) LL cap) ∧ w.cell? ⟨g, i, none⟩ = some (.pointer (some ⟨xb, 0, none⟩)) ∧
    w.cell? ⟨xb, 0, none⟩ = some (.slice (some ⟨g2, 0, none⟩) ln c2) ∧ w.cell? ⟨xb, 1, none⟩ = some (.int .i64 (cs : Int)) ∧ w.cell? ⟨g2, k, none⟩ = some (.bool o) ∧ (∀ o, w.frozen? ⟨p, o, none⟩ = false) ∧ (∀ o, w.frozen? ⟨xb, o, none⟩ = false) ∧ ∀ o, w.frozen? ⟨g2, o, none⟩ = false
theorem at_mark {w : World} {p g cap : Nat} {L pre post : List Blk} {x : Blk} {k : Nat} (h : IxR w p (.slice (some ⟨g, 0, none⟩) L.length cap) L) (hL : L = pre ++ x :: post) (hk : k < x.ms.length) (nd : Nat) :
    ∃ g2 c2, x.v = .slice (some ⟨g2, 0, none⟩) x.ms.length c2 ∧ x.ms.length ≤ c2 ∧ AtMark (w.drewN nd) p g L.length cap pre.length k g2 c2 x.b x.ms.length (marks L).length (cn (marks L)) (cn x.ms) x.ms[k] ∧ p ≠ x.b ∧ p ≠ g2 ∧ x.b ≠ g2 ∧ ∃ cur, w.heap[g2]? = some (.cells cur 4 (0, 0)) := by
  obtain ⟨g', cap', e, _, h0, h1, h2, hrow⟩ := h.head_cells
  injection e with e1 e2 e3
  injection e1 with e1
  injection e1 with e1
  subst e1 e3
  obtain ⟨hx, hb⟩ := found h hL
  obtain ⟨g2, c2, hv, hc, hc0, hc1, hm⟩ := hb.mark (List.getElem?_eq_getElem hk)
  obtain ⟨_, cur, hcur⟩ := hb.2.ob_lt g2 (by rw [hv]; simp [ob, Value.ownBlock])
  exact ⟨g2, c2, hv, hc, ⟨h0, h1, h2, hrow _ _ hx, hc0, hc1, hm, free_of h.head, free_of hb.1, free_of hcur⟩, heap_types h.head hb.1 (by decide), heap_types h.head hcur (by decide), heap_types hb.1 hcur (by decide), cur, hcur⟩
def SetPost (w : World) (p : Nat) (L : List Blk) (n : Nat) (u : Bool) (e : Ending) (w' : World) : Prop :=
  ∃ (pre : List Blk) (x : Blk) (post : List Blk) (k g2 c2 m : Nat) (hk : k < x.ms.length), L = pre ++ x :: post ∧ n = (marks pre).length + k ∧ x.v = .slice (some ⟨g2, 0, none⟩) x.ms.length c2 ∧ e = .returned (.bool true) ∧
    w' = (((w.drewN m).setCell ⟨g2, k, none⟩ (.bool u)).setCell ⟨x.b, 1, none⟩ (.int .i64 ((cn x.ms : Int) + (oneI u - oneI x.ms[k])))).setCell ⟨p, 1, none⟩ (.int .i64 ((cn (marks L) : Int) + (oneI u - oneI x.ms[k])))
/-- find, told in the walk's own words. -/
def FoundSet (w : World) (p g LL cap tot : Nat) (L : List Blk) (n : Nat) (u : Bool) (e : Ending) (w1 : World) : Prop :=
  ∃ (i k g2 c2 xb ln cs c : Nat) (s oo : Int) (o : Bool), e = .returned (.tuple #[.int .i64 (i : Int), .int .i64 (k : Int), .int .i64 s]) ∧ AtMark w1 p g LL cap i k g2 c2 xb ln tot c cs o ∧ oneI o = oo ∧ i < LL ∧ k < ln ∧ ln ≤ c2 ∧ cs ≤ 1000000 ∧ c ≤ 1000000 ∧ p ≠ xb ∧ p ≠ g2 ∧ xb ≠ g2 ∧
    ∀ m, SetPost w p L n u (.returned (.bool true)) ((((w1.drewN m).setCell ⟨g2, k, none⟩ (.bool u)).setCell ⟨xb, 1, none⟩ (.int .i64 ((cs : Int) + (oneI u - oo)))).setCell ⟨p, 1, none⟩ (.int .i64 ((c : Int) + (oneI u - oo))))
theorem find_set (w : World) (p g cap : Nat) (L : List Blk) (n : Nat) (u : Bool) (hR : IxR w p (.slice (some ⟨g, 0, none⟩) L.length cap) L) (hs : (marks L).length ≤ 1000000) (hL : L.length ≤ 1000001) (hn : n < (marks L).length) :
    Calls Try.prog 59 #[.pointer (some ⟨p, 0, none⟩), .int .i64 (n : Int), .bool false] w (FoundSet w p g L.length cap (marks L).length L n u) := by
  refine (find_calls w p _ L n false hR hs hL (.inl hn)).mono ?_
  rintro e w1 ⟨pre, x, post, k, hL2, hat, hk, rfl, nd, rfl⟩
  replace hk : k < x.ms.length := hk.elim id (fun h => by cases h.1)
  obtain ⟨g2, c2, hxv, hc2, ham, hpx, hpg, hxg, _⟩ := at_mark hR hL2 hk nd
  have hcs := cn_le x.ms
  have hcb := cn_le (marks L)
  have hxl : x.ms.length ≤ (marks L).length := by rw [hL2, marks_app, marks_cons]; simp; omega
  exact ⟨pre.length, k, g2, c2, x.b, x.ms.length, cn x.ms, cn (marks L), _, _, x.ms[k], rfl, ham, rfl, by rw [hL2]; simp, hk, hc2, by omega, by omega, hpx, hpg, hxg, fun m => ⟨pre, x, post, k, g2, c2, nd + m, hk, hL2, hat, hxv, rfl, by rw [World.drewN_drewN]⟩⟩
set_option maxHeartbeats 4000000 in
set_option maxRecDepth 100000 in
theorem set_walk (w : World) (p g cap : Nat) (L : List Blk) (n : Nat) (u : Bool) (hR : IxR w p (.slice (some ⟨g, 0, none⟩) L.length cap) L) (hs : (marks L).length ≤ 1000000) (hL : L.length ≤ 1000001) (hn : n < (marks L).length) :
    Calls Try.prog 40 #[.pointer (some ⟨p, 0, none⟩), .int .i64 (n : Int), .bool u] w (SetPost w p L n u) := by
  have hf := find_set w p g cap L n u hR hs hL hn
  have hu := oneI_b u
  have hq1 := one_quiet u
  have h0 : w.cell? ⟨p, 0, none⟩ = some (.int .i64 ((marks L).length : Int)) := by rw [cell_of hR.head]; rfl
  have hcap : L.length ≤ cap := by
    obtain ⟨_, _, e, hcap, _⟩ := hR.head_cells
    injection e with _ _ e3
    rw [e3]; exact hcap
  generalize (marks L).length = tot at *
  generalize L.length = LL at *
  have hf2 : Calls Try.prog 59 #[.pointer (some ⟨p, 0, none⟩), .int .i64 (n : Int), .bool false] w (FoundSet w p g LL cap tot L n u) := hf
  have HF := Lib.hid hf2
  have HQ1 := Lib.hid hq1
  clear hf hf2 hq1 hR hs
  have hd1 : decide ((n : Int) < 0) = false := by simp
  have hd2 : decide (tot ≤ n) = false := by simpa using hn
  go_enter Try.func40, Try.ntmps40
  go_wp2_with (go_at_call 59; refine HF.out.mono ?_; rintro e w1 ⟨i, k, g2, c2, xb, ln, cs, c, s, oo, o, rfl, ⟨k0, k1, k2, kptr, kc0, kc1, km, kf1, kf2, kf3⟩, hoo, hil, hkl, hlc, hcs, hcb, hpx, hpg, hxg, hfin⟩; have HFIN := Lib.hid hfin; have hob := oneI_b o; have hq2 := one_quiet o; rw [hoo] at hob hq2; have HQ2 := Lib.hid hq2; clear hfin hoo hq2; have hw2 : IntKind.i64.wrap (oneI u - oo) = oneI u - oo := (by rw [IntKind.wrap_i64]; omega); have hw3 : IntKind.i64.wrap ((cs : Int) + (oneI u - oo)) = (cs : Int) + (oneI u - oo) := (by rw [IntKind.wrap_i64]; omega); have hw4 : IntKind.i64.wrap ((c : Int) + (oneI u - oo)) = (c : Int) + (oneI u - oo) := (by rw [IntKind.wrap_i64]; omega))
  go_quiet ((go_at_call 50; first | exact HQ1.out _ _ | exact HQ2.out _ _))
  go_wp2
  go_region
  go_wp2
  go_ret
  exact HFIN.out (nq + 1)
theorem fpB_app (A B : List Blk) : fpB (A ++ B) = fpB A ++ fpB B := List.flatMap_append
theorem fpB_cons (x : Blk) (B : List Blk) : fpB (x :: B) = x.b :: (ob x.v ++ fpB B) := by unfold fpB; rw [List.flatMap_cons]; rfl
theorem IxR.typed {w : World} {p : Nat} {lv : Value} {L : List Blk} (h : IxR w p lv L) : ∀ k ∈ fpB L, ∃ cs t, w.heap[k]? = some (.cells cs t (0, 0)) ∧ (t = 99 ∨ t = 4) := by
  intro k hk
  obtain ⟨x, hx, rfl | hk⟩ := mem_fpB.1 hk
  · exact ⟨_, _, (h.blk x hx).1, .inl rfl⟩
  · obtain ⟨_, cs, hcs⟩ := (h.blk x hx).2.ob_lt k hk
    exact ⟨cs, _, hcs, .inr rfl⟩
theorem IxR.others {w : World} {p : Nat} {lv : Value} {pre post : List Blk} {x : Blk} (h : IxR w p lv (pre ++ x :: post)) : ∀ k ∈ ob lv ++ (fpB pre ++ fpB post), k ≠ p ∧ k ≠ x.b ∧ k ∉ ob x.v := by
  intro k hk
  have hx := h.blk x (by simp)
  rcases List.mem_append.1 hk with hk | hk
  · obtain ⟨_, cs, hcs⟩ := h.row.ob_lt k hk
    refine ⟨heap_types hcs h.head (by decide), heap_types hcs hx.1 (by decide), fun hm => ?_⟩
    obtain ⟨_, cs2, hcs2⟩ := hx.2.ob_lt k hm
    exact heap_types hcs hcs2 (by decide) rfl
  · have hk2 : k ∈ fpB (pre ++ x :: post) := by
      rw [fpB_app, fpB_cons]
      rcases List.mem_append.1 hk with h1 | h1
      · simp [h1]
      · simp [h1]
    obtain ⟨cs, t, hcs, ht⟩ := h.typed k hk2
    refine ⟨heap_types hcs h.head (by rcases ht with rfl | rfl <;> decide), ?_⟩
    have hn := h.nd
    rw [fpB_app, fpB_cons] at hn
    obtain ⟨_, h2, h3⟩ := List.nodup_append.1 hn
    rcases List.mem_append.1 hk with h1 | h1
    · exact ⟨fun e => h3 k h1 x.b (by simp) e, fun hm => h3 k h1 k (by simp [hm]) rfl⟩
    · rw [List.nodup_cons] at h2
      obtain ⟨h4, h5⟩ := h2
      obtain ⟨_, _, h6⟩ := List.nodup_append.1 h5
      exact ⟨fun e => h4 (by rw [← e]; simp [h1]), fun hm => h6 k hm k h1 rfl⟩
theorem ob_nodup (v : Value) : (ob v).Nodup := by
  unfold ob
  cases v.ownBlock <;> simp
theorem IxR.put {w w' : World} {p : Nat} {lv : Value} {pre post : List Blk} {x : Blk} (h : IxR w p lv (pre ++ x :: post)) (x' : Blk) (hb : x'.b = x.b)
    (hhead : w'.heap[p]? = some (.cells #[.int .i64 ((marks (pre ++ x' :: post)).length : Int), .int .i64 (cn (marks (pre ++ x' :: post)) : Int), lv] 79 (0, 0))) (hblk : BlkR w' x')
    (hkeep : ∀ k ∈ ob lv ++ (fpB pre ++ fpB post), w'.heap[k]? = w.heap[k]?) (hnew : ∀ k ∈ ob x'.v, k ∈ ob x.v ∨ w.heap.size ≤ k) : IxR w' p lv (pre ++ x' :: post) := by
  have hlt := h.lt
  have hx := h.blk x (by simp)
  refine ⟨hhead, ?_, fun y hy => ?_, ?_, by simp⟩
  · have e : (pre ++ x' :: post).map ptrV = (pre ++ x :: post).map ptrV := by simp [ptrV, hb]
    rw [e, show (pre ++ x' :: post).length = (pre ++ x :: post).length by simp]
    exact h.row.keep fun k hk => hkeep k (by simp [hk])
  · rcases List.mem_append.1 hy with hy | hy
    · have hyb := h.blk y (by simp [hy])
      exact ⟨(hkeep y.b (by simp only [List.mem_append, mem_fpB]; exact .inr (.inl ⟨y, hy, .inl rfl⟩))).trans hyb.1, hyb.2.keep fun g hg => hkeep g (by simp only [List.mem_append, mem_fpB]; exact .inr (.inl ⟨y, hy, .inr hg⟩))⟩
    · rcases List.mem_cons.1 hy with rfl | hy
      · exact hblk
      · have hyb := h.blk y (by simp [hy])
        exact ⟨(hkeep y.b (by simp only [List.mem_append, mem_fpB]; exact .inr (.inr ⟨y, hy, .inl rfl⟩))).trans hyb.1, hyb.2.keep fun g hg => hkeep g (by simp only [List.mem_append, mem_fpB]; exact .inr (.inr ⟨y, hy, .inr hg⟩))⟩
  · have hn := h.nd
    rw [fpB_app, fpB_cons] at hn ⊢
    obtain ⟨n1, n2, n3⟩ := List.nodup_append.1 hn
    rw [List.nodup_cons] at n2
    obtain ⟨n4, n5⟩ := n2
    obtain ⟨n6, n7, n8⟩ := List.nodup_append.1 n5
    have hold : ∀ k, k ∈ fpB pre ∨ k = x.b ∨ k ∈ fpB post → k < w.heap.size := by
      intro k hk
      refine hlt k ?_
      unfold fpI
      rw [fpB_app, fpB_cons]
      rcases hk with hk | rfl | hk <;> simp [*]
    have hd : ∀ k ∈ ob x'.v, k ∉ fpB pre ∧ k ≠ x.b ∧ k ∉ fpB post := by
      intro k hk
      rcases hnew k hk with h1 | h1
      · exact ⟨fun hm => n3 k hm k (by simp [h1]) rfl, fun e => n4 (by rw [← e]; simp [h1]), fun hm => n8 k h1 k hm rfl⟩
      · exact ⟨fun hm => by have := hold k (.inl hm); omega, fun e => by have := hold k (.inr (.inl e)); omega, fun hm => by have := hold k (.inr (.inr hm)); omega⟩
    rw [hb]
    refine List.nodup_append.2 ⟨n1, List.nodup_cons.2 ⟨fun hm => ?_, List.nodup_append.2 ⟨ob_nodup _, n7, fun a ha b hb2 e => ?_⟩⟩, fun a ha b hb2 e => ?_⟩
    · rcases List.mem_append.1 hm with hm | hm
      · exact (hd _ hm).2.1 rfl
      · exact n4 (by simp [hm])
    · exact (hd a ha).2.2 (by rw [e]; exact hb2)
    · subst e
      rcases List.mem_cons.1 hb2 with rfl | hb2
      · exact n3 _ ha _ (by simp) rfl
      · rcases List.mem_append.1 hb2 with hb2 | hb2
        · exact (hd _ hb2).1 ha
        · exact n3 _ ha _ (by simp [hb2]) rfl
theorem cn_set (l : List Bool) (k : Nat) (u : Bool) (h : k < l.length) : (cn (l.set k u) : Int) = cn l + (oneI u - oneI l[k]) := by
  have e1 : l = l.take k ++ l[k] :: l.drop (k + 1) := by rw [← List.drop_eq_getElem_cons h, List.take_append_drop]
  have e2 : l.set k u = l.take k ++ u :: l.drop (k + 1) := List.set_eq_take_append_cons_drop.trans (by rw [if_pos h])
  have h1 : cn l = cn (l.take k) + ((if l[k] = true then 1 else 0) + cn (l.drop (k + 1))) := by
    conv => lhs; rw [e1]
    rw [cn_app, cn_cons]
  rw [e2, cn_app, cn_cons, h1]
  unfold oneI
  split <;> split <;> omega
theorem marks_set (pre post : List Blk) (x : Blk) (k : Nat) (u : Bool) (h : k < x.ms.length) : marks (pre ++ { x with ms := x.ms.set k u } :: post) = (marks (pre ++ x :: post)).set ((marks pre).length + k) u := by
  rw [marks_app, marks_cons, marks_app, marks_cons, List.set_append_right _ _ (by omega), Nat.add_sub_cancel_left, List.set_append_left _ _ h]
theorem marks_len_set (pre post : List Blk) (x : Blk) (k : Nat) (u : Bool) : (marks (pre ++ { x with ms := x.ms.set k u } :: post)).length = (marks (pre ++ x :: post)).length := by
  rw [marks_app, marks_cons, marks_app, marks_cons]; simp
theorem getE_app (pre post : List Blk) (x : Blk) (k : Nat) (hk : k < x.ms.length) (h2 : (marks pre).length + k < (marks (pre ++ x :: post)).length) : (marks (pre ++ x :: post))[(marks pre).length + k] = x.ms[k] := by
  have := getD_found pre post x k hk
  rw [List.getElem?_eq_getElem h2, List.getElem?_eq_getElem hk] at this
  injection this
theorem set_calls (w : World) (F : List Nat) (p : Nat) (ms : List Bool) (a : Int) (u : Bool) (h : Ix w F p ms) (hs : ms.length ≤ 1000000) :
    Calls Try.prog 40 #[.pointer (some ⟨p, 0, none⟩), .int .i64 a, .bool u] w fun e w' => e = .returned (.bool (setS ms a u).1) ∧ Ix w' F p (setS ms a u).2 ∧ Fr F w w' := by
  obtain ⟨lv, L, hR, rfl, rfl, hLn⟩ := h
  obtain ⟨g, cap, rfl, hcap, h0, h1, h2, hrow⟩ := hR.head_cells
  by_cases hin : 0 ≤ a ∧ a < ((marks L).length : Int)
  · obtain ⟨n, rfl⟩ : ∃ n : Nat, a = n := ⟨a.toNat, by omega⟩
    have hlt : n < (marks L).length := by omega
    unfold setS
    rw [if_pos hin, Int.toNat_natCast]
    refine (set_walk w p g cap L n u hR hs (by omega) hlt).mono ?_
    rintro e w' ⟨pre, x, post, k, g2, c2, m, hk, rfl, rfl, hxv, rfl, rfl⟩
    obtain ⟨g2', c2', hxv', hc2, _, hpx, hpg, hxg, cur, hcur⟩ := at_mark hR rfl hk m
    rw [hxv] at hxv'
    injection hxv' with e1 _ e3
    injection e1 with e1
    injection e1 with e1
    subst e1 e3
    have hoth := hR.others
    have hx := hR.blk x (by simp)
    rw [hxv] at hoth
    have hob : ∀ j, j ∈ ob (.slice (some ⟨g2, 0, none⟩) x.ms.length c2) ↔ j = g2 := by intro j; simp [ob, Value.ownBlock]
    obtain ⟨W0, hW0⟩ : ∃ W0, w.drewN m = W0 := ⟨_, rfl⟩
    have hh : ∀ j : Nat, W0.heap[j]? = w.heap[j]? := fun j => by rw [← hW0]; rfl
    have hf0 : Fr (fpI p (.slice (some ⟨g, 0, none⟩) (pre ++ x :: post).length cap) (pre ++ x :: post)) w W0 := by rw [← hW0]; exact Fr.of_drewN _ _
    rw [hW0]
    have mp : p ∈ fpI p (.slice (some ⟨g, 0, none⟩) (pre ++ x :: post).length cap) (pre ++ x :: post) := by simp [fpI]
    have mx : x.b ∈ fpI p (.slice (some ⟨g, 0, none⟩) (pre ++ x :: post).length cap) (pre ++ x :: post) := by unfold fpI; rw [fpB_app, fpB_cons]; simp
    have mg : g2 ∈ fpI p (.slice (some ⟨g, 0, none⟩) (pre ++ x :: post).length cap) (pre ++ x :: post) := by unfold fpI; rw [fpB_app, fpB_cons, hxv]; simp [hob]
    refine ⟨rfl, ⟨_, pre ++ { x with ms := x.ms.set k u } :: post, hR.put { x with ms := x.ms.set k u } rfl ?_ ⟨?_, ?_⟩ ?_ ?_, marks_set _ _ _ _ _ hk, ?_, ?_⟩, ?_⟩
    · have e1 := heap_set _ p 1 (.int .i64 ((cn (marks (pre ++ x :: post)) : Int) + (oneI u - oneI x.ms[k]))) (((heap_far (W0.setCell ⟨g2, k, none⟩ (.bool u)) ⟨x.b, 1, none⟩ (.int .i64 ((cn x.ms : Int) + (oneI u - oneI x.ms[k]))) hpx).trans (heap_far W0 ⟨g2, k, none⟩ (.bool u) hpg)).trans ((hh p).trans hR.head))
      rw [e1, marks_len_set, marks_set _ _ _ _ _ hk, cn_set _ _ _ hlt, getE_app _ _ _ _ hk hlt]
      rfl
    · have e1 := heap_set _ x.b 1 (.int .i64 ((cn x.ms : Int) + (oneI u - oneI x.ms[k]))) ((heap_far W0 ⟨g2, k, none⟩ (.bool u) hxg).trans ((hh x.b).trans hx.1))
      show ((((W0.setCell _ _).setCell _ _).setCell _ _).heap[x.b]?) = _
      rw [heap_far _ _ _ (Ne.symm hpx), e1, cn_set _ _ _ hk]
      rfl
    · have e1 := heap_set _ g2 k (.bool u) ((hh g2).trans hcur)
      have hsr := srow1.1 hx.2
      rw [hxv] at hsr
      rcases hsr.2 with ⟨h, _⟩ | ⟨g3, cap3, cur3, h3, hg3, hn3, hm3, hs3, _, ht3⟩
      · cases h
      · injection h3 with h3 _ h4
        injection h3 with h3
        injection h3 with h3
        subst h3 h4
        rw [hcur] at hg3
        injection hg3 with hg3
        injection hg3 with hg3
        subst hg3
        refine srow1.2 ⟨by simp, .inr ⟨g2, c2, cur.setIfInBounds k (.bool u), by simpa using hxv, ?_, by simpa using hn3, hm3, by simpa using hs3, fun h => h.elim, ?_⟩⟩
        · rw [heap_far _ _ _ (Ne.symm hpg), heap_far _ _ _ (Ne.symm hxg)]
          exact e1
        · show ((cur.setIfInBounds k (.bool u)).toList).take (x.ms.set k u).length = (x.ms.set k u).map Value.bool
          rw [Array.toList_setIfInBounds, List.length_set, List.take_set, ht3, List.map_set]
    · intro j hj
      obtain ⟨n1, n2, n3⟩ := hoth j hj
      rw [heap_far _ _ _ n1, heap_far _ _ _ n2, heap_far _ _ _ (fun e => n3 ((hob j).2 e)), hh]
    · intro j hj
      exact .inl hj
    · unfold fpI
      rw [fpB_app, fpB_cons, fpB_app, fpB_cons]
      try simp
    · rw [List.length_set]; simpa using hLn
    · exact ((hf0.trans (Fr.of_set W0 ⟨g2, k, none⟩ _ mg) (fun _ h => .inl h)).trans (Fr.of_set _ ⟨x.b, 1, none⟩ _ mx) (fun _ h => .inl h)).trans (Fr.of_set _ ⟨p, 1, none⟩ _ mp) (fun _ h => .inl h)
  · unfold setS
    rw [if_neg hin]
    have hk : ∀ W, w = W → Ix W (fpI p (.slice (some ⟨g, 0, none⟩) L.length cap) L) p (marks L) ∧ Fr (fpI p (.slice (some ⟨g, 0, none⟩) L.length cap) L) w W := by
      rintro W rfl
      exact ⟨⟨_, L, hR, rfl, rfl, hLn⟩, Fr.refl _ _⟩
    have HK := Lib.hid hk
    clear hrow hR hk hLn hs
    generalize (marks L).length = tot at *
    by_cases h3 : a < 0
    · clear hin
      go_enter Try.func40, Try.ntmps40
      go_wp2
      go_ret
      exact ⟨rfl, HK.out _ rfl⟩
    · have h4 : (tot : Int) ≤ a := by omega
      clear hin
      go_enter Try.func40, Try.ntmps40
      go_wp2
      go_ret
      exact ⟨rfl, HK.out _ rfl⟩
end Go.Proofs.Ytefnpalkkhhkfaa.PC
namespace Go.Proofs.Ytefnpalkkhhkfaa.K
open Go.RowKit Go.Proofs.YtefnpalkkhhkfaaW.PrintWords Go.Proofs.YtefnpalkkhhkfaaW.PrintLast Go.Proofs.YtefnpalkkhhkfaaW.PrintMore
set_option linter.unusedVariables false
section
variable {α : Type} {fl : α → List Value} {sz : Nat} {R : α → List Value → Prop}
theorem flat_len (hl : ∀ x, (fl x).length = sz) (ps : List α) : (ps.flatMap fl).length = ps.length * sz := by
  induction ps with
  | nil => simp
  | cons p ps ih => rw [List.flatMap_cons, List.length_append, ih, hl, List.length_cons, Nat.add_mul]; omega
theorem flat_drop (hl : ∀ x, (fl x).length = sz) (ps : List α) (j : Nat) : (ps.flatMap fl).drop (j * sz) = (ps.drop j).flatMap fl := by
  induction ps generalizing j with
  | nil => simp
  | cons p ps ih =>
    cases j with
    | zero => simp
    | succ j => rw [List.drop_succ_cons, ← ih j, List.flatMap_cons, Nat.add_mul, Nat.one_mul, List.drop_append, List.drop_of_length_le (by rw [hl]; omega), hl, List.nil_append, Nat.add_sub_cancel]
theorem flat_take (hl : ∀ x, (fl x).length = sz) (ps : List α) (j : Nat) : (ps.flatMap fl).take (j * sz) = (ps.take j).flatMap fl := by
  induction ps generalizing j with
  | nil => simp
  | cons p ps ih =>
    cases j with
    | zero => simp
    | succ j => rw [List.take_succ_cons, List.flatMap_cons, List.flatMap_cons, ← ih j, Nat.add_mul, Nat.one_mul, List.take_append, List.take_of_length_le (by rw [hl]; omega), hl, Nat.add_sub_cancel]
theorem flat_reps (hl : ∀ x, (fl x).length = sz) (hR : ∀ x, R x (fl x)) (ps : List α) : Reps R sz ps (ps.flatMap fl) := by
  refine ⟨flat_len hl ps, fun j p hj => ?_⟩
  rw [flat_drop hl]
  obtain ⟨hlt, rfl⟩ := List.getElem?_eq_some_iff.1 hj
  rw [List.drop_eq_getElem_cons hlt, List.flatMap_cons, List.take_left' (hl _)]
  exact hR _
theorem reps_flat (hl : ∀ x, (fl x).length = sz) (hR : ∀ x c, R x c → c = fl x) : ∀ {ps : List α} {cs : List Value}, Reps R sz ps cs → cs = ps.flatMap fl := by
  intro ps
  induction ps with
  | nil => intro cs h; have := h.1; simp at this; simp [this]
  | cons p ps ih =>
    intro cs h
    have h0 := hR _ _ (h.2 0 p rfl)
    rw [Nat.zero_mul, List.drop_zero] at h0
    have ht : Reps R sz ps (cs.drop sz) := by
      refine ⟨by rw [List.length_drop, h.1, List.length_cons, Nat.add_mul]; omega, fun j q hj => ?_⟩
      have := h.2 (j + 1) q (by simpa using hj)
      rw [List.drop_drop, show sz + j * sz = (j + 1) * sz by rw [Nat.add_mul]; omega]
      exact this
    have := ih ht
    rw [List.flatMap_cons, ← this, ← h0, List.take_append_drop]
end
theorem owns_of_R {α : Type} {d : Kd α} {fl : α → List Value} {e : Nat} {w : World} {base : Nat} {ok : Nat → Prop} {v : Value} {xs : List α} (hl : ∀ x, (fl x).length = d.sz)
    (hM : ∀ {w base ok x cs}, d.M w base ok x cs → cs = fl x) (h : d.R e w base ok v xs) : w.ownsRow base e d.sz v xs.length (xs.flatMap fl) := by
  obtain ⟨_, inner, ho, hr⟩ := h
  rw [reps_flat hl (fun x c hx => hM hx) hr] at ho
  exact ho
theorem R_of_owns {α : Type} {d : Kd α} {fl : α → List Value} {e : Nat} {w : World} {base : Nat} {ok : Nat → Prop} {v : Value} {xs : List α} (hl : ∀ x, (fl x).length = d.sz)
    (hM : ∀ w base ok x, d.M w base ok x (fl x)) (hok : ∀ k, v.ownBlock = some k → ok k) (h : w.ownsRow base e d.sz v xs.length (xs.flatMap fl)) : d.R e w base ok v xs :=
  ⟨hok, _, h, flat_reps hl (fun x => hM _ _ _ x) xs⟩
end Go.Proofs.Ytefnpalkkhhkfaa.K
namespace Go.Proofs.Ytefnpalkkhhkfaa.PC
open Go.RowKit Go.Proofs.YtefnpalkkhhkfaaW.PrintWords Go.Proofs.YtefnpalkkhhkfaaW.PrintLast Go.Proofs.YtefnpalkkhhkfaaW.PrintMore Go.Proofs.Ytefnpalkkhhkfaa.K Go.Proofs.Ytefnpalkkhhkfaa.IX
attribute [local go_sem] max2_int min2_int max_two min_two max_three min_three max_four min_four
set_option linter.unusedVariables false
set_option linter.unusedSimpArgs false
set_option maxHeartbeats 4000000 in
theorem cloneB_some (w : World) (a : Addr) (c : Nat) (xs : List Bool) (hr : Kd.C Kd.bool w (some a) xs.length xs) (hc : xs.length ≤ 140737488355328) :
    Calls Try.prog 81 #[.slice (some a) xs.length c] w fun e w' => ∃ v, e = .returned v ∧ Kd.R Kd.bool 4 w' w.heap.size (fun _ => True) v xs ∧ Below w.heap.size w w' := by
  have hn : ∀ (w : World) n c, (binOp .eql 40 (.slice (some a) n c) (.slice none 0 0)).run Try.prog w = .ok (.bool false) w := fun w n c => Lib.run_eql_slice_nil w 40 4 (some a) n c 0 0 Try.underlying40
  have HR := Aside0.mk hr
  have HC := Aside0.mk hc
  clear hr hc
  go_enter Try.func81, Try.ntmps81
  go_wp2_with (first
    | ((with_reducible refine gate_dst (N := 5) rfl ?_); refine Kd.R_lit Kd.bool _ 4 ?hg (N := 5) ?hd (xs := ([] : List Bool)) (inner := []) (ok := fun _ => True) (okp := fun _ => True) ?hr ?hp (fun _ hk => hk) trivial (Below.refl _ _) (Nat.le_refl _) (by simp) ?_; (case hd => rfl); (case hg => rfl); (case hr => first | (go_simp; done) | (go_simp; rfl)); (case hp => exact (Reps.none _ _)); intro v6 w6 ho6 hb hg_ hnew_; have HB6 := Aside0.mk hb; have HL6 := Aside0.mk ho6; clear hb hg_ hnew_ ho6)
    | ((with_reducible refine gate_builtin (b := .append) (xs := #[.tmp 5, .tmp 6]) rfl ?_); at_builtin; refine Kd.R_append_rows Kd.bool (w0 := w) w.heap.size rfl (.tmp 5) (.tmp 6) 40 4 (.bool false) 1 rfl Try.underlying40 info4 rfl (by decide) (by omega) v6 [] xs _ _ _ (fun _ => True) (fun _ => True ∧ False) rfl rfl ?aO ?aR (fun _ _ h => h) (fun _ h => h.2.elim) ?aF ?aB ?aS ?aL ?_; (case aR => exact Kd.C_below HR.out HB6.out); (case aB => exact HB6.out); (case aF => exact (fun _ _ => trivial)); (case aO => exact HL6.out); (case aS => exact below_size HB6.out); (case aL => have := HC.out; simp only [List.length_nil]; omega); intro v7 w7 ho7 hb hg hat; have HB7 := Aside0.mk hb; rw [List.nil_append] at ho7; have HL7 := Aside0.mk ho7; clear hb hg hat ho7))
  go_ret
  exact ⟨v7, rfl, HL7.out, HB7.out⟩
theorem srow_of_RB {w : World} {base : Nat} {ok : Nat → Prop} {v : Value} {xs : List Bool} (h : Kd.R Kd.bool 4 w base ok v xs) : SRow w 4 1 False v xs.length (xs.map Value.bool) ∧ ∀ g ∈ ob v, base ≤ g := by
  have ho := owns_of_R (d := Kd.bool) (fl := fun b => [Value.bool b]) (fun _ => rfl) (fun h => h) h
  have e : ∀ ys : List Bool, ys.flatMap (fun b => [Value.bool b]) = ys.map Value.bool := by intro ys; induction ys <;> simp_all
  rw [e] at ho
  refine ⟨srow_of_owns ho, fun g hg => ?_⟩
  rcases ho.2 with ⟨rfl, _⟩ | ⟨g', cap, cur, rfl, hb, _⟩
  · simp [ob, Value.ownBlock] at hg
  · simp [ob, Value.ownBlock] at hg
    omega
theorem clipB_calls (w : World) (g n c : Nat) (hn : n ≤ c) (hc : c ≤ maxLen) : Calls Try.prog 82 #[.slice (some ⟨g, 0, none⟩) n c] w fun e w' => e = .returned (.slice (some ⟨g, 0, none⟩) n n) ∧ w = w' := by
  unfold maxLen at hc
  go_enter Try.func82, Try.ntmps82
  go_wp2
  go_ret
  exact ⟨rfl, rfl⟩
end Go.Proofs.Ytefnpalkkhhkfaa.PC
namespace Go.Proofs.Ytefnpalkkhhkfaa.PC
open Go.RowKit Go.Proofs.YtefnpalkkhhkfaaW.PrintWords Go.Proofs.YtefnpalkkhhkfaaW.PrintLast Go.Proofs.YtefnpalkkhhkfaaW.PrintMore Go.Proofs.Ytefnpalkkhhkfaa.K Go.Proofs.Ytefnpalkkhhkfaa.IX
attribute [local go_sem] max2_int min2_int max_two min_two max_three min_three max_four min_four
set_option linter.unusedVariables false
set_option linter.unusedSimpArgs false
/-- What split does. -/
def SplitPost (w : World) (p : Nat) (lv : Value) (L : List Blk) (e : Ending) (w' : World) : Prop :=
  e = .returned (.tuple #[]) ∧ ∃ lv' L', IxR w' p lv' L' ∧ marks L' = marks L ∧ L'.length = L.length + 1 ∧ Fr (fpI p lv L) w w' ∧ ∀ j ∈ fpI p lv' L', j ∈ fpI p lv L ∨ w.heap.size ≤ j
theorem marks_read {w : World} {x : Blk} {g2 c2 : Nat} (h : BlkR w x) (hv : x.v = .slice (some ⟨g2, 0, none⟩) x.ms.length c2) {j : Nat} {u : Bool} (hu : x.ms[j]? = some u) : w.cell? ⟨g2, j, none⟩ = some (.bool u) := by
  obtain ⟨g3, c3, e3, _, _, _, hm⟩ := h.mark hu
  have e := hv.symm.trans e3
  injection e with e1 _ _
  injection e1 with e1
  injection e1 with e1
  subst e1
  exact hm
/-- Clone of the marks from 24 on, told in the walk's own words. -/
def CloneP (w : World) (ms : List Bool) (m : Nat) (e : Ending) (w1 : World) : Prop :=
  ∃ g3 c3, e = .returned (.slice (some ⟨g3, 0, none⟩) m c3) ∧ m ≤ c3 ∧ Aside0 (SRow w1 4 1 False (.slice (some ⟨g3, 0, none⟩) m c3) m (ms.map Value.bool) ∧ w.heap.size ≤ g3 ∧ g3 < w1.heap.size ∧ Below w.heap.size w w1)
theorem clone_p (w : World) (x : Blk) (g2 c2 c' : Nat) (h : BlkR w x) (hv : x.v = .slice (some ⟨g2, 0, none⟩) x.ms.length c2) (h24 : 24 < x.ms.length) (hl : x.ms.length ≤ 1000001) :
    Calls Try.prog 81 #[.slice (some ⟨g2, 24, none⟩) (x.ms.length - 24) c'] w (CloneP w (x.ms.drop 24) (x.ms.length - 24)) := by
  have hlen : (x.ms.drop 24).length = x.ms.length - 24 := List.length_drop
  have hC : Kd.C Kd.bool w (some ⟨g2, 24, none⟩) (x.ms.drop 24).length (x.ms.drop 24) := by
    refine ⟨rfl, by omega, fun _ => ⟨_, rfl, fun j u hu => ⟨[.bool u], rfl, rfl, fun i v hv2 => ?_⟩⟩⟩
    rw [List.getElem?_drop] at hu
    have hm := marks_read h hv hu
    match i, hv2 with
    | 0, hv2 =>
      simp at hv2
      subst hv2
      rw [Addr.add_lit]
      show w.cell? ⟨g2, 24 + (j * 1 + 0), none⟩ = _
      rw [show 24 + (j * 1 + 0) = 24 + j by omega]
      exact hm
    | i + 1, hv2 => simp at hv2
  have hc := cloneB_some w ⟨g2, 24, none⟩ c' (x.ms.drop 24) hC (by omega)
  rw [hlen] at hc
  refine hc.mono ?_
  rintro e w1 ⟨v, rfl, hR, hb⟩
  obtain ⟨hS, hg⟩ := srow_of_RB hR
  rw [hlen] at hS
  rcases hS.2 with ⟨_, h0⟩ | ⟨g3, c3, cur, rfl, hh, hn, _⟩
  · omega
  · exact ⟨g3, c3, rfl, hn, ⟨hS, hg g3 (by simp [ob, Value.ownBlock]), lt_of hh, hb⟩⟩
theorem mem_fpI {p : Nat} {lv : Value} {pre post : List Blk} {x : Blk} {j : Nat} : j ∈ fpI p lv (pre ++ x :: post) ↔ j = p ∨ j ∈ ob lv ∨ j ∈ fpB pre ∨ j = x.b ∨ j ∈ ob x.v ∨ j ∈ fpB post := by
  unfold fpI
  rw [fpB_app, fpB_cons]
  simp only [List.mem_cons, List.mem_append]
theorem IxR.halve {w D : World} {p : Nat} {lv v' : Value} {pre post : List Blk} {x x1 x2 : Blk} (h : IxR w p lv (pre ++ x :: post)) (hb : x1.b = x.b) (hms : x1.ms ++ x2.ms = x.ms) (ho : ob x1.v = ob x.v)
    (hhead : D.heap[p]? = some (.cells #[.int .i64 ((marks (pre ++ x :: post)).length : Int), .int .i64 (cn (marks (pre ++ x :: post)) : Int), v'] 79 (0, 0)))
    (hrow : SRow D 97 1 False v' ((pre ++ x :: post).length + 1) ((pre ++ x1 :: x2 :: post).map ptrV)) (h1 : BlkR D x1) (h2 : BlkR D x2) (hn1 : w.heap.size ≤ x2.b) (hn2 : ∀ g ∈ ob x2.v, w.heap.size ≤ g ∧ g ≠ x2.b)
    (hkeep : ∀ k ∈ fpB pre ++ fpB post, D.heap[k]? = w.heap[k]?) : IxR D p v' (pre ++ x1 :: x2 :: post) ∧ marks (pre ++ x1 :: x2 :: post) = marks (pre ++ x :: post) := by
  have hm : marks (pre ++ x1 :: x2 :: post) = marks (pre ++ x :: post) := by
    rw [marks_app, marks_cons, marks_cons, marks_app, marks_cons, ← hms, List.append_assoc]
  have hlt := h.lt
  have hold : ∀ k, k ∈ fpB pre ∨ k = x.b ∨ k ∈ ob x.v ∨ k ∈ fpB post → k < w.heap.size := by
    intro k hk
    refine hlt k (mem_fpI.2 ?_)
    rcases hk with hk | hk | hk | hk <;> simp [hk]
  refine ⟨⟨by rw [hm]; exact hhead, by rw [show (pre ++ x1 :: x2 :: post).length = (pre ++ x :: post).length + 1 by simp; omega]; exact hrow, fun y hy => ?_, ?_, by simp⟩, hm⟩
  · have old : y ∈ pre ∨ y ∈ post → BlkR D y := by
      intro hy
      have hyb := h.blk y (by rcases hy with hy | hy <;> simp [hy])
      have hmem : ∀ k, (k = y.b ∨ k ∈ ob y.v) → k ∈ fpB pre ++ fpB post := by
        intro k hk
        simp only [List.mem_append, mem_fpB]
        rcases hy with hy | hy
        · exact .inl ⟨y, hy, hk⟩
        · exact .inr ⟨y, hy, hk⟩
      exact ⟨(hkeep y.b (hmem _ (.inl rfl))).trans hyb.1, hyb.2.keep fun g hg => hkeep g (hmem _ (.inr hg))⟩
    rcases List.mem_append.1 hy with hy | hy
    · exact old (.inl hy)
    · rcases List.mem_cons.1 hy with rfl | hy
      · exact h1
      · rcases List.mem_cons.1 hy with rfl | hy
        · exact h2
        · exact old (.inr hy)
  · have hn := h.nd
    rw [fpB_app, fpB_cons] at hn
    rw [fpB_app, fpB_cons, fpB_cons, hb, ho]
    obtain ⟨n1, n2, n3⟩ := List.nodup_append.1 hn
    rw [List.nodup_cons] at n2
    obtain ⟨n4, n5⟩ := n2
    obtain ⟨n6, n7, n8⟩ := List.nodup_append.1 n5
    have nx : ∀ k, k = x2.b ∨ k ∈ ob x2.v → w.heap.size ≤ k := by
      rintro k (rfl | hk)
      · exact hn1
      · exact (hn2 k hk).1
    refine List.nodup_append.2 ⟨n1, List.nodup_cons.2 ⟨fun hm => ?_, List.nodup_append.2 ⟨n6, List.nodup_cons.2 ⟨fun hm => ?_, List.nodup_append.2 ⟨ob_nodup _, n7, fun a ha b hb2 e => ?_⟩⟩, fun a ha b hb2 e => ?_⟩⟩, fun a ha b hb2 e => ?_⟩
    · rcases List.mem_append.1 hm with hm | hm
      · exact n4 (by simp [hm])
      · rcases List.mem_cons.1 hm with hm | hm
        · have := nx _ (.inl hm); have := hold x.b (.inr (.inl rfl)); omega
        · rcases List.mem_append.1 hm with hm | hm
          · have := nx _ (.inr hm); have := hold x.b (.inr (.inl rfl)); omega
          · exact n4 (by simp [hm])
    · rcases List.mem_append.1 hm with hm | hm
      · exact (hn2 _ hm).2 rfl
      · have := hold _ (.inr (.inr (.inr hm))); omega
    · subst e
      have := nx _ (.inr ha); have := hold _ (.inr (.inr (.inr hb2))); omega
    · subst e
      rcases List.mem_cons.1 hb2 with hb2 | hb2
      · have := nx _ (.inl hb2); have := hold _ (.inr (.inr (.inl ha))); omega
      · rcases List.mem_append.1 hb2 with hb2 | hb2
        · have := nx _ (.inr hb2); have := hold _ (.inr (.inr (.inl ha))); omega
        · exact n8 a ha a hb2 rfl
    · subst e
      rcases List.mem_cons.1 hb2 with hb2 | hb2
      · exact n3 _ ha _ (by simp) hb2
      · rcases List.mem_append.1 hb2 with hb2 | hb2
        · exact n3 _ ha _ (by simp [hb2]) rfl
        · rcases List.mem_cons.1 hb2 with hb2 | hb2
          · have := nx _ (.inl hb2); have := hold _ (.inl ha); omega
          · rcases List.mem_append.1 hb2 with hb2 | hb2
            · have := nx _ (.inr hb2); have := hold _ (.inl ha); omega
            · exact n3 _ ha _ (by simp [hb2]) rfl
/-- slices.Insert of a block, told in the walk's own words. -/
def PutP (W : World) (p hb xb i : Nat) (lv : Value) (LL : Nat) (pre post : List Blk) (x : Blk) (tot c : Int) (e : Ending) (w3 : World) : Prop :=
  ∃ (A' : Option Addr) (c' : Nat), e = .returned (.slice A' (LL + 1) c') ∧ Aside0 (Ins (W.alloc (.cells #[.pointer (some ⟨hb, 0, none⟩)] 97)) 97 1 False lv (LL + 1) (pre.map ptrV ++ [.pointer (some ⟨x.b, 0, none⟩), .pointer (some ⟨hb, 0, none⟩)] ++ post.map ptrV) (.slice A' (LL + 1) c') w3) ∧
    w3.heap[p]? = some (.cells #[.int .i64 tot, .int .i64 c, lv] 79 (0, 0)) ∧ Aside0 (W.heap[xb]? = w3.heap[xb]?)
theorem put_p (W : World) (p hb xb i LL g cap : Nat) (pre post : List Blk) (x : Blk) {tot c : Int} {cx : Array Value} (hrow : SRow W 97 1 False (.slice (some ⟨g, 0, none⟩) LL cap) LL ((pre ++ x :: post).map ptrV)) (hLL : (pre ++ x :: post).length = LL) (hi : pre.length = i) (hL : LL ≤ 2000000)
    (hp : W.heap[p]? = some (.cells #[.int .i64 tot, .int .i64 c, .slice (some ⟨g, 0, none⟩) LL cap] 79 (0, 0))) (hx : W.heap[xb]? = some (.cells cx 99 (0, 0))) :
    Calls Try.prog 83 #[.slice (some ⟨g, 0, none⟩) LL cap, .int .i64 ((i : Int) + 1), .slice (some ⟨W.heap.size, 0, none⟩) 1 1] (W.alloc (.cells #[.pointer (some ⟨hb, 0, none⟩)] 97)) (PutP W p hb xb i (.slice (some ⟨g, 0, none⟩) LL cap) LL pre post x tot c) := by
  have hob := hrow.ob_lt
  have hg : g < W.heap.size := (hob g (by simp [ob, Value.ownBlock])).1
  have hs : SRow (W.alloc (.cells #[.pointer (some ⟨hb, 0, none⟩)] 97)) 97 1 False (.slice (some ⟨g, 0, none⟩) LL cap) LL ((pre ++ x :: post).map ptrV) := hrow.keep fun k hk => heap_old _ _ (hob k hk).1
  have hpl : pre.length + 1 ≤ LL := by rw [← hLL]; simp
  have e0 : (i : Int) + 1 = ((i + 1 : Nat) : Int) := by simp
  rw [e0]
  refine (insP_calls _ False _ LL (i + 1) W.heap.size ((pre ++ x :: post).map ptrV) [.pointer (some ⟨hb, 0, none⟩)] hs (by omega) (by exact heap_new _ _) (by simp [Value.ownBlock]; omega) rfl (by simp [Value.oneCell']) (by intro v hv; obtain ⟨b, _, rfl⟩ := List.mem_map.1 hv; rfl) (by omega)).mono ?_
  rintro e w3 ⟨v', rfl, hI⟩
  have e1 : ((pre ++ x :: post).map ptrV).take (i + 1) ++ [.pointer (some ⟨hb, 0, none⟩)] ++ ((pre ++ x :: post).map ptrV).drop (i + 1) = pre.map ptrV ++ [.pointer (some ⟨x.b, 0, none⟩), .pointer (some ⟨hb, 0, none⟩)] ++ post.map ptrV := by
    subst hi
    have h1 : (pre ++ x :: post).map ptrV = (pre.map ptrV ++ [ptrV x]) ++ post.map ptrV := by simp
    have h2 : (pre.map ptrV ++ [ptrV x]).length = pre.length + 1 := by simp
    rw [h1, List.take_left' h2, List.drop_left' h2]
    simp [ptrV]
  rw [e1] at hI
  obtain ⟨A', c', rfl, _, _⟩ := hI.1.form
  have keep : ∀ b o, W.heap[b]? = some o → b ≠ g → w3.heap[b]? = W.heap[b]? := by
    intro b o hbo hbn
    have hlt := lt_of hbo
    rw [hI.2.1.block b (by rw [alloc_sz]; exact Nat.lt_succ_of_lt hlt) (by simp [Value.ownBlock]; omega)]
    exact heap_old _ _ hlt
  obtain ⟨_, cg, hcg⟩ := hob g (by simp [ob, Value.ownBlock])
  exact ⟨A', c', rfl, ⟨hI⟩, (keep p _ hp (heap_types hp hcg (by decide))).trans hp, ⟨(keep xb _ hx (heap_types hx hcg (by decide))).symm⟩⟩
set_option maxHeartbeats 4000000 in
set_option maxRecDepth 100000 in
theorem split_calls (w : World) (p : Nat) (lv : Value) (pre post : List Blk) (x : Blk) (hR : IxR w p lv (pre ++ x :: post)) (hx : 24 < x.ms.length) (hs : (marks (pre ++ x :: post)).length ≤ 1000001) (hL : (pre ++ x :: post).length ≤ 2000000) :
    Calls Try.prog 73 #[.pointer (some ⟨p, 0, none⟩), .int .i64 (pre.length : Int)] w (SplitPost w p lv (pre ++ x :: post)) := by
  obtain ⟨g, cap, rfl, hcap, h0, h1, k2, hrow⟩ := hR.head_cells
  obtain ⟨hxi, hb⟩ := found hR rfl
  have hm0 : ∃ u, x.ms[0]? = some u := ⟨x.ms[0], List.getElem?_eq_getElem (by omega)⟩
  obtain ⟨u0, hm0⟩ := hm0
  obtain ⟨g2, c2, hxv, hc2, kc0, kc1, _⟩ := hb.mark hm0
  have kptr := hrow _ _ hxi
  have hil : pre.length < (pre ++ x :: post).length := by simp
  have hxl : x.ms.length ≤ (marks (pre ++ x :: post)).length := by rw [marks_app, marks_cons]; simp; omega
  have hcl := fun c' => clone_p w x g2 c2 c' hb hxv hx (by omega)
  have hcs := cn_le x.ms
  have HR := Lib.hid hR
  have HXV := Lib.hid hxv
  have HB := Lib.hid hb
  have HCL := Lib.hid hcl
  have hc3 : ¬ c2 = 24 := by omega
  have hlen : (x.ms.drop 24).length = x.ms.length - 24 := List.length_drop
  have HLEN := Lib.hid hlen
  have hxl2 : x.ms.length ≤ 1000001 := by omega
  clear hR hrow hxi hm0 hcl h0 h1 hb hxv hs hxl hlen
  generalize hln : x.ms.length = ln at *
  generalize hcsx : cn x.ms = cs at *
  generalize hxb : x.b = xb at *
  generalize hi : pre.length = i at *
  generalize hLL : (pre ++ x :: post).length = LL at *
  have HLN := Lib.hid hln
  have HCS := Lib.hid hcsx
  have HXB := Lib.hid hxb
  have HI := Lib.hid hi
  have HLL := Lib.hid hLL
  clear hln hcsx hxb hi hLL
  go_enter Try.func73, Try.ntmps73
  go_wp2_with (go_at_call 81; refine (HCL.out _).mono ?_; rintro e w1 ⟨g3, c3, rfl, hc3, HC⟩)
  obtain ⟨W1, hW1⟩ : ∃ W1, w1.alloc (.cells #[.slice (some ⟨g3, 0, none⟩) (ln - 24) c3, .int .i64 0] 99) = W1 := ⟨_, rfl⟩
  rw [hW1]
  have hH : W1.heap[w1.heap.size]? = some (.cells #[.slice (some ⟨g3, 0, none⟩) (ln - 24) c3, .int .i64 0] 99 (0, 0)) := by rw [← hW1]; exact heap_new _ _
  have hF1 : Below w.heap.size w W1 := by rw [← hW1]; exact HC.out.2.2.2.alloc HC.out.2.2.2.size _
  have hS1 : SRow W1 4 1 False (.slice (some ⟨g3, 0, none⟩) (ln - 24) c3) (ln - 24) ((x.ms.drop 24).map Value.bool) := by
    refine HC.out.1.keep fun g' hg' => ?_
    rw [← hW1]
    exact heap_old _ _ (HC.out.1.ob_lt g' hg').1
  have hne3 : w1.heap.size ≠ g3 := by have := HC.out.2.2.1; omega
  have hge3 := HC.out.2.1
  have hge1 := HC.out.2.2.2.size
  have HW1 := Lib.hid hW1
  have HH := Lib.hid hH
  have HF1 := Lib.hid hF1
  have HS1 := Lib.hid hS1
  have HG3 := Lib.hid hge3
  have HG1 := Lib.hid hge1
  clear hW1 hH hF1 hS1 hge3 hge1 HC k2 kptr kc0 kc1
  generalize hhb : w1.heap.size = hb at *
  have HHB := Lib.hid hhb
  clear hhb
  generalize hm : ln - 24 = m at *
  have hmb : m ≤ 1000000 := by omega
  have HM := Lib.hid hm
  clear hm
  go_loopw [7, 28] (fun v7 v28 wr => ∃ j : Nat, v28 = .int .i64 (j : Int) ∧ j ≤ m ∧ Aside0 (Fr [hb] W1 wr ∧ wr.heap[hb]? = some (.cells #[.slice (some ⟨g3, 0, none⟩) m c3, .int .i64 (cn ((x.ms.drop 24).take j) : Int)] 99 (0, 0)))) (fun _ v28 _ => m - (intOf v28).toNat)
  case atStart => exact ⟨0, rfl, by omega, ⟨Fr.refl _ _, HH.out⟩⟩
  case round =>
    obtain ⟨j, rfl, hj, HJ⟩ := hrel
    have hcj := cn_le ((x.ms.drop 24).take j)
    rw [List.length_take] at hcj
    have hcj2 : cn ((x.ms.drop 24).take j) ≤ 1000000 := by omega
    have j0 := cell_of HJ.out.2 0
    have j1 := cell_of HJ.out.2 1
    have j2 := free_of HJ.out.2
    simp only [List.getElem?_toArray, List.getElem?_cons_zero, List.getElem?_cons_succ] at j0 j1
    by_cases hlt : j < m
    · have hjl : j < (x.ms.drop 24).length := by rw [HLEN.out]; have := HM.out; have := HLN.out; omega
      obtain ⟨g4, c4, e4, _, hm4⟩ := (HS1.out.keep (w' := wr) fun g' hg' => HJ.out.1.block g' (HS1.out.ob_lt g' hg').1 (by simp [ob, Value.ownBlock] at hg'; simp; omega)).cell1 (i := j) (u := .bool (x.ms.drop 24)[j]) (by rw [List.getElem?_map, List.getElem?_eq_getElem hjl]; rfl)
      injection e4 with e5 e6 e7
      injection e5 with e5
      injection e5 with e5
      subst e5 e7
      clear e6
      have hct := cn_take_succ (x.ms.drop 24) j hjl
      obtain ⟨u, hu⟩ : ∃ u, (x.ms.drop 24)[j] = u := ⟨_, rfl⟩
      rw [hu] at hm4 hct
      generalize cn ((x.ms.drop 24).take j) = s at *
      have hob := oneI_b u
      have hoe : ((cn ((x.ms.drop 24).take (j + 1)) : Nat) : Int) = (s : Int) + oneI u := by rw [hct]; unfold oneI; split <;> simp
      have HOE := Lib.hid hoe
      clear hct hu hcj hoe hjl
      have hw2 : IntKind.i64.wrap ((s : Int) + oneI u) = (s : Int) + oneI u := by rw [IntKind.wrap_i64]; omega
      go_wp2
      go_region_with ((go_at_call 50; refine (one_calls u _).mono ?_; rintro e w' ⟨rfl, rfl⟩))
      all_goals
        go_wp2
        go_roundw
        case rel => exact ⟨j + 1, by go_num, by omega, ⟨(HJ.out.1.trans (Fr.of_set wr ⟨hb, 1, none⟩ _ (by simp)) (fun _ h => .inl h)).trans (Fr.of_drew (F := []) _) (by simp), by rw [HOE.out]; exact (heap_set wr hb 1 _ HJ.out.2).trans rfl⟩⟩
        case measure => simp [intOf]; omega
    · obtain rfl : m = j := by omega
      have hj0 := HJ.out.2
      rw [List.take_of_length_le (by rw [HLEN.out]; have := HM.out; have := HLN.out; omega)] at hj0
      have hcn := cn_le (x.ms.drop 24)
      rw [HLEN.out] at hcn
      have hsum : cs = cn (x.ms.take 24) + cn (x.ms.drop 24) := by rw [← cn_app, List.take_append_drop, HCS.out]
      generalize hch : cn (x.ms.drop 24) = ch at *
      have HCH := Lib.hid hch
      have HSUM := Lib.hid hsum
      clear hch hcj hcj2
      have hch2 : ch ≤ cs := by omega
      clear hsum
      have hcs3 : cs ≤ 1000001 := by omega
      -- what is read of the elder block
      have hbx : wr.heap[xb]? = some (.cells #[.slice (some ⟨g2, 0, none⟩) ln c2, .int .i64 (cs : Int)] 99 (0, 0)) := by
        have h1 := HB.out.1
        rw [HXB.out, HXV.out, HCS.out] at h1
        have hlt := lt_of h1
        have hge := HG1.out
        rw [HJ.out.1.block xb (Nat.lt_of_lt_of_le hlt HF1.out.size) (by simp; omega), HF1.out.block xb hlt]
        exact h1
      have hxh : xb ≠ hb := by
        have h1 := HB.out.1
        rw [HXB.out] at h1
        have hlt := lt_of h1
        have hge := HG1.out
        omega
      have hcap2 : c2 ≤ maxLen := by
        rcases HB.out.2.2 with ⟨h, _⟩ | ⟨_, _, _, h, _, _, h2, _⟩
        · rw [HXV.out] at h; cases h
        · rw [HXV.out] at h
          injection h with _ _ h3
          rw [h3]; exact h2
      have HJX := Lib.hid hj0
      have HBX := Lib.hid hbx
      have HJ1 := Lib.hid HJ.out.1
      replace j0 := cell_of hj0 0
      replace j1 := cell_of hj0 1
      replace j2 := free_of hj0
      have b0 := cell_of hbx 0
      have b1 := cell_of hbx 1
      have b2 := free_of hbx
      simp only [List.getElem?_toArray, List.getElem?_cons_zero, List.getElem?_cons_succ] at j0 j1 b0 b1
      have hw2 : IntKind.i64.wrap ((cs : Int) - (ch : Int)) = (cs : Int) - (ch : Int) := by rw [IntKind.wrap_i64]; omega
      have hclip := fun W => clipB_calls W g2 24 c2 (by omega) hcap2
      have HCLIP := Lib.hid hclip
      have HCAP2 := Lib.hid hcap2
      clear hj0 hbx hclip hcap2 HJ
      have h24 : (24 : Int) ≤ (c2 : Int) := by omega
      go_wp2
      go_cut [] (fun wx => Aside0 (Fr [xb] wr wx ∧ wx.heap[xb]? = some (.cells #[.slice (some ⟨g2, 0, none⟩) 24 24, .int .i64 ((cs : Int) - (ch : Int))] 99 (0, 0))))
      case first =>
        go_region_with ((go_at_call 82; refine (HCLIP.out _).mono ?_; rintro e w' ⟨rfl, rfl⟩))
        all_goals (go_wp2_with fail; go_meet; exact ⟨((Fr.of_set wr ⟨xb, 0, none⟩ _ (by simp)).trans (Fr.of_set (F := [xb]) _ ⟨xb, 1, none⟩ _ (by simp)) (by simp)).trans (Fr.of_drew (F := []) _) (by simp), (heap_set _ xb 1 _ (heap_set wr xb 0 _ HBX.out)).trans rfl⟩)
      case rest =>
        obtain ⟨W7, rfl⟩ : ∃ W7 : World, W7 = wc := ⟨_, rfl⟩
        have hX7 := hcut.out.2
        have hF7 := hcut.out.1
        have hp0 := HR.out.head
        have hps := lt_of hp0
        have hpx : p ≠ xb := by have := heap_types hp0 HB.out.1 (by decide); rw [HXB.out] at this; exact this
        have hge := HG1.out
        have step : ∀ k, k < w.heap.size → k ≠ xb → W7.heap[k]? = w.heap[k]? := by
          intro k hk hkx
          have h1 : k < W1.heap.size := Nat.lt_of_lt_of_le hk HF1.out.size
          rw [hF7.block k (Nat.lt_of_lt_of_le h1 HJ1.out.size) (by simpa using hkx), HJ1.out.block k h1 (by simp; omega), HF1.out.block k hk]
        have hp7 := (step p hps hpx).trans hp0
        have hrow7 : SRow W7 97 1 False (.slice (some ⟨g, 0, none⟩) LL cap) LL ((pre ++ x :: post).map ptrV) := by
          have h1 := HR.out.row
          rw [HLL.out] at h1
          refine h1.keep fun k hk => ?_
          obtain ⟨h2, cs2, h3⟩ := h1.ob_lt k hk
          refine step k h2 ?_
          rw [← HXB.out]
          exact heap_types h3 HB.out.1 (by decide)
        have hput := put_p W7 p hb xb i LL g cap pre post x hrow7 HLL.out HI.out hL hp7 hX7
        have HPUT := Lib.hid hput
        have HX7 := Lib.hid hX7
        have HF7 := Lib.hid hF7
        have HP7 := Lib.hid hp7
        have HSTEP := Lib.hid step
        have p2 := cell_of hp7 2
        simp only [List.getElem?_toArray, List.getElem?_cons_zero, List.getElem?_cons_succ] at p2
        have hw3 : IntKind.i64.wrap ((i : Int) + 1) = (i : Int) + 1 := by rw [IntKind.wrap_i64]; omega
        clear hX7 hF7 hp0 hp7 step hrow7 hput hcut j0 j1 j2 b0 b1 b2
        go_wp2_with (go_at_call 83; refine HPUT.out.mono ?_; rintro e w3 ⟨A', c', rfl, HI3, h3p, h3x⟩; have H3P := Lib.hid h3p; have q2 := cell_of h3p 2; have q3 := free_of h3p; simp only [List.getElem?_toArray, List.getElem?_cons_zero, List.getElem?_cons_succ] at q2; clear h3p)
        go_end0
        obtain ⟨D, hD⟩ : ∃ D, w3.setCell ⟨p, 2, none⟩ (.slice A' (LL + 1) c') = D := ⟨_, rfl⟩
        rw [hD]
        have hI := HI3.out
        have hR0 := HR.out
        have hx0 := HB.out
        have hgw : g < w.heap.size := (hR0.row.ob_lt g (by simp [ob, Value.ownBlock])).1
        obtain ⟨_, cg, hcg⟩ := hR0.row.ob_lt g (by simp [ob, Value.ownBlock])
        have hg2o : g2 ∈ ob x.v := by rw [HXV.out]; simp [ob, Value.ownBlock]
        obtain ⟨hg2w, cg2, hcg2⟩ := hx0.2.ob_lt g2 hg2o
        have hsz7 : w.heap.size ≤ W7.heap.size := Nat.le_trans HF1.out.size (Nat.le_trans HJ1.out.size HF7.out.size)
        have hpw := lt_of hR0.head
        have hpg : p ≠ g := heap_types hR0.head hcg (by decide)
        have hge := HG1.out
        have hge3 := HG3.out
        have chain : ∀ k, k < W7.heap.size → k ≠ g → k ≠ p → D.heap[k]? = W7.heap[k]? := by
          intro k hk h1 h2
          rw [← hD, heap_far _ _ _ h2, hI.2.1.block k (by rw [alloc_sz]; exact Nat.lt_succ_of_lt hk) (by simp [Value.ownBlock]; omega)]
          exact heap_old _ _ hk
        have old : ∀ k, k < w.heap.size → k ≠ xb → k ≠ g → k ≠ p → D.heap[k]? = w.heap[k]? := fun k hk h1 h2 h3 => (chain k (Nat.lt_of_lt_of_le hk hsz7) h2 h3).trans (HSTEP.out k hk h1)
        have hxw : xb < w.heap.size := by have := lt_of hx0.1; rw [HXB.out] at this; exact this
        have hxg : xb ≠ g := by have := heap_types hx0.1 hcg (by decide); rw [HXB.out] at this; exact this
        have hbW1 : hb < W1.heap.size := lt_of HH.out
        have hbW7 : hb < W7.heap.size := Nat.lt_of_lt_of_le hbW1 (Nat.le_trans HJ1.out.size HF7.out.size)
        have hg3W1 : g3 < W1.heap.size := (HS1.out.ob_lt g3 (by simp [ob, Value.ownBlock])).1
        have hg3W7 : g3 < W7.heap.size := Nat.lt_of_lt_of_le hg3W1 (Nat.le_trans HJ1.out.size HF7.out.size)
        have hDb : D.heap[hb]? = some (.cells #[.slice (some ⟨g3, 0, none⟩) m c3, .int .i64 (ch : Int)] 99 (0, 0)) := by
          rw [chain hb hbW7 (by omega) (by omega), HF7.out.block hb (lt_of HJX.out) (by simp; omega)]
          exact HJX.out
        have hD3 : D.heap[g3]? = W1.heap[g3]? := by
          rw [chain g3 hg3W7 (by omega) (by omega), HF7.out.block g3 (Nat.lt_of_lt_of_le hg3W1 HJ1.out.size) (by simp; omega), HJ1.out.block g3 hg3W1 (by simp; omega)]
        have hm3 : (x.ms.drop 24).length = m := HLEN.out
        have hty : ∀ k ∈ fpB pre ++ fpB post, k < w.heap.size ∧ k ≠ xb ∧ k ≠ g ∧ k ≠ p := by
          intro k hk
          obtain ⟨n1, n2, n3⟩ := hR0.others k (by rw [List.mem_append]; exact .inr hk)
          have hk2 : k ∈ fpB (pre ++ x :: post) := by
            rw [fpB_app, fpB_cons]
            rcases List.mem_append.1 hk with h1 | h1 <;> simp [h1]
          obtain ⟨cs2, t2, h2, h3⟩ := hR0.typed k hk2
          exact ⟨lt_of h2, by rw [← HXB.out]; exact n2, heap_types h2 hcg (by rcases h3 with rfl | rfl <;> decide), n1⟩
        have hob1 : ob (Value.slice (some ⟨g2, 0, none⟩) 24 24) = ob x.v := by rw [HXV.out]; rfl
        have hal := hR0.halve (D := D) (v' := .slice A' (LL + 1) c') (x1 := ⟨x.b, .slice (some ⟨g2, 0, none⟩) 24 24, x.ms.take 24⟩) (x2 := ⟨hb, .slice (some ⟨g3, 0, none⟩) m c3, x.ms.drop 24⟩) rfl (List.take_append_drop _ _) hob1
          (by rw [← hD]; exact (heap_set w3 p 2 _ H3P.out).trans rfl)
          (by
            have e1 : ((pre ++ (⟨x.b, .slice (some ⟨g2, 0, none⟩) 24 24, x.ms.take 24⟩ : Blk) :: (⟨hb, .slice (some ⟨g3, 0, none⟩) m c3, x.ms.drop 24⟩ : Blk) :: post).map ptrV) = pre.map ptrV ++ [.pointer (some ⟨x.b, 0, none⟩), .pointer (some ⟨hb, 0, none⟩)] ++ post.map ptrV := by simp [ptrV]
            rw [e1, HLL.out]
            refine hI.1.keep fun k hk => ?_
            obtain ⟨_, c5, h5⟩ := hI.1.ob_lt k hk
            rw [← hD]
            exact heap_far _ _ _ (heap_types h5 H3P.out (by decide)))
          (by
            refine ⟨?_, ?_⟩
            · show D.heap[x.b]? = some (.cells #[.slice (some ⟨g2, 0, none⟩) 24 24, .int .i64 (cn (x.ms.take 24) : Int)] 99 (0, 0))
              rw [HXB.out, chain xb (Nat.lt_of_lt_of_le hxw hsz7) hxg (Ne.symm hpx), HX7.out]
              have := HSUM.out
              rw [show (cs : Int) - (ch : Int) = (cn (x.ms.take 24) : Int) by omega]
            · show SRow D 4 1 False (.slice (some ⟨g2, 0, none⟩) 24 24) (x.ms.take 24).length ((x.ms.take 24).map Value.bool)
              have hl24 : (x.ms.take 24).length = 24 := by rw [List.length_take, HLN.out]; omega
              rcases (srow1.1 hx0.2).2 with ⟨h, _⟩ | ⟨g5, c5, cur, h5, h6, h7, h8, h9, _, h10⟩
              · rw [HXV.out] at h; cases h
              · rw [HXV.out] at h5
                injection h5 with h5 _ _
                injection h5 with h5
                injection h5 with h5
                subst h5
                rw [hl24]
                refine srow1.2 ⟨by rw [List.length_map, hl24], .inr ⟨g2, 24, cur, rfl, ?_, Nat.le_refl _, by unfold maxLen; omega, by have := HLN.out; omega, fun h => h.elim, ?_⟩⟩
                · rw [old g2 hg2w (by rw [← HXB.out]; exact heap_types h6 hx0.1 (by decide)) (heap_types h6 hcg (by decide)) (heap_types h6 hR0.head (by decide))]
                  exact h6
                · rw [List.map_take, ← h10, List.take_take, Nat.min_eq_left (by rw [HLN.out]; omega)])
          (by
            refine ⟨?_, ?_⟩
            · show D.heap[hb]? = some (.cells #[.slice (some ⟨g3, 0, none⟩) m c3, .int .i64 (cn (x.ms.drop 24) : Int)] 99 (0, 0))
              rw [hDb, HCH.out]
            · show SRow D 4 1 False (.slice (some ⟨g3, 0, none⟩) m c3) (x.ms.drop 24).length ((x.ms.drop 24).map Value.bool)
              rw [hm3]
              refine HS1.out.keep fun k hk => ?_
              have : k = g3 := by simp [ob, Value.ownBlock] at hk; omega
              rw [this]; exact hD3)
          (by omega) (by intro k hk; have : k = g3 := (by simp [ob, Value.ownBlock] at hk; omega); rw [this]; exact ⟨hge3, Ne.symm hne3⟩)
          (fun k hk => by obtain ⟨a1, a2, a3, a4⟩ := hty k hk; exact old k a1 a2 a3 a4)
        refine ⟨rfl, _, _, hal.1, hal.2, by simp; omega, ?_, ?_⟩
        · have same : ∀ (F : List Nat), ∀ y ∈ F, y ∈ F ∨ w.heap.size ≤ y := fun _ _ h => .inl h
          have g1 : Fr (fpI p (.slice (some ⟨g, 0, none⟩) LL cap) (pre ++ x :: post)) w W1 := Fr.of_below HF1.out
          have g4 := ((g1.trans HJ1.out fun y hy => by rw [List.mem_singleton] at hy; right; omega).trans HF7.out fun y hy => by rw [List.mem_singleton] at hy; exact .inl (mem_fpI.2 (.inr (.inr (.inr (.inl (by rw [hy, HXB.out]))))))).trans (Fr.of_alloc W7 (.cells #[.pointer (some ⟨hb, 0, none⟩)] 97)) (same _)
          have g5 := g4.trans (Fr.of_grown (F := [g]) hI.2.1 fun k hk => by simp [Value.ownBlock] at hk; simp [hk]) fun y hy => by rw [List.mem_singleton] at hy; exact .inl (mem_fpI.2 (.inr (.inl (by rw [hy]; simp [ob, Value.ownBlock]))))
          rw [← hD]
          exact g5.trans (Fr.of_set (F := [p]) w3 ⟨p, 2, none⟩ _ (by simp)) fun y hy => by rw [List.mem_singleton] at hy; exact .inl (mem_fpI.2 (.inl hy))
        · intro j hj
          rcases mem_fpI.1 hj with h | h | h | h | h | h
          · exact .inl (mem_fpI.2 (.inl h))
          · rcases hI.2.2.1 with h2 | ⟨b, h2, h3⟩
            · left
              refine mem_fpI.2 (.inr (.inl ?_))
              unfold ob at h ⊢
              rw [← h2]; exact h
            · right
              have : j = b := by simp only [ob, h2, Option.toList] at h; simpa using h
              rw [alloc_sz] at h3
              omega
          · exact .inl (mem_fpI.2 (.inr (.inr (.inl h))))
          · exact .inl (mem_fpI.2 (.inr (.inr (.inr (.inl h)))))
          · exact .inl (mem_fpI.2 (.inr (.inr (.inr (.inr (.inl (by rw [← hob1]; exact h)))))))
          · rw [fpB_cons] at h
            rcases List.mem_cons.1 h with h | h
            · right
              have : j = hb := h
              omega
            · rcases List.mem_append.1 h with h | h
              · right
                have : j = g3 := by simp [ob, Value.ownBlock] at h; omega
                omega
              · exact .inl (mem_fpI.2 (.inr (.inr (.inr (.inr (.inr h))))))
end Go.Proofs.Ytefnpalkkhhkfaa.PC
namespace Go.Proofs.Ytefnpalkkhhkfaa.PC
open Go.RowKit Go.Proofs.YtefnpalkkhhkfaaW.PrintWords Go.Proofs.YtefnpalkkhhkfaaW.PrintLast Go.Proofs.YtefnpalkkhhkfaaW.PrintMore Go.Proofs.Ytefnpalkkhhkfaa.K Go.Proofs.Ytefnpalkkhhkfaa.IX
attribute [local go_sem] max2_int min2_int max_two min_two max_three min_three max_four min_four
set_option linter.unusedVariables false
set_option linter.unusedSimpArgs false
/-- find, told in the walk's own words, where a mark is put in. -/
def FoundIns (w : World) (p g LL cap tot : Nat) (L : List Blk) (n : Nat) (e : Ending) (w1 : World) : Prop :=
  ∃ (pre : List Blk) (x : Blk) (post : List Blk) (i k xb cs c nd c2 : Nat) (s : Int) (A : Option Addr), e = .returned (.tuple #[.int .i64 (i : Int), .int .i64 (k : Int), .int .i64 s]) ∧ Aside0 (L = pre ++ x :: post ∧ n = (marks pre).length + k ∧ k ≤ x.ms.length ∧ x.b = xb ∧ cn x.ms = cs ∧ pre.length = i ∧ cn (marks L) = c ∧ x.v = .slice A x.ms.length c2) ∧
    Aside0 (w1 = w.drewN nd) ∧ i < LL ∧ cs ≤ 1000000 ∧ c ≤ 1000000 ∧ p ≠ xb ∧ x.ms.length ≤ 1000000 ∧ k ≤ x.ms.length ∧
    w1.cell? ⟨p, 0, none⟩ = some (.int .i64 (tot : Int)) ∧ w1.cell? ⟨p, 1, none⟩ = some (.int .i64 (c : Int)) ∧ w1.cell? ⟨p, 2, none⟩ = some (.slice (some ⟨g, 0, none⟩) LL cap) ∧ w1.cell? ⟨g, i, none⟩ = some (.pointer (some ⟨xb, 0, none⟩)) ∧ w1.cell? ⟨xb, 0, none⟩ = some x.v ∧ w1.cell? ⟨xb, 1, none⟩ = some (.int .i64 (cs : Int))
theorem find_ins (w : World) (p g cap : Nat) (L : List Blk) (n : Nat) (hR : IxR w p (.slice (some ⟨g, 0, none⟩) L.length cap) L) (hs : (marks L).length ≤ 1000000) (hL : L.length ≤ 1000001) (hn : n ≤ (marks L).length) :
    Calls Try.prog 59 #[.pointer (some ⟨p, 0, none⟩), .int .i64 (n : Int), .bool true] w (FoundIns w p g L.length cap (marks L).length L n) := by
  refine (find_calls w p _ L n true hR hs hL (by rcases Nat.lt_or_ge n (marks L).length with h | h; (exact .inl h); exact .inr ⟨rfl, by omega⟩)).mono ?_
  rintro e w1 ⟨pre, x, post, k, hL2, hat, hk, rfl, nd, rfl⟩
  have hk2 : k ≤ x.ms.length := by rcases hk with h | h <;> omega
  obtain ⟨hx, hb⟩ := found hR hL2
  obtain ⟨g', cap', e, _, h0, h1, h2, hrow⟩ := hR.head_cells
  injection e with e1 e2 e3
  injection e1 with e1
  injection e1 with e1
  subst e1 e3
  obtain ⟨A, c2, hv, hc2, hc0, hc1⟩ := hb.cells
  have hcs := cn_le x.ms
  have hcb := cn_le (marks L)
  have hxl : x.ms.length ≤ (marks L).length := by rw [hL2, marks_app, marks_cons]; simp; omega
  exact ⟨pre, x, post, pre.length, k, x.b, cn x.ms, cn (marks L), nd, c2, _, A, rfl, ⟨hL2, hat, hk2, rfl, rfl, rfl, rfl, hv⟩, ⟨rfl⟩, by rw [hL2]; simp, by omega, by omega, heap_types hR.head hb.1 (by decide), by omega, hk2, h0, h1, h2, hrow _ _ hx, by rw [hv]; exact hc0, hc1⟩
/-- slices.Insert of a mark, told in the walk's own words. -/
def PutB (w1 : World) (p xb tot c cs k : Nat) (lv : Value) (x : Blk) (u : Bool) (e : Ending) (w2 : World) : Prop :=
  ∃ (A' : Option Addr) (c' : Nat), e = .returned (.slice A' (x.ms.length + 1) c') ∧ Aside0 (Ins (w1.alloc (.cells #[.bool u] 4)) 4 1 False x.v (x.ms.length + 1) ((x.ms.take k ++ [u] ++ x.ms.drop k).map Value.bool) (.slice A' (x.ms.length + 1) c') w2) ∧
    w2.heap[xb]? = some (.cells #[x.v, .int .i64 (cs : Int)] 99 (0, 0)) ∧ w2.heap[p]? = some (.cells #[.int .i64 (tot : Int), .int .i64 (c : Int), lv] 79 (0, 0)) ∧ x.ms.length + 1 ≤ c'
theorem put_b (w w1 : World) (nd p k : Nat) (lv : Value) (L : List Blk) (x : Blk) (u : Bool) (hw : w1 = w.drewN nd) (hR : IxR w p lv L) (hx : x ∈ L) (hk : k ≤ x.ms.length) (hl : x.ms.length ≤ 1000000) :
    Calls Try.prog 72 #[x.v, .int .i64 (k : Int), .slice (some ⟨w1.heap.size, 0, none⟩) 1 1] (w1.alloc (.cells #[.bool u] 4)) (PutB w1 p x.b (marks L).length (cn (marks L)) (cn x.ms) k lv x u) := by
  subst hw
  have hb := hR.blk x hx
  have hob := hb.2.ob_lt
  have hne : x.v.ownBlock ≠ some (w.drewN nd).heap.size := by
    intro e
    have := (hob (w.drewN nd).heap.size (by simp [ob, e])).1
    simp at this
  have hs : SRow ((w.drewN nd).alloc (.cells #[.bool u] 4)) 4 1 False x.v x.ms.length (x.ms.map Value.bool) := by
    refine hb.2.keep fun g hg => ?_
    exact Below.heap_alloc _ _ _ (hob g hg).1
  refine (insB_calls _ False x.v x.ms.length k (w.drewN nd).heap.size (x.ms.map Value.bool) [.bool u] hs hk (by exact heap_new _ _) hne rfl (by simp [Value.oneCell']) (by intro v hv; obtain ⟨b, _, rfl⟩ := List.mem_map.1 hv; rfl) (by omega)).mono ?_
  rintro e w2 ⟨v', rfl, hI⟩
  have e1 : ((x.ms.map Value.bool).take k ++ [Value.bool u] ++ (x.ms.map Value.bool).drop k) = (x.ms.take k ++ [u] ++ x.ms.drop k).map Value.bool := by simp [List.map_take, List.map_drop]
  rw [e1] at hI
  obtain ⟨A', c', rfl, hc', _⟩ := hI.1.form
  have keep : ∀ b o, w.heap[b]? = some o → b ∉ ob x.v → w2.heap[b]? = some o := by
    intro b o hbo hbn
    have hlt := lt_of hbo
    rw [hI.2.1.block b (by rw [alloc_sz]; exact Nat.lt_succ_of_lt hlt) (fun h => hbn (by simp [ob, ← h]))]
    exact (Below.heap_alloc _ _ _ hlt).trans hbo
  refine ⟨A', c', rfl, ⟨hI⟩, keep _ _ hb.1 fun hm => ?_, keep _ _ hR.head fun hm => ?_, hc'⟩
  · obtain ⟨_, cs2, hcs2⟩ := hob _ hm
    exact heap_types hb.1 hcs2 (by decide) rfl
  · obtain ⟨_, cs2, hcs2⟩ := hob _ hm
    exact heap_types hR.head hcs2 (by decide) rfl
theorem cn_ins (l : List Bool) (k : Nat) (u : Bool) : (cn (l.take k ++ [u] ++ l.drop k) : Int) = cn l + oneI u := by
  have h : cn l = cn (l.take k) + cn (l.drop k) := by rw [← cn_app, List.take_append_drop]
  rw [cn_app, cn_app, cn_cons, h]
  unfold oneI
  simp only [cn, List.count_nil, Nat.add_zero]
  split <;> omega
theorem drop_found (pre post : List Blk) (x : Blk) (k : Nat) (h : k ≤ x.ms.length) : (marks (pre ++ x :: post)).drop ((marks pre).length + k) = x.ms.drop k ++ marks post := by
  have e : (marks pre).drop ((marks pre).length + k) = [] := List.drop_of_length_le (by omega)
  rw [marks_app, marks_cons, List.drop_append, e, Nat.add_sub_cancel_left, List.drop_append_of_le_length h, List.nil_append]
theorem marks_ins (pre post : List Blk) (x : Blk) (b : Nat) (v : Value) (k : Nat) (u : Bool) (hk : k ≤ x.ms.length) :
    marks (pre ++ ⟨b, v, x.ms.take k ++ [u] ++ x.ms.drop k⟩ :: post) = (marks (pre ++ x :: post)).take ((marks pre).length + k) ++ [u] ++ (marks (pre ++ x :: post)).drop ((marks pre).length + k) := by
  rw [take_found _ _ _ _ hk, drop_found _ _ _ _ hk, marks_app, marks_cons]
  simp
theorem ins_state {w w2 W D : World} {nd p k : Nat} {lv v' : Value} {pre post : List Blk} {x : Blk} {u : Bool} {o : Obj} (hR : IxR w p lv (pre ++ x :: post)) (hk : k ≤ x.ms.length)
    (hI : Ins ((w.drewN nd).alloc o) 4 1 False x.v (x.ms.length + 1) ((x.ms.take k ++ [u] ++ x.ms.drop k).map Value.bool) v' w2)
    (hW : Fr [x.b] w2 W) (hWx : W.heap[x.b]? = some (.cells #[v', .int .i64 ((cn x.ms : Int) + oneI u)] 99 (0, 0))) (hD : Fr [p] W D)
    (hDp : D.heap[p]? = some (.cells #[.int .i64 (((marks (pre ++ x :: post)).length : Int) + 1), .int .i64 ((cn (marks (pre ++ x :: post)) : Int) + oneI u), lv] 79 (0, 0))) :
    IxR D p lv (pre ++ ⟨x.b, v', x.ms.take k ++ [u] ++ x.ms.drop k⟩ :: post) ∧ Fr (fpI p lv (pre ++ x :: post)) w D ∧ (∀ j ∈ fpI p lv (pre ++ ⟨x.b, v', x.ms.take k ++ [u] ++ x.ms.drop k⟩ :: post), j ∈ fpI p lv (pre ++ x :: post) ∨ w.heap.size ≤ j) ∧
      marks (pre ++ ⟨x.b, v', x.ms.take k ++ [u] ++ x.ms.drop k⟩ :: post) = (marks (pre ++ x :: post)).take ((marks pre).length + k) ++ [u] ++ (marks (pre ++ x :: post)).drop ((marks pre).length + k) := by
  have hx := hR.blk x (by simp)
  have hlen : (x.ms.take k ++ [u] ++ x.ms.drop k).length = x.ms.length + 1 := by simp; omega
  have e2 := marks_ins pre post x x.b v' k u hk
  have hlk : (marks pre).length + k ≤ (marks (pre ++ x :: post)).length := by rw [marks_app, marks_cons]; simp; omega
  have same : ∀ (F : List Nat), ∀ y ∈ F, y ∈ F ∨ w.heap.size ≤ y := fun _ _ h => .inl h
  have f2 : Fr (fpI p lv (pre ++ x :: post)) w w2 :=
    ((Fr.of_drewN w nd).trans (Fr.of_alloc _ o) (same _)).trans (Fr.of_grown hI.2.1 fun g hg => mem_fpI.2 (.inr (.inr (.inr (.inr (.inl (by simp [ob, hg]))))))) (same _)
  have f3 : Fr (fpI p lv (pre ++ x :: post)) w W := f2.trans hW fun y hy => by
    rw [List.mem_singleton] at hy
    exact .inl (mem_fpI.2 (.inr (.inr (.inr (.inl hy)))))
  have f4 : Fr (fpI p lv (pre ++ x :: post)) w D := f3.trans hD fun y hy => by
    rw [List.mem_singleton] at hy
    exact .inl (mem_fpI.2 (.inl hy))
  have hnew : ∀ g ∈ ob v', g ∈ ob x.v ∨ w.heap.size ≤ g := by
    intro g hg
    rcases hI.2.2.1 with h | ⟨b, hb, hle⟩
    · left; unfold ob at hg ⊢; rw [← h]; exact hg
    · right
      have : g = b := by simp [ob, hb] at hg; exact hg
      rw [alloc_sz] at hle
      have : (w.drewN nd).heap.size = w.heap.size := rfl
      omega
  have hpx : p ≠ x.b := heap_types hR.head hx.1 (by decide)
  have hv2 := hI.1.ob_lt
  have typ : ∀ g ∈ ob v', g ≠ x.b ∧ g ≠ p := by
    intro g hg
    rcases hnew g hg with h | h
    · obtain ⟨_, cs, hcs⟩ := hx.2.ob_lt g h
      exact ⟨heap_types hcs hx.1 (by decide), heap_types hcs hR.head (by decide)⟩
    · have h1 := lt_of hx.1
      have h2 := lt_of hR.head
      omega
  have hWb : BlkR D ⟨x.b, v', x.ms.take k ++ [u] ++ x.ms.drop k⟩ := by
    refine ⟨?_, ?_⟩
    · show D.heap[x.b]? = some (.cells #[v', .int .i64 (cn (x.ms.take k ++ [u] ++ x.ms.drop k) : Int)] 99 (0, 0))
      rw [hD.block x.b (lt_of hWx) (by simpa using Ne.symm hpx), hWx, cn_ins]
    · show SRow D 4 1 False v' (x.ms.take k ++ [u] ++ x.ms.drop k).length _
      rw [hlen]
      refine hI.1.keep fun g hg => ?_
      have hlt := (hv2 g hg).1
      rw [hD.block g (Nat.lt_of_lt_of_le hlt hW.size) (by simpa using (typ g hg).2), hW.block g hlt (by simpa using (typ g hg).1)]
  refine ⟨hR.put ⟨x.b, v', x.ms.take k ++ [u] ++ x.ms.drop k⟩ rfl ?_ hWb ?_ hnew, f4, ?_, e2⟩
  · rw [e2, hDp]
    have h1 : ((marks (pre ++ x :: post)).take ((marks pre).length + k) ++ [u] ++ (marks (pre ++ x :: post)).drop ((marks pre).length + k)).length = (marks (pre ++ x :: post)).length + 1 := by simp; omega
    rw [h1, cn_ins]
    rfl
  · intro j hj
    obtain ⟨n1, n2, n3⟩ := hR.others j hj
    have hlt : j < w.heap.size := by
      refine hR.lt j (mem_fpI.2 ?_)
      simp only [List.mem_append] at hj
      rcases hj with h | h | h <;> simp [h]
    have h2 : w2.heap[j]? = w.heap[j]? := (hI.2.1.block j (by rw [alloc_sz]; exact Nat.lt_succ_of_lt hlt) (fun h => n3 (by simp [ob, ← h]))).trans (heap_old (w.drewN nd) o hlt)
    rw [hD.block j (Nat.lt_of_lt_of_le hlt (Nat.le_trans f2.size hW.size)) (by simpa using n1), hW.block j (Nat.lt_of_lt_of_le hlt f2.size) (by simpa using n2), h2]
  · intro j hj
    rcases mem_fpI.1 hj with h | h | h | h | h | h
    · exact .inl (mem_fpI.2 (.inl h))
    · exact .inl (mem_fpI.2 (.inr (.inl h)))
    · exact .inl (mem_fpI.2 (.inr (.inr (.inl h))))
    · exact .inl (mem_fpI.2 (.inr (.inr (.inr (.inl h)))))
    · rcases hnew j h with h | h
      · exact .inl (mem_fpI.2 (.inr (.inr (.inr (.inr (.inl h))))))
      · exact .inr h
    · exact .inl (mem_fpI.2 (.inr (.inr (.inr (.inr (.inr h))))))
/-- What Insert does. -/
def InsPost (w : World) (p : Nat) (lv : Value) (L : List Blk) (n : Nat) (u : Bool) (e : Ending) (w' : World) : Prop :=
  e = .returned (.bool true) ∧ ∃ lv' L', IxR w' p lv' L' ∧ marks L' = (marks L).take n ++ [u] ++ (marks L).drop n ∧ L'.length ≤ L.length + 1 ∧ Fr (fpI p lv L) w w' ∧ ∀ j ∈ fpI p lv' L', j ∈ fpI p lv L ∨ w.heap.size ≤ j
set_option maxHeartbeats 4000000 in
set_option maxRecDepth 100000 in
theorem ins_walk (w : World) (p g cap : Nat) (L : List Blk) (n : Nat) (u : Bool) (hR : IxR w p (.slice (some ⟨g, 0, none⟩) L.length cap) L) (hs : (marks L).length ≤ 1000000) (hL : L.length ≤ 1000001) (hn : n ≤ (marks L).length) :
    Calls Try.prog 58 #[.pointer (some ⟨p, 0, none⟩), .int .i64 (n : Int), .bool u] w (InsPost w p (.slice (some ⟨g, 0, none⟩) L.length cap) L n u) := by
  have hf := find_ins w p g cap L n hR hs hL hn
  have hu := oneI_b u
  have h0 : w.cell? ⟨p, 0, none⟩ = some (.int .i64 ((marks L).length : Int)) := by rw [cell_of hR.head]; rfl
  have hcap : L.length ≤ cap := by
    obtain ⟨_, _, e, hcap, _⟩ := hR.head_cells
    injection e with _ _ e3
    rw [e3]; exact hcap
  have HR := Lib.hid hR
  generalize htot : (marks L).length = tot at *
  generalize hLL : L.length = LL at *
  have hf2 : Calls Try.prog 59 #[.pointer (some ⟨p, 0, none⟩), .int .i64 (n : Int), .bool true] w (FoundIns w p g LL cap tot L n) := hf
  have HF := Lib.hid hf2
  have HT := Lib.hid htot
  have HLL := Lib.hid hLL
  clear hf hf2 hR htot hLL
  have hd1 : decide ((n : Int) < 0) = false := by simp
  have hd2 : decide (tot < n) = false := by simpa using hn
  go_enter Try.func58, Try.ntmps58
  go_wp2_with (first
    | (go_at_call 59; refine HF.out.mono ?_; rintro e w1 ⟨pre, x, post, i, k, xb, cs, c, nd, c2, s, A, rfl, HX, HW, hil, hcs, hcb, hpx, hln, hk, k0, k1, k2, kptr, kc0, kc1⟩; have hw1 : IntKind.i64.wrap ((cs : Int) + oneI u) = (cs : Int) + oneI u := (by rw [IntKind.wrap_i64]; omega); have hw2 : IntKind.i64.wrap ((c : Int) + oneI u) = (c : Int) + oneI u := (by rw [IntKind.wrap_i64]; omega); have hw3 : IntKind.i64.wrap ((tot : Int) + 1) = (tot : Int) + 1 := (by rw [IntKind.wrap_i64]; omega))
    | (go_at_call 72; refine (put_b w w1 nd p k _ L x u HW.out HR.out (by rw [HX.out.1]; simp) hk hln).mono ?_; rintro e w2 ⟨A', c', rfl, HI, hb1, hb2, hc'⟩; rw [HX.out.2.2.2.1, HX.out.2.2.2.2.1] at hb1; rw [HT.out, HX.out.2.2.2.2.2.2.1] at hb2; have HB1 := Lib.hid hb1; have HB2 := Lib.hid hb2; have j0 := cell_of hb1 0; have j1 := cell_of hb1 1; have j2 := free_of hb1; have i0 := cell_of hb2 0; have i1 := cell_of hb2 1; have i2 := cell_of hb2 2; have i3 := free_of hb2; simp only [List.getElem?_toArray, List.getElem?_cons_zero, List.getElem?_cons_succ] at j0 j1 i0 i1 i2; clear hb1 hb2))
  obtain ⟨W, hW⟩ : ∃ W, w2.setCell ⟨xb, 0, none⟩ (.slice A' (x.ms.length + 1) c') = W := ⟨_, rfl⟩
  rw [hW]
  have hb1 : W.heap[xb]? = some (.cells #[.slice A' (x.ms.length + 1) c', .int .i64 (cs : Int)] 99 (0, 0)) := by rw [← hW, heap_set _ _ _ _ HB1.out]; rfl
  have hb2 : W.heap[p]? = some (.cells #[.int .i64 (tot : Int), .int .i64 (c : Int), .slice (some ⟨g, 0, none⟩) LL cap] 79 (0, 0)) := by rw [← hW, heap_far _ _ _ hpx]; exact HB2.out
  have HW1 := Lib.hid hW
  have HC1 := Lib.hid hb1
  have HC2 := Lib.hid hb2
  replace j0 := cell_of hb1 0
  replace j1 := cell_of hb1 1
  replace j2 := free_of hb1
  replace i0 := cell_of hb2 0
  replace i1 := cell_of hb2 1
  replace i2 := cell_of hb2 2
  replace i3 := free_of hb2
  simp only [List.getElem?_toArray, List.getElem?_cons_zero, List.getElem?_cons_succ] at j0 j1 i0 i1 i2
  clear hW hb1 hb2 k0 k1 k2 kptr kc0 kc1 h0
  go_cut [] (fun wx => Aside0 (Fr [xb] W wx ∧ wx.heap[xb]? = some (.cells #[.slice A' (x.ms.length + 1) c', .int .i64 ((cs : Int) + oneI u)] 99 (0, 0))))
  case first =>
    go_region_with ((go_at_call 50; refine (one_calls u _).mono ?_; rintro e w' ⟨rfl, rfl⟩))
    all_goals (go_wp2_with fail; go_meet; exact ⟨(Fr.of_set W ⟨xb, 1, none⟩ _ (by simp)).trans (Fr.of_drew (F := []) _) (by simp), (heap_set W xb 1 _ HC1.out).trans rfl⟩)
  case rest =>
    obtain ⟨W6, rfl⟩ : ∃ W6 : World, W6 = wc := ⟨_, rfl⟩
    have hb1 := hcut.out.2
    have hb2 : W6.heap[p]? = some (.cells #[.int .i64 (tot : Int), .int .i64 (c : Int), .slice (some ⟨g, 0, none⟩) LL cap] 79 (0, 0)) := (hcut.out.1.block p (lt_of HC2.out) (by simpa using hpx)).trans HC2.out
    have HC3 := Lib.hid hb1
    have HC4 := Lib.hid hb2
    have HF6 := Lib.hid hcut.out.1
    replace j0 := cell_of hb1 0
    replace j1 := cell_of hb1 1
    replace j2 := free_of hb1
    replace i0 := cell_of hb2 0
    replace i1 := cell_of hb2 1
    replace i2 := cell_of hb2 2
    replace i3 := free_of hb2
    simp only [List.getElem?_toArray, List.getElem?_cons_zero, List.getElem?_cons_succ] at j0 j1 i0 i1 i2
    clear hb1 hb2 hcut
    go_wp2
    go_cut [] (fun wx => Aside0 (Fr [p] W6 wx ∧ wx.heap[p]? = some (.cells #[.int .i64 ((tot : Int) + 1), .int .i64 ((c : Int) + oneI u), .slice (some ⟨g, 0, none⟩) LL cap] 79 (0, 0))))
    case first =>
      go_region_with ((go_at_call 50; refine (one_calls u _).mono ?_; rintro e w' ⟨rfl, rfl⟩))
      all_goals (go_wp2_with fail; go_meet; exact ⟨((Fr.of_set W6 ⟨p, 0, none⟩ _ (by simp)).trans (Fr.of_set (F := [p]) _ ⟨p, 1, none⟩ _ (by simp)) (by simp)).trans (Fr.of_drew (F := []) _) (by simp), (heap_set _ p 1 _ (heap_set W6 p 0 _ HC4.out)).trans rfl⟩)
    case rest =>
      have hp7 := hcut.out.2
      have hx7 : wc.heap[xb]? = some (.cells #[.slice A' (x.ms.length + 1) c', .int .i64 ((cs : Int) + oneI u)] 99 (0, 0)) := (hcut.out.1.block xb (lt_of HC3.out) (by simpa using Ne.symm hpx)).trans HC3.out
      have HF7 := hcut.out.1
      have hst : ∃ L', IxR wc p (.slice (some ⟨g, 0, none⟩) LL cap) (pre ++ ⟨xb, .slice A' (x.ms.length + 1) c', x.ms.take k ++ [u] ++ x.ms.drop k⟩ :: post) ∧ Fr (fpI p (.slice (some ⟨g, 0, none⟩) LL cap) L) w wc ∧
          (∀ j ∈ fpI p (.slice (some ⟨g, 0, none⟩) LL cap) (pre ++ ⟨xb, .slice A' (x.ms.length + 1) c', x.ms.take k ++ [u] ++ x.ms.drop k⟩ :: post), j ∈ fpI p (.slice (some ⟨g, 0, none⟩) LL cap) L ∨ w.heap.size ≤ j) ∧
          marks (pre ++ ⟨xb, .slice A' (x.ms.length + 1) c', x.ms.take k ++ [u] ++ x.ms.drop k⟩ :: post) = (marks L).take n ++ [u] ++ (marks L).drop n ∧ L' = pre ++ ⟨xb, .slice A' (x.ms.length + 1) c', x.ms.take k ++ [u] ++ x.ms.drop k⟩ :: post ∧ L'.length = L.length := by
        obtain ⟨q1, q2, q3, q4, q5, q6, q7, q8⟩ := HX.out
        obtain rfl := q1
        have hD : wc.heap[p]? = some (.cells #[.int .i64 (((marks (pre ++ x :: post)).length : Int) + 1), .int .i64 ((cn (marks (pre ++ x :: post)) : Int) + oneI u), .slice (some ⟨g, 0, none⟩) LL cap] 79 (0, 0)) := by rw [HT.out, q7]; exact hp7
        have hI := HI.out
        rw [HW.out] at hI
        have hS : Fr [xb] w2 W6 := by
          have e1 : Fr [xb] w2 W := by rw [← HW1.out]; exact Fr.of_set w2 ⟨xb, 0, none⟩ _ (by simp)
          exact e1.trans HF6.out fun _ h => .inl h
        subst q4 q5
        have e := ins_state (D := wc) HR.out q3 hI hS HC3.out HF7 hD
        exact ⟨_, e.1, e.2.1, e.2.2.1, by rw [e.2.2.2, q2], rfl, by simp⟩
      obtain ⟨L', s1, s2, s3, s4, hL', s5⟩ := hst
      rw [← hL'] at s1 s3 s4
      have hin : i = pre.length := HX.out.2.2.2.2.2.1.symm
      have HS1 := Lib.hid s1
      have HS2 := Lib.hid s2
      have HS3 := Lib.hid s3
      have HS4 := Lib.hid s4
      have HS5 := Lib.hid s5
      have HIN := Lib.hid hin
      have HLP := Lib.hid hL'
      replace j0 := cell_of hx7 0
      simp only [List.getElem?_toArray, List.getElem?_cons_zero, List.getElem?_cons_succ] at j0
      clear j1 j2 i0 i1 i2 i3 hx7 hp7 hcut HF7 s1 s2 s3 s4 s5 hin hL'
      by_cases h48 : x.ms.length + 1 ≤ 48
      · have hd3 : decide ((48 : Int) < ((x.ms.length + 1 : Nat) : Int)) = false := by simp; omega
        go_wp2
        go_ret
        exact ⟨rfl, _, L', HS1.out, HS4.out, by rw [HS5.out]; omega, HS2.out, HS3.out⟩
      · have h48' : 48 < x.ms.length + 1 := by omega
        have hsp := split_calls wc p (.slice (some ⟨g, 0, none⟩) LL cap) pre post ⟨xb, .slice A' (x.ms.length + 1) c', x.ms.take k ++ [u] ++ x.ms.drop k⟩ (by rw [← HLP.out]; exact HS1.out) (by simp; omega) (by rw [← HLP.out, HS4.out]; have := HT.out; simp; omega) (by rw [← HLP.out, HS5.out]; have := HLL.out; omega)
        rw [← HLP.out, ← HIN.out] at hsp
        have HSP := Lib.hid hsp
        clear hsp
        go_wp2_with (go_at_call 73; refine HSP.out.mono ?_; rintro e w' ⟨rfl, hpost⟩; have HP := Lib.hid hpost; clear hpost)
        go_ret
        obtain ⟨lv', L2, t1, t2, t3, t4, t5⟩ := HP.out
        refine ⟨rfl, lv', L2, t1, by rw [t2]; exact HS4.out, by rw [t3, HS5.out]; omega, ?_, ?_⟩
        · exact HS2.out.trans t4 HS3.out
        · intro j hj
          rcases t5 j hj with h | h
          · exact HS3.out j h
          · exact .inr (Nat.le_trans HS2.out.size h)
def insS (ms : List Bool) (a : Int) (u : Bool) : Bool × List Bool := if 0 ≤ a ∧ a ≤ ms.length then (true, ms.take a.toNat ++ [u] ++ ms.drop a.toNat) else (false, ms)
theorem ins_calls (w : World) (F : List Nat) (p : Nat) (ms : List Bool) (a : Int) (u : Bool) (h : Ix w F p ms) (hs : ms.length ≤ 1000000) :
    Calls Try.prog 58 #[.pointer (some ⟨p, 0, none⟩), .int .i64 a, .bool u] w fun e w' => e = .returned (.bool (insS ms a u).1) ∧ ∃ F', Ix w' F' p (insS ms a u).2 ∧ Fr F w w' ∧ ∀ j ∈ F', j ∈ F ∨ w.heap.size ≤ j := by
  obtain ⟨lv, L, hR, rfl, rfl, hLn⟩ := h
  obtain ⟨g, cap, rfl, hcap, h0, h1, h2, hrow⟩ := hR.head_cells
  by_cases hin : 0 ≤ a ∧ a ≤ ((marks L).length : Int)
  · obtain ⟨n, rfl⟩ : ∃ n : Nat, a = n := ⟨a.toNat, by omega⟩
    unfold insS
    rw [if_pos hin, Int.toNat_natCast]
    refine (ins_walk w p g cap L n u hR hs (by omega) (by omega)).mono ?_
    rintro e w' ⟨rfl, lv', L', a1, a2, a3, a4, a5⟩
    refine ⟨rfl, _, ⟨lv', L', a1, a2, rfl, ?_⟩, a4, a5⟩
    have : ((marks L).take n ++ [u] ++ (marks L).drop n).length = (marks L).length + 1 := by simp; omega
    show L'.length ≤ ((marks L).take n ++ [u] ++ (marks L).drop n).length + 1
    omega
  · unfold insS
    rw [if_neg hin]
    have hk : ∀ W, w = W → ∃ F', Ix W F' p (marks L) ∧ Fr (fpI p (.slice (some ⟨g, 0, none⟩) L.length cap) L) w W ∧ ∀ j ∈ F', j ∈ fpI p (.slice (some ⟨g, 0, none⟩) L.length cap) L ∨ w.heap.size ≤ j := by
      rintro W rfl
      exact ⟨_, ⟨_, L, hR, rfl, rfl, hLn⟩, Fr.refl _ _, fun _ h => .inl h⟩
    have HK := Lib.hid hk
    clear hrow hR hk hLn hs
    generalize (marks L).length = tot at *
    by_cases h3 : a < 0
    · clear hin
      go_enter Try.func58, Try.ntmps58
      go_wp2
      go_ret
      exact ⟨rfl, HK.out _ rfl⟩
    · have h4 : (tot : Int) < a := by omega
      clear hin
      go_enter Try.func58, Try.ntmps58
      go_wp2
      go_ret
      exact ⟨rfl, HK.out _ rfl⟩
theorem new_state (w : World) (N : Nat) (hN : w.heap.size = N) :
    Ix (((w.alloc (.cells #[.slice none 0 0, .int .i64 0] 99)).alloc (.cells #[.pointer (some ⟨N, 0, none⟩)] 97)).alloc (.cells #[.int .i64 0, .int .i64 0, .slice (some ⟨N + 1, 0, none⟩) 1 1] 79)) (fpI (N + 1 + 1) (.slice (some ⟨N + 1, 0, none⟩) 1 1) [⟨N, .slice none 0 0, []⟩]) (N + 1 + 1) [] := by
  obtain ⟨A, hA⟩ : ∃ A, w.alloc (.cells #[.slice none 0 0, .int .i64 0] 99) = A := ⟨_, rfl⟩
  obtain ⟨B, hB⟩ : ∃ B, A.alloc (.cells #[.pointer (some ⟨N, 0, none⟩)] 97) = B := ⟨_, rfl⟩
  obtain ⟨C, hC⟩ : ∃ C, B.alloc (.cells #[.int .i64 0, .int .i64 0, .slice (some ⟨N + 1, 0, none⟩) 1 1] 79) = C := ⟨_, rfl⟩
  rw [hA, hB, hC]
  have sA : A.heap.size = N + 1 := by rw [← hA, alloc_sz, hN]
  have sB : B.heap.size = N + 1 + 1 := by rw [← hB, alloc_sz, sA]
  have a0 : A.heap[N]? = some (.cells #[.slice none 0 0, .int .i64 0] 99 (0, 0)) := by rw [← hA, ← hN]; exact heap_new _ _
  have b0 : B.heap[N]? = some (.cells #[.slice none 0 0, .int .i64 0] 99 (0, 0)) := by rw [← hB, heap_old _ _ (by omega)]; exact a0
  have b1 : B.heap[N + 1]? = some (.cells #[.pointer (some ⟨N, 0, none⟩)] 97 (0, 0)) := by rw [← hB, ← sA]; exact heap_new _ _
  have c0 : C.heap[N]? = some (.cells #[.slice none 0 0, .int .i64 0] 99 (0, 0)) := by rw [← hC, heap_old _ _ (by omega)]; exact b0
  have c1 : C.heap[N + 1]? = some (.cells #[.pointer (some ⟨N, 0, none⟩)] 97 (0, 0)) := by rw [← hC, heap_old _ _ (by omega)]; exact b1
  have c2 : C.heap[N + 1 + 1]? = some (.cells #[.int .i64 0, .int .i64 0, .slice (some ⟨N + 1, 0, none⟩) 1 1] 79 (0, 0)) := by rw [← hC, ← sB]; exact heap_new _ _
  refine ⟨.slice (some ⟨N + 1, 0, none⟩) 1 1, [⟨N, .slice none 0 0, []⟩], ⟨c2, ?_, ?_, ?_, by simp⟩, rfl, rfl, by simp⟩
  · exact srow1.2 ⟨rfl, .inr ⟨N + 1, 1, _, rfl, c1, Nat.le_refl _, by unfold maxLen; omega, Nat.le_refl _, fun h => h.elim, rfl⟩⟩
  · intro x hx
    simp at hx
    subst hx
    exact ⟨c0, srow1.2 ⟨rfl, .inl ⟨rfl, rfl⟩⟩⟩
  · simp [fpB, ob, Value.ownBlock]
set_option maxHeartbeats 4000000 in
theorem new_calls (w : World) : Calls Try.prog 44 #[] w fun e w' => ∃ p F, e = .returned (.pointer (some ⟨p, 0, none⟩)) ∧ Ix w' F p [] ∧ Below w.heap.size w w' ∧ ∀ k ∈ F, w.heap.size ≤ k := by
  go_enter Try.func44, Try.ntmps44
  go_wp2
  go_ret
  refine ⟨_, _, rfl, new_state w _ rfl, ?_, ?_⟩
  · exact (((Below.refl _ _).alloc (Nat.le_refl _) _).alloc (by rw [alloc_sz]; omega) _).alloc (by rw [alloc_sz, alloc_sz]; omega) _
  · intro k hk
    simp [fpI, fpB, ob, Value.ownBlock] at hk
    omega
end Go.Proofs.Ytefnpalkkhhkfaa.PC
namespace Go.Proofs.Ytefnpalkkhhkfaa.PC
open Go.RowKit Go.Proofs.YtefnpalkkhhkfaaW.PrintWords Go.Proofs.YtefnpalkkhhkfaaW.PrintLast Go.Proofs.YtefnpalkkhhkfaaW.PrintMore Go.Proofs.Ytefnpalkkhhkfaa.K Go.Proofs.Ytefnpalkkhhkfaa.IX
attribute [local go_sem] max2_int min2_int max_two min_two max_three min_three max_four min_four
set_option linter.unusedVariables false
set_option linter.unusedSimpArgs false
/-- An index that the law made, and nothing that was there has changed. -/
def Ow (w0 w : World) (p : Nat) (ms : List Bool) : Prop := ∃ F, Ix w F p ms ∧ (∀ k ∈ F, w0.heap.size ≤ k) ∧ Below w0.heap.size w0 w
theorem Ow.below {w0 w w' : World} {p : Nat} {ms : List Bool} (h : Ow w0 w p ms) (hb : Below w.heap.size w w') : Ow w0 w' p ms := by
  obtain ⟨F, h1, h2, h3⟩ := h
  exact ⟨F, h1.below hb, h2, below_step h3 hb⟩
theorem Ow.bel {w0 w : World} {p : Nat} {ms : List Bool} (h : Ow w0 w p ms) : Below w0.heap.size w0 w := by
  obtain ⟨F, h1, h2, h3⟩ := h
  exact h3
end Go.Proofs.Ytefnpalkkhhkfaa.PC
namespace Go.Proofs.Ytefnpalkkhhkfaa.K
open Go.RowKit Go.MapKept Go.ChangeMaps
set_option linter.unusedVariables false
set_option linter.unusedSimpArgs false
/-- What a row of pairs tells of a key. -/
def look : List (Int × Int) → Int → Int
  | [], _ => 0
  | e :: m, a => if e.1 = a then e.2 else look m a
def ent (x : (Int × Int) × Nat) : MapEntry := ⟨.int .i64 x.1.1, .int .i64 x.1.2, x.2⟩
def ents (m : List (Int × Int)) : List MapEntry := m.zipIdx.map ent
/-- A map of whole numbers in memory: what it tells of each key (0 of a key that is not there). -/
def IM (w : World) (b : Nat) (f : Int → Int) : Prop :=
  ∃ m : List (Int × Int), w.heap[b]? = some (.map (ents m).toArray m.length) ∧ (m.map (·.1)).Nodup ∧ ∀ a, look m a = f a
def upd (f : Int → Int) (a c : Int) : Int → Int := fun x => if x = a then c else f x
theorem ents_get (m : List (Int × Int)) (j : Nat) : (ents m)[j]? = (m[j]?).map fun e => ent (e, j) := by
  unfold ents
  rw [List.getElem?_map, List.getElem?_zipIdx]
  cases m[j]? <;> simp
theorem ents_len (m : List (Int × Int)) : (ents m).length = m.length := by simp [ents]
theorem look_none (m : List (Int × Int)) (a : Int) (h : ∀ e ∈ m, e.1 ≠ a) : look m a = 0 := by
  induction m with
  | nil => rfl
  | cons e m ih => rw [look, if_neg (h e (by simp)), ih (fun x hx => h x (by simp [hx]))]
theorem look_at (m : List (Int × Int)) (j : Nat) (e : Int × Int) (hn : (m.map (·.1)).Nodup) (h : m[j]? = some e) : look m e.1 = e.2 := by
  induction m generalizing j with
  | nil => simp at h
  | cons x m ih =>
    rw [List.map_cons, List.nodup_cons] at hn
    cases j with
    | zero => simp at h; subst h; simp [look]
    | succ j =>
      simp at h
      have hne : x.1 ≠ e.1 := fun q => hn.1 (by rw [q]; exact List.mem_map.2 ⟨e, List.mem_of_getElem? h, rfl⟩)
      rw [look, if_neg hne]
      exact ih j hn.2 h
theorem look_snoc (m : List (Int × Int)) (a c x : Int) (h : ∀ e ∈ m, e.1 ≠ a) : look (m ++ [(a, c)]) x = upd (look m) a c x := by
  induction m with
  | nil =>
    simp only [List.nil_append, look, upd]
    by_cases hx : x = a
    · simp [hx]
    · rw [if_neg hx, if_neg (fun q => hx q.symm)]
  | cons e m ih =>
    have he := h e (by simp)
    have ih2 := ih (fun y hy => h y (by simp [hy]))
    simp only [List.cons_append, look, ih2, upd]
    by_cases hx : e.1 = x
    · rw [if_pos hx, if_pos hx, if_neg (fun q => he (hx.trans q))]
    · rw [if_neg hx, if_neg hx]
theorem look_set (m : List (Int × Int)) (j : Nat) (e : Int × Int) (c x : Int) (hn : (m.map (·.1)).Nodup) (h : m[j]? = some e) : look (m.set j (e.1, c)) x = upd (look m) e.1 c x := by
  induction m generalizing j with
  | nil => simp at h
  | cons y m ih =>
    rw [List.map_cons, List.nodup_cons] at hn
    cases j with
    | zero =>
      simp at h; subst h
      simp only [List.set_cons_zero, look, upd]
      by_cases hx : y.1 = x
      · rw [if_pos hx, if_pos hx.symm]
      · rw [if_neg hx, if_neg (fun q => hx q.symm), if_neg hx]
    | succ j =>
      simp at h
      have hne : y.1 ≠ e.1 := fun q => hn.1 (by rw [q]; exact List.mem_map.2 ⟨e, List.mem_of_getElem? h, rfl⟩)
      simp only [List.set_cons_succ, look, ih j hn.2 h, upd]
      by_cases hx : y.1 = x
      · rw [if_pos hx, if_pos hx, if_neg (fun q => hne (hx.trans q))]
      · rw [if_neg hx, if_neg hx]
section
variable {P : Program} {w : World} {b : Nat} {f : Int → Int} {mt kt et : TypeId}
theorem find_ents (m : List (Int × Int)) (a : Int) (hn : (m.map (·.1)).Nodup) :
    (Instr.findNow (.int .i64) (.int .i64 a) (ents m) 0 = some none ∧ (∀ e ∈ m, e.1 ≠ a) ∧ look m a = 0) ∨
      ∃ j c, Instr.findNow (.int .i64) (.int .i64 a) (ents m) 0 = some (some (j, .int .i64 c)) ∧ m[j]? = some (a, c) ∧ look m a = c := by
  rcases findNow_spec (d := .int .i64) (k := .int .i64 a) rfl (ents m) 0 (fun x hx => by
    obtain ⟨y, _, rfl⟩ := List.mem_map.1 hx
    rfl) with ⟨h1, h2⟩ | ⟨j, e, h1, h2, h3⟩
  · have h4 : ∀ e ∈ m, e.1 ≠ a := fun e he q => by
      obtain ⟨i, hi⟩ := List.getElem?_of_mem he
      refine h2 (ent (e, i)) (List.mem_of_getElem? (i := i) (by rw [ents_get, hi]; rfl)) ?_
      show Value.int .i64 e.1 = _
      rw [q]
    exact .inl ⟨h1, h4, look_none m a h4⟩
  · rw [ents_get] at h2
    obtain ⟨y, hy, rfl⟩ := Option.map_eq_some_iff.1 h2
    have h5 : y.1 = a := by injection h3
    refine .inr ⟨j, y.2, ?_, ?_, ?_⟩
    · rw [h1, Nat.zero_add]; rfl
    · rw [hy, ← h5]
    · rw [← h5]; exact look_at m j y hn hy
theorem IM.look_ (h : IM w b f) (hm : P.underlying mt = some (.map kt et)) (hk : P.underlying kt = some (.int .i64)) (hz : (zeroValue et).run P w = .ok (.int .i64 0) w) (a : Int) :
    (Instr.lookup mt (.map (some b)) (.int .i64 a) false).run P w = .ok (.int .i64 (f a)) w := by
  obtain ⟨m, hb, hn, hf⟩ := h
  rw [← hf]
  rcases find_ents m a hn with ⟨h1, _, h3⟩ | ⟨j, c, h1, _, h3⟩
  · rw [h3]
    simp [Instr.lookup, run_underlying hm, Go.MapKept.run_getObj_map hb, run_checkKey hk (k := .int .i64 a) rfl, run_findKey hk h1, Result.andThen, hz]
  · rw [h3]
    simp [Instr.lookup, run_underlying hm, Go.MapKept.run_getObj_map hb, run_checkKey hk (k := .int .i64 a) rfl, run_findKey hk h1, Result.andThen]
theorem modify_same (m : List (Int × Int)) (j : Nat) (a c : Int) (h : m[j]? = some (a, c)) : (ents m).modify j (fun e => { key := .int .i64 a, val := e.val, born := e.born }) = ents m := by
  apply List.ext_getElem?
  intro i
  rw [List.getElem?_modify]
  by_cases q : j = i
  · subst q
    simp only [ents_get, h, if_true, Option.map_some]
    rfl
  · simp [q]
theorem modify_val (m : List (Int × Int)) (j : Nat) (a v c : Int) (h : m[j]? = some (a, v)) : (ents m).modify j (fun e => { key := e.key, val := .int .i64 c, born := e.born }) = ents (m.set j (a, c)) := by
  have hj := (List.getElem?_eq_some_iff.1 h).1
  apply List.ext_getElem?
  intro i
  rw [List.getElem?_modify]
  simp only [ents_get, List.getElem?_set]
  by_cases q : j = i
  · subst q
    simp only [h, if_true, Option.map_some, hj]
    rfl
  · simp [q]
theorem find_born (m : List (Int × Int)) (j : Nat) (h : j < m.length) : (ents m).toArray.findIdx? (fun e => (e.born : Int) == (j : Int)) = some j := by
  rw [List.findIdx?_toArray, List.findIdx?_eq_some_iff_getElem]
  refine ⟨by rw [ents_len]; exact h, ?_, fun i hi => ?_⟩
  · have e := ents_get m j
    rw [List.getElem?_eq_getElem h, List.getElem?_eq_getElem (by rw [ents_len]; exact h)] at e
    injection e with e
    rw [e]
    simp [ent]
  · have e := ents_get m i
    rw [List.getElem?_eq_getElem (show i < m.length by omega), List.getElem?_eq_getElem (show i < (ents m).length by rw [ents_len]; omega)] at e
    injection e with e
    rw [e]
    simp [ent]
    omega
/-- The entry of a key, laid if it is not there; then what is stored into it. -/
theorem IM.entry (h : IM w b f) (hm : P.underlying mt = some (.map kt et)) (hk : P.underlying kt = some (.int .i64)) (hz : ∀ w, (zeroValue et).run P w = .ok (.int .i64 0) w) (a : Int) :
    ∃ (st : Nat) (o : Obj), (Instr.mapEntry mt (.map (some b)) (.int .i64 a)).run P w = .ok (.tuple #[.int .i64 (f a), .int .i64 (st : Int)]) (setBlock w b o) ∧ (setBlock w b o).heap[b]? = some o ∧
      ∀ (w2 : World) (c : Int), w2.heap[b]? = some o → ∃ o2, (Instr.entryStore mt (.map (some b)) (.int .i64 (st : Int)) (.int .i64 c)).run P w2 = .ok () (setBlock w2 b o2) ∧ IM (setBlock w2 b o2) b (upd f a c) := by
  obtain ⟨m, hb, hn, hf⟩ := h
  have key : ∃ (m1 : List (Int × Int)) (j : Nat) (v : Int), m1[j]? = some (a, v) ∧ v = f a ∧ (m1.map (·.1)).Nodup ∧ (∀ c x, look (m1.set j (a, c)) x = upd f a c x) ∧
      (Instr.mapEntry mt (.map (some b)) (.int .i64 a)).run P w = .ok (.tuple #[.int .i64 v, .int .i64 (j : Int)]) (setBlock w b (.map (ents m1).toArray m1.length)) := by
    rcases find_ents m a hn with ⟨h1, h2, h3⟩ | ⟨j, c, h1, h2, h3⟩
    · refine ⟨m ++ [(a, 0)], m.length, 0, by simp, by rw [← hf, h3], ?_, fun c x => ?_, ?_⟩
      · rw [List.map_append, List.nodup_append]
        refine ⟨hn, by simp, fun x hx y hy q => ?_⟩
        simp at hy
        obtain ⟨e, he, rfl⟩ := List.mem_map.1 hx
        exact h2 e he (q.trans hy)
      · rw [List.set_append_right _ _ (Nat.le_refl _), Nat.sub_self]
        show look (m ++ [(a, c)]) x = _
        rw [look_snoc m a c x h2]
        unfold upd
        rw [hf]
      · have e : ents m ++ [⟨.int .i64 a, .int .i64 0, m.length⟩] = ents (m ++ [(a, 0)]) := by
          simp [ents, List.zipIdx_append, ent]
        simp [Instr.mapEntry, run_underlying hm, Go.MapKept.run_getObj_map hb, run_checkKey hk (k := .int .i64 a) rfl, run_findKey hk h1, Result.andThen, hz, Go.MapKept.run_setObj_map _ hb, e, setBlock, goInt]
    · refine ⟨m, j, c, h2, by rw [← hf, h3], hn, fun c2 x => ?_, ?_⟩
      · rw [look_set m j (a, c) c2 x hn h2]
        unfold upd
        rw [hf]
      · have e1 : (ents m)[j]? = some (ent ((a, c), j)) := by rw [ents_get, h2]; rfl
        simp [Instr.mapEntry, run_underlying hm, Go.MapKept.run_getObj_map hb, run_checkKey hk (k := .int .i64 a) rfl, run_findKey hk h1, Result.andThen, e1, ent, run_keyThatStays (d := .int .i64) (k := .int .i64 a) rfl, Go.MapKept.run_setObj_map _ hb, modify_same m j a c h2, setBlock, goInt]
  obtain ⟨m1, j, v, k1, rfl, k3, k4, k5⟩ := key
  have hj := (List.getElem?_eq_some_iff.1 k1).1
  refine ⟨j, _, k5, heap_setBlock_same hb _, fun w2 c hw2 => ⟨.map (ents (m1.set j (a, c))).toArray m1.length, ?_, m1.set j (a, c), ?_, ?_, k4 c⟩⟩
  · simp [Instr.entryStore, Go.MapKept.run_getObj_map hw2, Result.andThen, asInt, asIntOf, find_born m1 j hj, Go.MapKept.run_setObj_map _ hw2, modify_val m1 j a (f a) c k1, setBlock]
  · rw [heap_setBlock_same hw2]
    simp
  · have e : (m1.set j (a, c)).map (·.1) = m1.map (·.1) := by
      rw [List.map_set]
      apply List.ext_getElem?
      intro i
      rw [List.getElem?_set]
      by_cases q : j = i
      · subst q
        rw [List.getElem?_map, k1]
        simp [hj]
      · simp [q]
    rw [e]
    exact k3
theorem IM.keep {w' : World} (h : IM w b f) (hk : w'.heap[b]? = w.heap[b]?) : IM w' b f := by
  obtain ⟨m, hb, h2⟩ := h
  exact ⟨m, hk.trans hb, h2⟩
theorem IM.lt (h : IM w b f) : b < w.heap.size := by
  obtain ⟨m, hb, h2⟩ := h
  exact (Array.getElem?_eq_some_iff.1 hb).1
theorem IM.ne (h : IM w b f) {k : Nat} {cs : Array Value} {t : TypeId} {fz : Nat × Nat} (hc : w.heap[k]? = some (.cells cs t fz)) : b ≠ k := by
  rintro rfl
  obtain ⟨m, hb, h2⟩ := h
  rw [hb] at hc
  cases hc
theorem IM.new (w : World) : IM (w.alloc (.map #[] 0)) w.heap.size (fun _ => 0) := ⟨[], heap_new w _, List.nodup_nil, fun _ => rfl⟩
end
end Go.Proofs.Ytefnpalkkhhkfaa.K
