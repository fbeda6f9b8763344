/- index.Set comes to what is told of the marks; an index of at most some hundred thousand marks. -/
import Derived.Test.YtbbiocmlicoipaaIX2
import Derived.BigRegion
import Derived.RegionTactic
namespace Go.Proofs.Ytbbiocmlicoipaa.PC
open Go.RowKit Go.Proofs.YtbbiocmlicoipaaW.PrintWords Go.Proofs.YtbbiocmlicoipaaW.PrintLast Go.Proofs.YtbbiocmlicoipaaW.PrintMore Go.Proofs.Ytbbiocmlicoipaa.K Go.Proofs.Ytbbiocmlicoipaa.IX
attribute [local go_sem] max2_int min2_int max_two min_two max_three min_three max_four min_four
set_option linter.unusedVariables false
set_option linter.unusedSimpArgs false
def setS (ms : List Bool) (a : Int) (u : Bool) : Bool × List Bool := if 0 ≤ a ∧ a < ms.length then (true, ms.set a.toNat u) else (false, ms)
theorem one_quiet (b : Bool) (w : World) (n : Nat) : Calls Try.prog 46 #[.bool b] (w.drewN n) fun e w'' => e = .returned (.int .i64 (oneI b)) ∧ ∃ m, w'' = w.drewN m :=
  Calls.quiet_of_same ((one_calls b (w.drewN n)).mono fun _ _ h => ⟨h.1, h.2.symm⟩)
/-- What the walk reads and writes at a mark: its block, the block's row, the index' own block. -/
def AtMark (w : World) (p g LL cap i k g2 c2 xb ln tot c cs : Nat) (o : Bool) : Prop :=
  w.cell? ⟨p, 0, none⟩ = some (.int .i64 (tot : Int)) ∧ w.cell? ⟨p, 1, none⟩ = some (.int .i64 (c : Int)) ∧ w.cell? ⟨p, 2, none⟩ = some (.slice (some ⟨g, 0, none⟩) LL cap) ∧ w.cell? ⟨g, i, none⟩ = some (.pointer (some ⟨xb, 0, none⟩)) ∧
    w.cell? ⟨xb, 0, none⟩ = some (.slice (some ⟨g2, 0, none⟩) ln c2) ∧ w.cell? ⟨xb, 1, none⟩ = some (.int .i64 (cs : Int)) ∧ w.cell? ⟨g2, k, none⟩ = some (.bool o) ∧ (∀ o, w.frozen? ⟨p, o, none⟩ = false) ∧ (∀ o, w.frozen? ⟨xb, o, none⟩ = false) ∧ ∀ o, w.frozen? ⟨g2, o, none⟩ = false
theorem at_mark {w : World} {p g cap : Nat} {L pre post : List Blk} {x : Blk} {k : Nat} (h : IxR w p (.slice (some ⟨g, 0, none⟩) L.length cap) L) (hL : L = pre ++ x :: post) (hk : k < x.ms.length) (nd : Nat) :
    ∃ g2 c2, x.v = .slice (some ⟨g2, 0, none⟩) x.ms.length c2 ∧ x.ms.length ≤ c2 ∧ AtMark (w.drewN nd) p g L.length cap pre.length k g2 c2 x.b x.ms.length (marks L).length (cn (marks L)) (cn x.ms) x.ms[k] ∧ p ≠ x.b ∧ p ≠ g2 ∧ x.b ≠ g2 ∧ ∃ cur, w.heap[g2]? = some (.cells cur 4 (0, 0)) := by
  obtain ⟨g', cap', e, _, h0, h1, h2, hrow⟩ := h.head_cells
  injection e with e1 e2 e3
  injection e1 with e1
  injection e1 with e1
  subst e1 e3
  obtain ⟨hx, hb⟩ := found h hL
  obtain ⟨g2, c2, hv, hc, hc0, hc1, hm⟩ := hb.mark (List.getElem?_eq_getElem hk)
  obtain ⟨_, cur, hcur⟩ := hb.2.ob_lt g2 (by rw [hv]; simp [ob, Value.ownBlock])
  exact ⟨g2, c2, hv, hc, ⟨h0, h1, h2, hrow _ _ hx, hc0, hc1, hm, free_of h.head, free_of hb.1, free_of hcur⟩, heap_types h.head hb.1 (by decide), heap_types h.head hcur (by decide), heap_types hb.1 hcur (by decide), cur, hcur⟩
def SetPost (w : World) (p : Nat) (L : List Blk) (n : Nat) (u : Bool) (e : Ending) (w' : World) : Prop :=
  ∃ (pre : List Blk) (x : Blk) (post : List Blk) (k g2 c2 m : Nat) (hk : k < x.ms.length), L = pre ++ x :: post ∧ n = (marks pre).length + k ∧ x.v = .slice (some ⟨g2, 0, none⟩) x.ms.length c2 ∧ e = .returned (.bool true) ∧
    w' = (((w.drewN m).setCell ⟨g2, k, none⟩ (.bool u)).setCell ⟨x.b, 1, none⟩ (.int .i64 ((cn x.ms : Int) + (oneI u - oneI x.ms[k])))).setCell ⟨p, 1, none⟩ (.int .i64 ((cn (marks L) : Int) + (oneI u - oneI x.ms[k])))
/-- find, told in the walk's own words. -/
def FoundSet (w : World) (p g LL cap tot : Nat) (L : List Blk) (n : Nat) (u : Bool) (e : Ending) (w1 : World) : Prop :=
  ∃ (i k g2 c2 xb ln cs c : Nat) (s oo : Int) (o : Bool), e = .returned (.tuple #[.int .i64 (i : Int), .int .i64 (k : Int), .int .i64 s]) ∧ AtMark w1 p g LL cap i k g2 c2 xb ln tot c cs o ∧ oneI o = oo ∧ i < LL ∧ k < ln ∧ ln ≤ c2 ∧ cs ≤ 1000000 ∧ c ≤ 1000000 ∧ p ≠ xb ∧ p ≠ g2 ∧ xb ≠ g2 ∧
    ∀ m, SetPost w p L n u (.returned (.bool true)) ((((w1.drewN m).setCell ⟨g2, k, none⟩ (.bool u)).setCell ⟨xb, 1, none⟩ (.int .i64 ((cs : Int) + (oneI u - oo)))).setCell ⟨p, 1, none⟩ (.int .i64 ((c : Int) + (oneI u - oo))))
theorem find_set (w : World) (p g cap : Nat) (L : List Blk) (n : Nat) (u : Bool) (hR : IxR w p (.slice (some ⟨g, 0, none⟩) L.length cap) L) (hs : (marks L).length ≤ 1000000) (hL : L.length ≤ 1000001) (hn : n < (marks L).length) :
    Calls Try.prog 44 #[.pointer (some ⟨p, 0, none⟩), .int .i64 (n : Int), .bool false] w (FoundSet w p g L.length cap (marks L).length L n u) := by
  refine (find_calls w p _ L n false hR hs hL (.inl hn)).mono ?_
  rintro e w1 ⟨pre, x, post, k, hL2, hat, hk, rfl, nd, rfl⟩
  replace hk : k < x.ms.length := hk.elim id (fun h => by cases h.1)
  obtain ⟨g2, c2, hxv, hc2, ham, hpx, hpg, hxg, _⟩ := at_mark hR hL2 hk nd
  have hcs := cn_le x.ms
  have hcb := cn_le (marks L)
  have hxl : x.ms.length ≤ (marks L).length := by rw [hL2, marks_app, marks_cons]; simp; omega
  exact ⟨pre.length, k, g2, c2, x.b, x.ms.length, cn x.ms, cn (marks L), _, _, x.ms[k], rfl, ham, rfl, by rw [hL2]; simp, hk, hc2, by omega, by omega, hpx, hpg, hxg, fun m => ⟨pre, x, post, k, g2, c2, nd + m, hk, hL2, hat, hxv, rfl, by rw [World.drewN_drewN]⟩⟩
set_option maxHeartbeats 4000000 in
set_option maxRecDepth 100000 in
theorem set_walk (w : World) (p g cap : Nat) (L : List Blk) (n : Nat) (u : Bool) (hR : IxR w p (.slice (some ⟨g, 0, none⟩) L.length cap) L) (hs : (marks L).length ≤ 1000000) (hL : L.length ≤ 1000001) (hn : n < (marks L).length) :
    Calls Try.prog 22 #[.pointer (some ⟨p, 0, none⟩), .int .i64 (n : Int), .bool u] w (SetPost w p L n u) := by
  have hf := find_set w p g cap L n u hR hs hL hn
  have hu := oneI_b u
  have hq1 := one_quiet u
  have h0 : w.cell? ⟨p, 0, none⟩ = some (.int .i64 ((marks L).length : Int)) := by rw [cell_of hR.head]; rfl
  have hcap : L.length ≤ cap := by
    obtain ⟨_, _, e, hcap, _⟩ := hR.head_cells
    injection e with _ _ e3
    rw [e3]; exact hcap
  generalize (marks L).length = tot at *
  generalize L.length = LL at *
  have hf2 : Calls Try.prog 44 #[.pointer (some ⟨p, 0, none⟩), .int .i64 (n : Int), .bool false] w (FoundSet w p g LL cap tot L n u) := hf
  have HF := Lib.hid hf2
  have HQ1 := Lib.hid hq1
  clear hf hf2 hq1 hR hs
  have hd1 : decide ((n : Int) < 0) = false := by simp
  have hd2 : decide (tot ≤ n) = false := by simpa using hn
  go_enter Try.func22, Try.ntmps22
  go_wp2_with (go_at_call 44; refine HF.out.mono ?_; rintro e w1 ⟨i, k, g2, c2, xb, ln, cs, c, s, oo, o, rfl, ⟨k0, k1, k2, kptr, kc0, kc1, km, kf1, kf2, kf3⟩, hoo, hil, hkl, hlc, hcs, hcb, hpx, hpg, hxg, hfin⟩; have HFIN := Lib.hid hfin; have hob := oneI_b o; have hq2 := one_quiet o; rw [hoo] at hob hq2; have HQ2 := Lib.hid hq2; clear hfin hoo hq2; have hw2 : IntKind.i64.wrap (oneI u - oo) = oneI u - oo := (by rw [IntKind.wrap_i64]; omega); have hw3 : IntKind.i64.wrap ((cs : Int) + (oneI u - oo)) = (cs : Int) + (oneI u - oo) := (by rw [IntKind.wrap_i64]; omega); have hw4 : IntKind.i64.wrap ((c : Int) + (oneI u - oo)) = (c : Int) + (oneI u - oo) := (by rw [IntKind.wrap_i64]; omega))
  go_quiet ((go_at_call 46; first | exact HQ1.out _ _ | exact HQ2.out _ _))
  go_wp2
  go_region
  go_wp2
  go_ret
  exact HFIN.out (nq + 1)
theorem fpB_app (A B : List Blk) : fpB (A ++ B) = fpB A ++ fpB B := List.flatMap_append
theorem fpB_cons (x : Blk) (B : List Blk) : fpB (x :: B) = x.b :: (ob x.v ++ fpB B) := by unfold fpB; rw [List.flatMap_cons]; rfl
theorem IxR.typed {w : World} {p : Nat} {lv : Value} {L : List Blk} (h : IxR w p lv L) : ∀ k ∈ fpB L, ∃ cs t, w.heap[k]? = some (.cells cs t (0, 0)) ∧ (t = 72 ∨ t = 4) := by
  intro k hk
  obtain ⟨x, hx, rfl | hk⟩ := mem_fpB.1 hk
  · exact ⟨_, _, (h.blk x hx).1, .inl rfl⟩
  · obtain ⟨_, cs, hcs⟩ := (h.blk x hx).2.ob_lt k hk
    exact ⟨cs, _, hcs, .inr rfl⟩
theorem IxR.others {w : World} {p : Nat} {lv : Value} {pre post : List Blk} {x : Blk} (h : IxR w p lv (pre ++ x :: post)) : ∀ k ∈ ob lv ++ (fpB pre ++ fpB post), k ≠ p ∧ k ≠ x.b ∧ k ∉ ob x.v := by
  intro k hk
  have hx := h.blk x (by simp)
  rcases List.mem_append.1 hk with hk | hk
  · obtain ⟨_, cs, hcs⟩ := h.row.ob_lt k hk
    refine ⟨heap_types hcs h.head (by decide), heap_types hcs hx.1 (by decide), fun hm => ?_⟩
    obtain ⟨_, cs2, hcs2⟩ := hx.2.ob_lt k hm
    exact heap_types hcs hcs2 (by decide) rfl
  · have hk2 : k ∈ fpB (pre ++ x :: post) := by
      rw [fpB_app, fpB_cons]
      rcases List.mem_append.1 hk with h1 | h1
      · simp [h1]
      · simp [h1]
    obtain ⟨cs, t, hcs, ht⟩ := h.typed k hk2
    refine ⟨heap_types hcs h.head (by rcases ht with rfl | rfl <;> decide), ?_⟩
    have hn := h.nd
    rw [fpB_app, fpB_cons] at hn
    obtain ⟨_, h2, h3⟩ := List.nodup_append.1 hn
    rcases List.mem_append.1 hk with h1 | h1
    · exact ⟨fun e => h3 k h1 x.b (by simp) e, fun hm => h3 k h1 k (by simp [hm]) rfl⟩
    · rw [List.nodup_cons] at h2
      obtain ⟨h4, h5⟩ := h2
      obtain ⟨_, _, h6⟩ := List.nodup_append.1 h5
      exact ⟨fun e => h4 (by rw [← e]; simp [h1]), fun hm => h6 k hm k h1 rfl⟩
theorem ob_nodup (v : Value) : (ob v).Nodup := by
  unfold ob
  cases v.ownBlock <;> simp
theorem IxR.put {w w' : World} {p : Nat} {lv : Value} {pre post : List Blk} {x : Blk} (h : IxR w p lv (pre ++ x :: post)) (x' : Blk) (hb : x'.b = x.b)
    (hhead : w'.heap[p]? = some (.cells #[.int .i64 ((marks (pre ++ x' :: post)).length : Int), .int .i64 (cn (marks (pre ++ x' :: post)) : Int), lv] 34 (0, 0))) (hblk : BlkR w' x')
    (hkeep : ∀ k ∈ ob lv ++ (fpB pre ++ fpB post), w'.heap[k]? = w.heap[k]?) (hnew : ∀ k ∈ ob x'.v, k ∈ ob x.v ∨ w.heap.size ≤ k) : IxR w' p lv (pre ++ x' :: post) := by
  have hlt := h.lt
  have hx := h.blk x (by simp)
  refine ⟨hhead, ?_, fun y hy => ?_, ?_, by simp⟩
  · have e : (pre ++ x' :: post).map ptrV = (pre ++ x :: post).map ptrV := by simp [ptrV, hb]
    rw [e, show (pre ++ x' :: post).length = (pre ++ x :: post).length by simp]
    exact h.row.keep fun k hk => hkeep k (by simp [hk])
  · rcases List.mem_append.1 hy with hy | hy
    · have hyb := h.blk y (by simp [hy])
      exact ⟨(hkeep y.b (by simp only [List.mem_append, mem_fpB]; exact .inr (.inl ⟨y, hy, .inl rfl⟩))).trans hyb.1, hyb.2.keep fun g hg => hkeep g (by simp only [List.mem_append, mem_fpB]; exact .inr (.inl ⟨y, hy, .inr hg⟩))⟩
    · rcases List.mem_cons.1 hy with rfl | hy
      · exact hblk
      · have hyb := h.blk y (by simp [hy])
        exact ⟨(hkeep y.b (by simp only [List.mem_append, mem_fpB]; exact .inr (.inr ⟨y, hy, .inl rfl⟩))).trans hyb.1, hyb.2.keep fun g hg => hkeep g (by simp only [List.mem_append, mem_fpB]; exact .inr (.inr ⟨y, hy, .inr hg⟩))⟩
  · have hn := h.nd
    rw [fpB_app, fpB_cons] at hn ⊢
    obtain ⟨n1, n2, n3⟩ := List.nodup_append.1 hn
    rw [List.nodup_cons] at n2
    obtain ⟨n4, n5⟩ := n2
    obtain ⟨n6, n7, n8⟩ := List.nodup_append.1 n5
    have hold : ∀ k, k ∈ fpB pre ∨ k = x.b ∨ k ∈ fpB post → k < w.heap.size := by
      intro k hk
      refine hlt k ?_
      unfold fpI
      rw [fpB_app, fpB_cons]
      rcases hk with hk | rfl | hk <;> simp [*]
    have hd : ∀ k ∈ ob x'.v, k ∉ fpB pre ∧ k ≠ x.b ∧ k ∉ fpB post := by
      intro k hk
      rcases hnew k hk with h1 | h1
      · exact ⟨fun hm => n3 k hm k (by simp [h1]) rfl, fun e => n4 (by rw [← e]; simp [h1]), fun hm => n8 k h1 k hm rfl⟩
      · exact ⟨fun hm => by have := hold k (.inl hm); omega, fun e => by have := hold k (.inr (.inl e)); omega, fun hm => by have := hold k (.inr (.inr hm)); omega⟩
    rw [hb]
    refine List.nodup_append.2 ⟨n1, List.nodup_cons.2 ⟨fun hm => ?_, List.nodup_append.2 ⟨ob_nodup _, n7, fun a ha b hb2 e => ?_⟩⟩, fun a ha b hb2 e => ?_⟩
    · rcases List.mem_append.1 hm with hm | hm
      · exact (hd _ hm).2.1 rfl
      · exact n4 (by simp [hm])
    · exact (hd a ha).2.2 (by rw [e]; exact hb2)
    · subst e
      rcases List.mem_cons.1 hb2 with rfl | hb2
      · exact n3 _ ha _ (by simp) rfl
      · rcases List.mem_append.1 hb2 with hb2 | hb2
        · exact (hd _ hb2).1 ha
        · exact n3 _ ha _ (by simp [hb2]) rfl
theorem cn_set (l : List Bool) (k : Nat) (u : Bool) (h : k < l.length) : (cn (l.set k u) : Int) = cn l + (oneI u - oneI l[k]) := by
  have e1 : l = l.take k ++ l[k] :: l.drop (k + 1) := by rw [← List.drop_eq_getElem_cons h, List.take_append_drop]
  have e2 : l.set k u = l.take k ++ u :: l.drop (k + 1) := List.set_eq_take_append_cons_drop.trans (by rw [if_pos h])
  have h1 : cn l = cn (l.take k) + ((if l[k] = true then 1 else 0) + cn (l.drop (k + 1))) := by
    conv => lhs; rw [e1]
    rw [cn_app, cn_cons]
  rw [e2, cn_app, cn_cons, h1]
  unfold oneI
  split <;> split <;> omega
theorem marks_set (pre post : List Blk) (x : Blk) (k : Nat) (u : Bool) (h : k < x.ms.length) : marks (pre ++ { x with ms := x.ms.set k u } :: post) = (marks (pre ++ x :: post)).set ((marks pre).length + k) u := by
  rw [marks_app, marks_cons, marks_app, marks_cons, List.set_append_right _ _ (by omega), Nat.add_sub_cancel_left, List.set_append_left _ _ h]
theorem marks_len_set (pre post : List Blk) (x : Blk) (k : Nat) (u : Bool) : (marks (pre ++ { x with ms := x.ms.set k u } :: post)).length = (marks (pre ++ x :: post)).length := by
  rw [marks_app, marks_cons, marks_app, marks_cons]; simp
theorem getE_app (pre post : List Blk) (x : Blk) (k : Nat) (hk : k < x.ms.length) (h2 : (marks pre).length + k < (marks (pre ++ x :: post)).length) : (marks (pre ++ x :: post))[(marks pre).length + k] = x.ms[k] := by
  have := getD_found pre post x k hk
  rw [List.getElem?_eq_getElem h2, List.getElem?_eq_getElem hk] at this
  injection this
theorem set_calls (w : World) (F : List Nat) (p : Nat) (ms : List Bool) (a : Int) (u : Bool) (h : Ix w F p ms) (hs : ms.length ≤ 1000000) :
    Calls Try.prog 22 #[.pointer (some ⟨p, 0, none⟩), .int .i64 a, .bool u] w fun e w' => e = .returned (.bool (setS ms a u).1) ∧ Ix w' F p (setS ms a u).2 ∧ Fr F w w' := by
  obtain ⟨lv, L, hR, rfl, rfl, hLn⟩ := h
  obtain ⟨g, cap, rfl, hcap, h0, h1, h2, hrow⟩ := hR.head_cells
  by_cases hin : 0 ≤ a ∧ a < ((marks L).length : Int)
  · obtain ⟨n, rfl⟩ : ∃ n : Nat, a = n := ⟨a.toNat, by omega⟩
    have hlt : n < (marks L).length := by omega
    unfold setS
    rw [if_pos hin, Int.toNat_natCast]
    refine (set_walk w p g cap L n u hR hs (by omega) hlt).mono ?_
    rintro e w' ⟨pre, x, post, k, g2, c2, m, hk, rfl, rfl, hxv, rfl, rfl⟩
    obtain ⟨g2', c2', hxv', hc2, _, hpx, hpg, hxg, cur, hcur⟩ := at_mark hR rfl hk m
    rw [hxv] at hxv'
    injection hxv' with e1 _ e3
    injection e1 with e1
    injection e1 with e1
    subst e1 e3
    have hoth := hR.others
    have hx := hR.blk x (by simp)
    rw [hxv] at hoth
    have hob : ∀ j, j ∈ ob (.slice (some ⟨g2, 0, none⟩) x.ms.length c2) ↔ j = g2 := by intro j; simp [ob, Value.ownBlock]
    obtain ⟨W0, hW0⟩ : ∃ W0, w.drewN m = W0 := ⟨_, rfl⟩
    have hh : ∀ j : Nat, W0.heap[j]? = w.heap[j]? := fun j => by rw [← hW0]; rfl
    have hf0 : Fr (fpI p (.slice (some ⟨g, 0, none⟩) (pre ++ x :: post).length cap) (pre ++ x :: post)) w W0 := by rw [← hW0]; exact Fr.of_drewN _ _
    rw [hW0]
    have mp : p ∈ fpI p (.slice (some ⟨g, 0, none⟩) (pre ++ x :: post).length cap) (pre ++ x :: post) := by simp [fpI]
    have mx : x.b ∈ fpI p (.slice (some ⟨g, 0, none⟩) (pre ++ x :: post).length cap) (pre ++ x :: post) := by unfold fpI; rw [fpB_app, fpB_cons]; simp
    have mg : g2 ∈ fpI p (.slice (some ⟨g, 0, none⟩) (pre ++ x :: post).length cap) (pre ++ x :: post) := by unfold fpI; rw [fpB_app, fpB_cons, hxv]; simp [hob]
    refine ⟨rfl, ⟨_, pre ++ { x with ms := x.ms.set k u } :: post, hR.put { x with ms := x.ms.set k u } rfl ?_ ⟨?_, ?_⟩ ?_ ?_, marks_set _ _ _ _ _ hk, ?_, ?_⟩, ?_⟩
    · have e1 := heap_set _ p 1 (.int .i64 ((cn (marks (pre ++ x :: post)) : Int) + (oneI u - oneI x.ms[k]))) (((heap_far (W0.setCell ⟨g2, k, none⟩ (.bool u)) ⟨x.b, 1, none⟩ (.int .i64 ((cn x.ms : Int) + (oneI u - oneI x.ms[k]))) hpx).trans (heap_far W0 ⟨g2, k, none⟩ (.bool u) hpg)).trans ((hh p).trans hR.head))
      rw [e1, marks_len_set, marks_set _ _ _ _ _ hk, cn_set _ _ _ hlt, getE_app _ _ _ _ hk hlt]
      rfl
    · have e1 := heap_set _ x.b 1 (.int .i64 ((cn x.ms : Int) + (oneI u - oneI x.ms[k]))) ((heap_far W0 ⟨g2, k, none⟩ (.bool u) hxg).trans ((hh x.b).trans hx.1))
      show ((((W0.setCell _ _).setCell _ _).setCell _ _).heap[x.b]?) = _
      rw [heap_far _ _ _ (Ne.symm hpx), e1, cn_set _ _ _ hk]
      rfl
    · have e1 := heap_set _ g2 k (.bool u) ((hh g2).trans hcur)
      have hsr := srow1.1 hx.2
      rw [hxv] at hsr
      rcases hsr.2 with ⟨h, _⟩ | ⟨g3, cap3, cur3, h3, hg3, hn3, hm3, hs3, _, ht3⟩
      · cases h
      · injection h3 with h3 _ h4
        injection h3 with h3
        injection h3 with h3
        subst h3 h4
        rw [hcur] at hg3
        injection hg3 with hg3
        injection hg3 with hg3
        subst hg3
        refine srow1.2 ⟨by simp, .inr ⟨g2, c2, cur.setIfInBounds k (.bool u), by simpa using hxv, ?_, by simpa using hn3, hm3, by simpa using hs3, fun h => h.elim, ?_⟩⟩
        · rw [heap_far _ _ _ (Ne.symm hpg), heap_far _ _ _ (Ne.symm hxg)]
          exact e1
        · show ((cur.setIfInBounds k (.bool u)).toList).take (x.ms.set k u).length = (x.ms.set k u).map Value.bool
          rw [Array.toList_setIfInBounds, List.length_set, List.take_set, ht3, List.map_set]
    · intro j hj
      obtain ⟨n1, n2, n3⟩ := hoth j hj
      rw [heap_far _ _ _ n1, heap_far _ _ _ n2, heap_far _ _ _ (fun e => n3 ((hob j).2 e)), hh]
    · intro j hj
      exact .inl hj
    · unfold fpI
      rw [fpB_app, fpB_cons, fpB_app, fpB_cons]
      try simp
    · rw [List.length_set]; simpa using hLn
    · exact ((hf0.trans (Fr.of_set W0 ⟨g2, k, none⟩ _ mg) (fun _ h => .inl h)).trans (Fr.of_set _ ⟨x.b, 1, none⟩ _ mx) (fun _ h => .inl h)).trans (Fr.of_set _ ⟨p, 1, none⟩ _ mp) (fun _ h => .inl h)
  · unfold setS
    rw [if_neg hin]
    have hk : ∀ W, w = W → Ix W (fpI p (.slice (some ⟨g, 0, none⟩) L.length cap) L) p (marks L) ∧ Fr (fpI p (.slice (some ⟨g, 0, none⟩) L.length cap) L) w W := by
      rintro W rfl
      exact ⟨⟨_, L, hR, rfl, rfl, hLn⟩, Fr.refl _ _⟩
    have HK := Lib.hid hk
    clear hrow hR hk hLn hs
    generalize (marks L).length = tot at *
    by_cases h3 : a < 0
    · clear hin
      go_enter Try.func22, Try.ntmps22
      go_wp2
      go_ret
      exact ⟨rfl, HK.out _ rfl⟩
    · have h4 : (tot : Int) ≤ a := by omega
      clear hin
      go_enter Try.func22, Try.ntmps22
      go_wp2
      go_ret
      exact ⟨rfl, HK.out _ rfl⟩
end Go.Proofs.Ytbbiocmlicoipaa.PC
