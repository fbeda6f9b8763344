/- index.New and Insert come to what is told of the marks; an index of at most some hundred thousand marks. -/
import Derived.Test.YtbbiocmlicoipaaIX5
import Derived.Deep.RegionWith
import Derived.StillTailTactics
import Derived.Deep.DrawnRows
namespace Go.Proofs.Ytbbiocmlicoipaa.PC
open Go.RowKit Go.Proofs.YtbbiocmlicoipaaW.PrintWords Go.Proofs.YtbbiocmlicoipaaW.PrintLast Go.Proofs.YtbbiocmlicoipaaW.PrintMore Go.Proofs.Ytbbiocmlicoipaa.K Go.Proofs.Ytbbiocmlicoipaa.IX
attribute [local go_sem] max2_int min2_int max_two min_two max_three min_three max_four min_four
set_option linter.unusedVariables false
set_option linter.unusedSimpArgs false
/-- find, told in the walk's own words, where a mark is put in. -/
def FoundIns (w : World) (p g LL cap tot : Nat) (L : List Blk) (n : Nat) (e : Ending) (w1 : World) : Prop :=
  ∃ (pre : List Blk) (x : Blk) (post : List Blk) (i k xb cs c nd c2 : Nat) (s : Int) (A : Option Addr), e = .returned (.tuple #[.int .i64 (i : Int), .int .i64 (k : Int), .int .i64 s]) ∧ Aside0 (L = pre ++ x :: post ∧ n = (marks pre).length + k ∧ k ≤ x.ms.length ∧ x.b = xb ∧ cn x.ms = cs ∧ pre.length = i ∧ cn (marks L) = c ∧ x.v = .slice A x.ms.length c2) ∧
    Aside0 (w1 = w.drewN nd) ∧ i < LL ∧ cs ≤ 1000000 ∧ c ≤ 1000000 ∧ p ≠ xb ∧ x.ms.length ≤ 1000000 ∧ k ≤ x.ms.length ∧
    w1.cell? ⟨p, 0, none⟩ = some (.int .i64 (tot : Int)) ∧ w1.cell? ⟨p, 1, none⟩ = some (.int .i64 (c : Int)) ∧ w1.cell? ⟨p, 2, none⟩ = some (.slice (some ⟨g, 0, none⟩) LL cap) ∧ w1.cell? ⟨g, i, none⟩ = some (.pointer (some ⟨xb, 0, none⟩)) ∧ w1.cell? ⟨xb, 0, none⟩ = some x.v ∧ w1.cell? ⟨xb, 1, none⟩ = some (.int .i64 (cs : Int))
theorem find_ins (w : World) (p g cap : Nat) (L : List Blk) (n : Nat) (hR : IxR w p (.slice (some ⟨g, 0, none⟩) L.length cap) L) (hs : (marks L).length ≤ 1000000) (hL : L.length ≤ 1000001) (hn : n ≤ (marks L).length) :
    Calls Try.prog 44 #[.pointer (some ⟨p, 0, none⟩), .int .i64 (n : Int), .bool true] w (FoundIns w p g L.length cap (marks L).length L n) := by
  refine (find_calls w p _ L n true hR hs hL (by rcases Nat.lt_or_ge n (marks L).length with h | h; (exact .inl h); exact .inr ⟨rfl, by omega⟩)).mono ?_
  rintro e w1 ⟨pre, x, post, k, hL2, hat, hk, rfl, nd, rfl⟩
  have hk2 : k ≤ x.ms.length := by rcases hk with h | h <;> omega
  obtain ⟨hx, hb⟩ := found hR hL2
  obtain ⟨g', cap', e, _, h0, h1, h2, hrow⟩ := hR.head_cells
  injection e with e1 e2 e3
  injection e1 with e1
  injection e1 with e1
  subst e1 e3
  obtain ⟨A, c2, hv, hc2, hc0, hc1⟩ := hb.cells
  have hcs := cn_le x.ms
  have hcb := cn_le (marks L)
  have hxl : x.ms.length ≤ (marks L).length := by rw [hL2, marks_app, marks_cons]; simp; omega
  exact ⟨pre, x, post, pre.length, k, x.b, cn x.ms, cn (marks L), nd, c2, _, A, rfl, ⟨hL2, hat, hk2, rfl, rfl, rfl, rfl, hv⟩, ⟨rfl⟩, by rw [hL2]; simp, by omega, by omega, heap_types hR.head hb.1 (by decide), by omega, hk2, h0, h1, h2, hrow _ _ hx, by rw [hv]; exact hc0, hc1⟩
/-- slices.Insert of a mark, told in the walk's own words. -/
def PutB (w1 : World) (p xb tot c cs k : Nat) (lv : Value) (x : Blk) (u : Bool) (e : Ending) (w2 : World) : Prop :=
  ∃ (A' : Option Addr) (c' : Nat), e = .returned (.slice A' (x.ms.length + 1) c') ∧ Aside0 (Ins (w1.alloc (.cells #[.bool u] 4)) 4 1 False x.v (x.ms.length + 1) ((x.ms.take k ++ [u] ++ x.ms.drop k).map Value.bool) (.slice A' (x.ms.length + 1) c') w2) ∧
    w2.heap[xb]? = some (.cells #[x.v, .int .i64 (cs : Int)] 72 (0, 0)) ∧ w2.heap[p]? = some (.cells #[.int .i64 (tot : Int), .int .i64 (c : Int), lv] 34 (0, 0)) ∧ x.ms.length + 1 ≤ c'
theorem put_b (w w1 : World) (nd p k : Nat) (lv : Value) (L : List Blk) (x : Blk) (u : Bool) (hw : w1 = w.drewN nd) (hR : IxR w p lv L) (hx : x ∈ L) (hk : k ≤ x.ms.length) (hl : x.ms.length ≤ 1000000) :
    Calls Try.prog 45 #[x.v, .int .i64 (k : Int), .slice (some ⟨w1.heap.size, 0, none⟩) 1 1] (w1.alloc (.cells #[.bool u] 4)) (PutB w1 p x.b (marks L).length (cn (marks L)) (cn x.ms) k lv x u) := by
  subst hw
  have hb := hR.blk x hx
  have hob := hb.2.ob_lt
  have hne : x.v.ownBlock ≠ some (w.drewN nd).heap.size := by
    intro e
    have := (hob (w.drewN nd).heap.size (by simp [ob, e])).1
    simp at this
  have hs : SRow ((w.drewN nd).alloc (.cells #[.bool u] 4)) 4 1 False x.v x.ms.length (x.ms.map Value.bool) := by
    refine hb.2.keep fun g hg => ?_
    exact Below.heap_alloc _ _ _ (hob g hg).1
  refine (insB_calls _ False x.v x.ms.length k (w.drewN nd).heap.size (x.ms.map Value.bool) [.bool u] hs hk (by exact heap_new _ _) hne rfl (by simp [Value.oneCell']) (by intro v hv; obtain ⟨b, _, rfl⟩ := List.mem_map.1 hv; rfl) (by omega)).mono ?_
  rintro e w2 ⟨v', rfl, hI⟩
  have e1 : ((x.ms.map Value.bool).take k ++ [Value.bool u] ++ (x.ms.map Value.bool).drop k) = (x.ms.take k ++ [u] ++ x.ms.drop k).map Value.bool := by simp [List.map_take, List.map_drop]
  rw [e1] at hI
  obtain ⟨A', c', rfl, hc', _⟩ := hI.1.form
  have keep : ∀ b o, w.heap[b]? = some o → b ∉ ob x.v → w2.heap[b]? = some o := by
    intro b o hbo hbn
    have hlt := lt_of hbo
    rw [hI.2.1.block b (by rw [alloc_sz]; exact Nat.lt_succ_of_lt hlt) (fun h => hbn (by simp [ob, ← h]))]
    exact (Below.heap_alloc _ _ _ hlt).trans hbo
  refine ⟨A', c', rfl, ⟨hI⟩, keep _ _ hb.1 fun hm => ?_, keep _ _ hR.head fun hm => ?_, hc'⟩
  · obtain ⟨_, cs2, hcs2⟩ := hob _ hm
    exact heap_types hb.1 hcs2 (by decide) rfl
  · obtain ⟨_, cs2, hcs2⟩ := hob _ hm
    exact heap_types hR.head hcs2 (by decide) rfl
theorem cn_ins (l : List Bool) (k : Nat) (u : Bool) : (cn (l.take k ++ [u] ++ l.drop k) : Int) = cn l + oneI u := by
  have h : cn l = cn (l.take k) + cn (l.drop k) := by rw [← cn_app, List.take_append_drop]
  rw [cn_app, cn_app, cn_cons, h]
  unfold oneI
  simp only [cn, List.count_nil, Nat.add_zero]
  split <;> omega
theorem drop_found (pre post : List Blk) (x : Blk) (k : Nat) (h : k ≤ x.ms.length) : (marks (pre ++ x :: post)).drop ((marks pre).length + k) = x.ms.drop k ++ marks post := by
  have e : (marks pre).drop ((marks pre).length + k) = [] := List.drop_of_length_le (by omega)
  rw [marks_app, marks_cons, List.drop_append, e, Nat.add_sub_cancel_left, List.drop_append_of_le_length h, List.nil_append]
theorem marks_ins (pre post : List Blk) (x : Blk) (b : Nat) (v : Value) (k : Nat) (u : Bool) (hk : k ≤ x.ms.length) :
    marks (pre ++ ⟨b, v, x.ms.take k ++ [u] ++ x.ms.drop k⟩ :: post) = (marks (pre ++ x :: post)).take ((marks pre).length + k) ++ [u] ++ (marks (pre ++ x :: post)).drop ((marks pre).length + k) := by
  rw [take_found _ _ _ _ hk, drop_found _ _ _ _ hk, marks_app, marks_cons]
  simp
theorem ins_state {w w2 W D : World} {nd p k : Nat} {lv v' : Value} {pre post : List Blk} {x : Blk} {u : Bool} {o : Obj} (hR : IxR w p lv (pre ++ x :: post)) (hk : k ≤ x.ms.length)
    (hI : Ins ((w.drewN nd).alloc o) 4 1 False x.v (x.ms.length + 1) ((x.ms.take k ++ [u] ++ x.ms.drop k).map Value.bool) v' w2)
    (hW : Fr [x.b] w2 W) (hWx : W.heap[x.b]? = some (.cells #[v', .int .i64 ((cn x.ms : Int) + oneI u)] 72 (0, 0))) (hD : Fr [p] W D)
    (hDp : D.heap[p]? = some (.cells #[.int .i64 (((marks (pre ++ x :: post)).length : Int) + 1), .int .i64 ((cn (marks (pre ++ x :: post)) : Int) + oneI u), lv] 34 (0, 0))) :
    IxR D p lv (pre ++ ⟨x.b, v', x.ms.take k ++ [u] ++ x.ms.drop k⟩ :: post) ∧ Fr (fpI p lv (pre ++ x :: post)) w D ∧ (∀ j ∈ fpI p lv (pre ++ ⟨x.b, v', x.ms.take k ++ [u] ++ x.ms.drop k⟩ :: post), j ∈ fpI p lv (pre ++ x :: post) ∨ w.heap.size ≤ j) ∧
      marks (pre ++ ⟨x.b, v', x.ms.take k ++ [u] ++ x.ms.drop k⟩ :: post) = (marks (pre ++ x :: post)).take ((marks pre).length + k) ++ [u] ++ (marks (pre ++ x :: post)).drop ((marks pre).length + k) := by
  have hx := hR.blk x (by simp)
  have hlen : (x.ms.take k ++ [u] ++ x.ms.drop k).length = x.ms.length + 1 := by simp; omega
  have e2 := marks_ins pre post x x.b v' k u hk
  have hlk : (marks pre).length + k ≤ (marks (pre ++ x :: post)).length := by rw [marks_app, marks_cons]; simp; omega
  have same : ∀ (F : List Nat), ∀ y ∈ F, y ∈ F ∨ w.heap.size ≤ y := fun _ _ h => .inl h
  have f2 : Fr (fpI p lv (pre ++ x :: post)) w w2 :=
    ((Fr.of_drewN w nd).trans (Fr.of_alloc _ o) (same _)).trans (Fr.of_grown hI.2.1 fun g hg => mem_fpI.2 (.inr (.inr (.inr (.inr (.inl (by simp [ob, hg]))))))) (same _)
  have f3 : Fr (fpI p lv (pre ++ x :: post)) w W := f2.trans hW fun y hy => by
    rw [List.mem_singleton] at hy
    exact .inl (mem_fpI.2 (.inr (.inr (.inr (.inl hy)))))
  have f4 : Fr (fpI p lv (pre ++ x :: post)) w D := f3.trans hD fun y hy => by
    rw [List.mem_singleton] at hy
    exact .inl (mem_fpI.2 (.inl hy))
  have hnew : ∀ g ∈ ob v', g ∈ ob x.v ∨ w.heap.size ≤ g := by
    intro g hg
    rcases hI.2.2.1 with h | ⟨b, hb, hle⟩
    · left; unfold ob at hg ⊢; rw [← h]; exact hg
    · right
      have : g = b := by simp [ob, hb] at hg; exact hg
      rw [alloc_sz] at hle
      have : (w.drewN nd).heap.size = w.heap.size := rfl
      omega
  have hpx : p ≠ x.b := heap_types hR.head hx.1 (by decide)
  have hv2 := hI.1.ob_lt
  have typ : ∀ g ∈ ob v', g ≠ x.b ∧ g ≠ p := by
    intro g hg
    rcases hnew g hg with h | h
    · obtain ⟨_, cs, hcs⟩ := hx.2.ob_lt g h
      exact ⟨heap_types hcs hx.1 (by decide), heap_types hcs hR.head (by decide)⟩
    · have h1 := lt_of hx.1
      have h2 := lt_of hR.head
      omega
  have hWb : BlkR D ⟨x.b, v', x.ms.take k ++ [u] ++ x.ms.drop k⟩ := by
    refine ⟨?_, ?_⟩
    · show D.heap[x.b]? = some (.cells #[v', .int .i64 (cn (x.ms.take k ++ [u] ++ x.ms.drop k) : Int)] 72 (0, 0))
      rw [hD.block x.b (lt_of hWx) (by simpa using Ne.symm hpx), hWx, cn_ins]
    · show SRow D 4 1 False v' (x.ms.take k ++ [u] ++ x.ms.drop k).length _
      rw [hlen]
      refine hI.1.keep fun g hg => ?_
      have hlt := (hv2 g hg).1
      rw [hD.block g (Nat.lt_of_lt_of_le hlt hW.size) (by simpa using (typ g hg).2), hW.block g hlt (by simpa using (typ g hg).1)]
  refine ⟨hR.put ⟨x.b, v', x.ms.take k ++ [u] ++ x.ms.drop k⟩ rfl ?_ hWb ?_ hnew, f4, ?_, e2⟩
  · rw [e2, hDp]
    have h1 : ((marks (pre ++ x :: post)).take ((marks pre).length + k) ++ [u] ++ (marks (pre ++ x :: post)).drop ((marks pre).length + k)).length = (marks (pre ++ x :: post)).length + 1 := by simp; omega
    rw [h1, cn_ins]
    rfl
  · intro j hj
    obtain ⟨n1, n2, n3⟩ := hR.others j hj
    have hlt : j < w.heap.size := by
      refine hR.lt j (mem_fpI.2 ?_)
      simp only [List.mem_append] at hj
      rcases hj with h | h | h <;> simp [h]
    have h2 : w2.heap[j]? = w.heap[j]? := (hI.2.1.block j (by rw [alloc_sz]; exact Nat.lt_succ_of_lt hlt) (fun h => n3 (by simp [ob, ← h]))).trans (heap_old (w.drewN nd) o hlt)
    rw [hD.block j (Nat.lt_of_lt_of_le hlt (Nat.le_trans f2.size hW.size)) (by simpa using n1), hW.block j (Nat.lt_of_lt_of_le hlt f2.size) (by simpa using n2), h2]
  · intro j hj
    rcases mem_fpI.1 hj with h | h | h | h | h | h
    · exact .inl (mem_fpI.2 (.inl h))
    · exact .inl (mem_fpI.2 (.inr (.inl h)))
    · exact .inl (mem_fpI.2 (.inr (.inr (.inl h))))
    · exact .inl (mem_fpI.2 (.inr (.inr (.inr (.inl h)))))
    · rcases hnew j h with h | h
      · exact .inl (mem_fpI.2 (.inr (.inr (.inr (.inr (.inl h))))))
      · exact .inr h
    · exact .inl (mem_fpI.2 (.inr (.inr (.inr (.inr (.inr h))))))
/-- What Insert does. -/
def InsPost (w : World) (p : Nat) (lv : Value) (L : List Blk) (n : Nat) (u : Bool) (e : Ending) (w' : World) : Prop :=
  e = .returned (.bool true) ∧ ∃ lv' L', IxR w' p lv' L' ∧ marks L' = (marks L).take n ++ [u] ++ (marks L).drop n ∧ L'.length ≤ L.length + 1 ∧ Fr (fpI p lv L) w w' ∧ ∀ j ∈ fpI p lv' L', j ∈ fpI p lv L ∨ w.heap.size ≤ j
set_option maxHeartbeats 4000000 in
set_option maxRecDepth 100000 in
theorem ins_walk (w : World) (p g cap : Nat) (L : List Blk) (n : Nat) (u : Bool) (hR : IxR w p (.slice (some ⟨g, 0, none⟩) L.length cap) L) (hs : (marks L).length ≤ 1000000) (hL : L.length ≤ 1000001) (hn : n ≤ (marks L).length) :
    Calls Try.prog 16 #[.pointer (some ⟨p, 0, none⟩), .int .i64 (n : Int), .bool u] w (InsPost w p (.slice (some ⟨g, 0, none⟩) L.length cap) L n u) := by
  have hf := find_ins w p g cap L n hR hs hL hn
  have hu := oneI_b u
  have h0 : w.cell? ⟨p, 0, none⟩ = some (.int .i64 ((marks L).length : Int)) := by rw [cell_of hR.head]; rfl
  have hcap : L.length ≤ cap := by
    obtain ⟨_, _, e, hcap, _⟩ := hR.head_cells
    injection e with _ _ e3
    rw [e3]; exact hcap
  have HR := Lib.hid hR
  generalize htot : (marks L).length = tot at *
  generalize hLL : L.length = LL at *
  have hf2 : Calls Try.prog 44 #[.pointer (some ⟨p, 0, none⟩), .int .i64 (n : Int), .bool true] w (FoundIns w p g LL cap tot L n) := hf
  have HF := Lib.hid hf2
  have HT := Lib.hid htot
  have HLL := Lib.hid hLL
  clear hf hf2 hR htot hLL
  have hd1 : decide ((n : Int) < 0) = false := by simp
  have hd2 : decide (tot < n) = false := by simpa using hn
  go_enter Try.func16, Try.ntmps16
  go_wp2_with (first
    | (go_at_call 44; refine HF.out.mono ?_; rintro e w1 ⟨pre, x, post, i, k, xb, cs, c, nd, c2, s, A, rfl, HX, HW, hil, hcs, hcb, hpx, hln, hk, k0, k1, k2, kptr, kc0, kc1⟩; have hw1 : IntKind.i64.wrap ((cs : Int) + oneI u) = (cs : Int) + oneI u := (by rw [IntKind.wrap_i64]; omega); have hw2 : IntKind.i64.wrap ((c : Int) + oneI u) = (c : Int) + oneI u := (by rw [IntKind.wrap_i64]; omega); have hw3 : IntKind.i64.wrap ((tot : Int) + 1) = (tot : Int) + 1 := (by rw [IntKind.wrap_i64]; omega))
    | (go_at_call 45; refine (put_b w w1 nd p k _ L x u HW.out HR.out (by rw [HX.out.1]; simp) hk hln).mono ?_; rintro e w2 ⟨A', c', rfl, HI, hb1, hb2, hc'⟩; rw [HX.out.2.2.2.1, HX.out.2.2.2.2.1] at hb1; rw [HT.out, HX.out.2.2.2.2.2.2.1] at hb2; have HB1 := Lib.hid hb1; have HB2 := Lib.hid hb2; have j0 := cell_of hb1 0; have j1 := cell_of hb1 1; have j2 := free_of hb1; have i0 := cell_of hb2 0; have i1 := cell_of hb2 1; have i2 := cell_of hb2 2; have i3 := free_of hb2; simp only [List.getElem?_toArray, List.getElem?_cons_zero, List.getElem?_cons_succ] at j0 j1 i0 i1 i2; clear hb1 hb2))
  obtain ⟨W, hW⟩ : ∃ W, w2.setCell ⟨xb, 0, none⟩ (.slice A' (x.ms.length + 1) c') = W := ⟨_, rfl⟩
  rw [hW]
  have hb1 : W.heap[xb]? = some (.cells #[.slice A' (x.ms.length + 1) c', .int .i64 (cs : Int)] 72 (0, 0)) := by rw [← hW, heap_set _ _ _ _ HB1.out]; rfl
  have hb2 : W.heap[p]? = some (.cells #[.int .i64 (tot : Int), .int .i64 (c : Int), .slice (some ⟨g, 0, none⟩) LL cap] 34 (0, 0)) := by rw [← hW, heap_far _ _ _ hpx]; exact HB2.out
  have HW1 := Lib.hid hW
  have HC1 := Lib.hid hb1
  have HC2 := Lib.hid hb2
  replace j0 := cell_of hb1 0
  replace j1 := cell_of hb1 1
  replace j2 := free_of hb1
  replace i0 := cell_of hb2 0
  replace i1 := cell_of hb2 1
  replace i2 := cell_of hb2 2
  replace i3 := free_of hb2
  simp only [List.getElem?_toArray, List.getElem?_cons_zero, List.getElem?_cons_succ] at j0 j1 i0 i1 i2
  clear hW hb1 hb2 k0 k1 k2 kptr kc0 kc1 h0
  go_cut [] (fun wx => Aside0 (Fr [xb] W wx ∧ wx.heap[xb]? = some (.cells #[.slice A' (x.ms.length + 1) c', .int .i64 ((cs : Int) + oneI u)] 72 (0, 0))))
  case first =>
    go_region_with ((go_at_call 46; refine (one_calls u _).mono ?_; rintro e w' ⟨rfl, rfl⟩))
    all_goals (go_wp2_with fail; go_meet; exact ⟨(Fr.of_set W ⟨xb, 1, none⟩ _ (by simp)).trans (Fr.of_drew (F := []) _) (by simp), (heap_set W xb 1 _ HC1.out).trans rfl⟩)
  case rest =>
    obtain ⟨W6, rfl⟩ : ∃ W6 : World, W6 = wc := ⟨_, rfl⟩
    have hb1 := hcut.out.2
    have hb2 : W6.heap[p]? = some (.cells #[.int .i64 (tot : Int), .int .i64 (c : Int), .slice (some ⟨g, 0, none⟩) LL cap] 34 (0, 0)) := (hcut.out.1.block p (lt_of HC2.out) (by simpa using hpx)).trans HC2.out
    have HC3 := Lib.hid hb1
    have HC4 := Lib.hid hb2
    have HF6 := Lib.hid hcut.out.1
    replace j0 := cell_of hb1 0
    replace j1 := cell_of hb1 1
    replace j2 := free_of hb1
    replace i0 := cell_of hb2 0
    replace i1 := cell_of hb2 1
    replace i2 := cell_of hb2 2
    replace i3 := free_of hb2
    simp only [List.getElem?_toArray, List.getElem?_cons_zero, List.getElem?_cons_succ] at j0 j1 i0 i1 i2
    clear hb1 hb2 hcut
    go_wp2
    go_cut [] (fun wx => Aside0 (Fr [p] W6 wx ∧ wx.heap[p]? = some (.cells #[.int .i64 ((tot : Int) + 1), .int .i64 ((c : Int) + oneI u), .slice (some ⟨g, 0, none⟩) LL cap] 34 (0, 0))))
    case first =>
      go_region_with ((go_at_call 46; refine (one_calls u _).mono ?_; rintro e w' ⟨rfl, rfl⟩))
      all_goals (go_wp2_with fail; go_meet; exact ⟨((Fr.of_set W6 ⟨p, 0, none⟩ _ (by simp)).trans (Fr.of_set (F := [p]) _ ⟨p, 1, none⟩ _ (by simp)) (by simp)).trans (Fr.of_drew (F := []) _) (by simp), (heap_set _ p 1 _ (heap_set W6 p 0 _ HC4.out)).trans rfl⟩)
    case rest =>
      have hp7 := hcut.out.2
      have hx7 : wc.heap[xb]? = some (.cells #[.slice A' (x.ms.length + 1) c', .int .i64 ((cs : Int) + oneI u)] 72 (0, 0)) := (hcut.out.1.block xb (lt_of HC3.out) (by simpa using Ne.symm hpx)).trans HC3.out
      have HF7 := hcut.out.1
      have hst : ∃ L', IxR wc p (.slice (some ⟨g, 0, none⟩) LL cap) (pre ++ ⟨xb, .slice A' (x.ms.length + 1) c', x.ms.take k ++ [u] ++ x.ms.drop k⟩ :: post) ∧ Fr (fpI p (.slice (some ⟨g, 0, none⟩) LL cap) L) w wc ∧
          (∀ j ∈ fpI p (.slice (some ⟨g, 0, none⟩) LL cap) (pre ++ ⟨xb, .slice A' (x.ms.length + 1) c', x.ms.take k ++ [u] ++ x.ms.drop k⟩ :: post), j ∈ fpI p (.slice (some ⟨g, 0, none⟩) LL cap) L ∨ w.heap.size ≤ j) ∧
          marks (pre ++ ⟨xb, .slice A' (x.ms.length + 1) c', x.ms.take k ++ [u] ++ x.ms.drop k⟩ :: post) = (marks L).take n ++ [u] ++ (marks L).drop n ∧ L' = pre ++ ⟨xb, .slice A' (x.ms.length + 1) c', x.ms.take k ++ [u] ++ x.ms.drop k⟩ :: post ∧ L'.length = L.length := by
        obtain ⟨q1, q2, q3, q4, q5, q6, q7, q8⟩ := HX.out
        obtain rfl := q1
        have hD : wc.heap[p]? = some (.cells #[.int .i64 (((marks (pre ++ x :: post)).length : Int) + 1), .int .i64 ((cn (marks (pre ++ x :: post)) : Int) + oneI u), .slice (some ⟨g, 0, none⟩) LL cap] 34 (0, 0)) := by rw [HT.out, q7]; exact hp7
        have hI := HI.out
        rw [HW.out] at hI
        have hS : Fr [xb] w2 W6 := by
          have e1 : Fr [xb] w2 W := by rw [← HW1.out]; exact Fr.of_set w2 ⟨xb, 0, none⟩ _ (by simp)
          exact e1.trans HF6.out fun _ h => .inl h
        subst q4 q5
        have e := ins_state (D := wc) HR.out q3 hI hS HC3.out HF7 hD
        exact ⟨_, e.1, e.2.1, e.2.2.1, by rw [e.2.2.2, q2], rfl, by simp⟩
      obtain ⟨L', s1, s2, s3, s4, hL', s5⟩ := hst
      rw [← hL'] at s1 s3 s4
      have hin : i = pre.length := HX.out.2.2.2.2.2.1.symm
      have HS1 := Lib.hid s1
      have HS2 := Lib.hid s2
      have HS3 := Lib.hid s3
      have HS4 := Lib.hid s4
      have HS5 := Lib.hid s5
      have HIN := Lib.hid hin
      have HLP := Lib.hid hL'
      replace j0 := cell_of hx7 0
      simp only [List.getElem?_toArray, List.getElem?_cons_zero, List.getElem?_cons_succ] at j0
      clear j1 j2 i0 i1 i2 i3 hx7 hp7 hcut HF7 s1 s2 s3 s4 s5 hin hL'
      by_cases h48 : x.ms.length + 1 ≤ 48
      · have hd3 : decide ((48 : Int) < ((x.ms.length + 1 : Nat) : Int)) = false := by simp; omega
        go_wp2
        go_ret
        exact ⟨rfl, _, L', HS1.out, HS4.out, by rw [HS5.out]; omega, HS2.out, HS3.out⟩
      · have h48' : 48 < x.ms.length + 1 := by omega
        have hsp := split_calls wc p (.slice (some ⟨g, 0, none⟩) LL cap) pre post ⟨xb, .slice A' (x.ms.length + 1) c', x.ms.take k ++ [u] ++ x.ms.drop k⟩ (by rw [← HLP.out]; exact HS1.out) (by simp; omega) (by rw [← HLP.out, HS4.out]; have := HT.out; simp; omega) (by rw [← HLP.out, HS5.out]; have := HLL.out; omega)
        rw [← HLP.out, ← HIN.out] at hsp
        have HSP := Lib.hid hsp
        clear hsp
        go_wp2_with (go_at_call 47; refine HSP.out.mono ?_; rintro e w' ⟨rfl, hpost⟩; have HP := Lib.hid hpost; clear hpost)
        go_ret
        obtain ⟨lv', L2, t1, t2, t3, t4, t5⟩ := HP.out
        refine ⟨rfl, lv', L2, t1, by rw [t2]; exact HS4.out, by rw [t3, HS5.out]; omega, ?_, ?_⟩
        · exact HS2.out.trans t4 HS3.out
        · intro j hj
          rcases t5 j hj with h | h
          · exact HS3.out j h
          · exact .inr (Nat.le_trans HS2.out.size h)
def insS (ms : List Bool) (a : Int) (u : Bool) : Bool × List Bool := if 0 ≤ a ∧ a ≤ ms.length then (true, ms.take a.toNat ++ [u] ++ ms.drop a.toNat) else (false, ms)
theorem ins_calls (w : World) (F : List Nat) (p : Nat) (ms : List Bool) (a : Int) (u : Bool) (h : Ix w F p ms) (hs : ms.length ≤ 1000000) :
    Calls Try.prog 16 #[.pointer (some ⟨p, 0, none⟩), .int .i64 a, .bool u] w fun e w' => e = .returned (.bool (insS ms a u).1) ∧ ∃ F', Ix w' F' p (insS ms a u).2 ∧ Fr F w w' ∧ ∀ j ∈ F', j ∈ F ∨ w.heap.size ≤ j := by
  obtain ⟨lv, L, hR, rfl, rfl, hLn⟩ := h
  obtain ⟨g, cap, rfl, hcap, h0, h1, h2, hrow⟩ := hR.head_cells
  by_cases hin : 0 ≤ a ∧ a ≤ ((marks L).length : Int)
  · obtain ⟨n, rfl⟩ : ∃ n : Nat, a = n := ⟨a.toNat, by omega⟩
    unfold insS
    rw [if_pos hin, Int.toNat_natCast]
    refine (ins_walk w p g cap L n u hR hs (by omega) (by omega)).mono ?_
    rintro e w' ⟨rfl, lv', L', a1, a2, a3, a4, a5⟩
    refine ⟨rfl, _, ⟨lv', L', a1, a2, rfl, ?_⟩, a4, a5⟩
    have : ((marks L).take n ++ [u] ++ (marks L).drop n).length = (marks L).length + 1 := by simp; omega
    show L'.length ≤ ((marks L).take n ++ [u] ++ (marks L).drop n).length + 1
    omega
  · unfold insS
    rw [if_neg hin]
    have hk : ∀ W, w = W → ∃ F', Ix W F' p (marks L) ∧ Fr (fpI p (.slice (some ⟨g, 0, none⟩) L.length cap) L) w W ∧ ∀ j ∈ F', j ∈ fpI p (.slice (some ⟨g, 0, none⟩) L.length cap) L ∨ w.heap.size ≤ j := by
      rintro W rfl
      exact ⟨_, ⟨_, L, hR, rfl, rfl, hLn⟩, Fr.refl _ _, fun _ h => .inl h⟩
    have HK := Lib.hid hk
    clear hrow hR hk hLn hs
    generalize (marks L).length = tot at *
    by_cases h3 : a < 0
    · clear hin
      go_enter Try.func16, Try.ntmps16
      go_wp2
      go_ret
      exact ⟨rfl, HK.out _ rfl⟩
    · have h4 : (tot : Int) < a := by omega
      clear hin
      go_enter Try.func16, Try.ntmps16
      go_wp2
      go_ret
      exact ⟨rfl, HK.out _ rfl⟩
theorem new_state (w : World) (N : Nat) (hN : w.heap.size = N) :
    Ix (((w.alloc (.cells #[.slice none 0 0, .int .i64 0] 72)).alloc (.cells #[.pointer (some ⟨N, 0, none⟩)] 70)).alloc (.cells #[.int .i64 0, .int .i64 0, .slice (some ⟨N + 1, 0, none⟩) 1 1] 34)) (fpI (N + 1 + 1) (.slice (some ⟨N + 1, 0, none⟩) 1 1) [⟨N, .slice none 0 0, []⟩]) (N + 1 + 1) [] := by
  obtain ⟨A, hA⟩ : ∃ A, w.alloc (.cells #[.slice none 0 0, .int .i64 0] 72) = A := ⟨_, rfl⟩
  obtain ⟨B, hB⟩ : ∃ B, A.alloc (.cells #[.pointer (some ⟨N, 0, none⟩)] 70) = B := ⟨_, rfl⟩
  obtain ⟨C, hC⟩ : ∃ C, B.alloc (.cells #[.int .i64 0, .int .i64 0, .slice (some ⟨N + 1, 0, none⟩) 1 1] 34) = C := ⟨_, rfl⟩
  rw [hA, hB, hC]
  have sA : A.heap.size = N + 1 := by rw [← hA, alloc_sz, hN]
  have sB : B.heap.size = N + 1 + 1 := by rw [← hB, alloc_sz, sA]
  have a0 : A.heap[N]? = some (.cells #[.slice none 0 0, .int .i64 0] 72 (0, 0)) := by rw [← hA, ← hN]; exact heap_new _ _
  have b0 : B.heap[N]? = some (.cells #[.slice none 0 0, .int .i64 0] 72 (0, 0)) := by rw [← hB, heap_old _ _ (by omega)]; exact a0
  have b1 : B.heap[N + 1]? = some (.cells #[.pointer (some ⟨N, 0, none⟩)] 70 (0, 0)) := by rw [← hB, ← sA]; exact heap_new _ _
  have c0 : C.heap[N]? = some (.cells #[.slice none 0 0, .int .i64 0] 72 (0, 0)) := by rw [← hC, heap_old _ _ (by omega)]; exact b0
  have c1 : C.heap[N + 1]? = some (.cells #[.pointer (some ⟨N, 0, none⟩)] 70 (0, 0)) := by rw [← hC, heap_old _ _ (by omega)]; exact b1
  have c2 : C.heap[N + 1 + 1]? = some (.cells #[.int .i64 0, .int .i64 0, .slice (some ⟨N + 1, 0, none⟩) 1 1] 34 (0, 0)) := by rw [← hC, ← sB]; exact heap_new _ _
  refine ⟨.slice (some ⟨N + 1, 0, none⟩) 1 1, [⟨N, .slice none 0 0, []⟩], ⟨c2, ?_, ?_, ?_, by simp⟩, rfl, rfl, by simp⟩
  · exact srow1.2 ⟨rfl, .inr ⟨N + 1, 1, _, rfl, c1, Nat.le_refl _, by unfold maxLen; omega, Nat.le_refl _, fun h => h.elim, rfl⟩⟩
  · intro x hx
    simp at hx
    subst hx
    exact ⟨c0, srow1.2 ⟨rfl, .inl ⟨rfl, rfl⟩⟩⟩
  · simp [fpB, ob, Value.ownBlock]
set_option maxHeartbeats 4000000 in
theorem new_calls (w : World) : Calls Try.prog 15 #[] w fun e w' => ∃ p F, e = .returned (.pointer (some ⟨p, 0, none⟩)) ∧ Ix w' F p [] ∧ Below w.heap.size w w' ∧ ∀ k ∈ F, w.heap.size ≤ k := by
  go_enter Try.func15, Try.ntmps15
  go_wp2
  go_ret
  refine ⟨_, _, rfl, new_state w _ rfl, ?_, ?_⟩
  · exact (((Below.refl _ _).alloc (Nat.le_refl _) _).alloc (by rw [alloc_sz]; omega) _).alloc (by rw [alloc_sz, alloc_sz]; omega) _
  · intro k hk
    simp [fpI, fpB, ob, Value.ownBlock] at hk
    omega
end Go.Proofs.Ytbbiocmlicoipaa.PC
