/- index.split comes to two blocks of one; an index of at most some hundred thousand marks. -/
import Derived.Test.YtbbiocmlicoipaaIXC
import Derived.Deep.RegionWith
namespace Go.Proofs.Ytbbiocmlicoipaa.PC
open Go.RowKit Go.Proofs.YtbbiocmlicoipaaW.PrintWords Go.Proofs.YtbbiocmlicoipaaW.PrintLast Go.Proofs.YtbbiocmlicoipaaW.PrintMore Go.Proofs.Ytbbiocmlicoipaa.K Go.Proofs.Ytbbiocmlicoipaa.IX
attribute [local go_sem] max2_int min2_int max_two min_two max_three min_three max_four min_four
set_option linter.unusedVariables false
set_option linter.unusedSimpArgs false
/-- What split does. -/
def SplitPost (w : World) (p : Nat) (lv : Value) (L : List Blk) (e : Ending) (w' : World) : Prop :=
  e = .returned (.tuple #[]) ∧ ∃ lv' L', IxR w' p lv' L' ∧ marks L' = marks L ∧ L'.length = L.length + 1 ∧ Fr (fpI p lv L) w w' ∧ ∀ j ∈ fpI p lv' L', j ∈ fpI p lv L ∨ w.heap.size ≤ j
theorem marks_read {w : World} {x : Blk} {g2 c2 : Nat} (h : BlkR w x) (hv : x.v = .slice (some ⟨g2, 0, none⟩) x.ms.length c2) {j : Nat} {u : Bool} (hu : x.ms[j]? = some u) : w.cell? ⟨g2, j, none⟩ = some (.bool u) := by
  obtain ⟨g3, c3, e3, _, _, _, hm⟩ := h.mark hu
  have e := hv.symm.trans e3
  injection e with e1 _ _
  injection e1 with e1
  injection e1 with e1
  subst e1
  exact hm
/-- Clone of the marks from 24 on, told in the walk's own words. -/
def CloneP (w : World) (ms : List Bool) (m : Nat) (e : Ending) (w1 : World) : Prop :=
  ∃ g3 c3, e = .returned (.slice (some ⟨g3, 0, none⟩) m c3) ∧ m ≤ c3 ∧ Aside0 (SRow w1 4 1 False (.slice (some ⟨g3, 0, none⟩) m c3) m (ms.map Value.bool) ∧ w.heap.size ≤ g3 ∧ g3 < w1.heap.size ∧ Below w.heap.size w w1)
theorem clone_p (w : World) (x : Blk) (g2 c2 c' : Nat) (h : BlkR w x) (hv : x.v = .slice (some ⟨g2, 0, none⟩) x.ms.length c2) (h24 : 24 < x.ms.length) (hl : x.ms.length ≤ 1000001) :
    Calls Try.prog 60 #[.slice (some ⟨g2, 24, none⟩) (x.ms.length - 24) c'] w (CloneP w (x.ms.drop 24) (x.ms.length - 24)) := by
  have hlen : (x.ms.drop 24).length = x.ms.length - 24 := List.length_drop
  have hC : Kd.C Kd.bool w (some ⟨g2, 24, none⟩) (x.ms.drop 24).length (x.ms.drop 24) := by
    refine ⟨rfl, by omega, fun _ => ⟨_, rfl, fun j u hu => ⟨[.bool u], rfl, rfl, fun i v hv2 => ?_⟩⟩⟩
    rw [List.getElem?_drop] at hu
    have hm := marks_read h hv hu
    match i, hv2 with
    | 0, hv2 =>
      simp at hv2
      subst hv2
      rw [Addr.add_lit]
      show w.cell? ⟨g2, 24 + (j * 1 + 0), none⟩ = _
      rw [show 24 + (j * 1 + 0) = 24 + j by omega]
      exact hm
    | i + 1, hv2 => simp at hv2
  have hc := cloneB_some w ⟨g2, 24, none⟩ c' (x.ms.drop 24) hC (by omega)
  rw [hlen] at hc
  refine hc.mono ?_
  rintro e w1 ⟨v, rfl, hR, hb⟩
  obtain ⟨hS, hg⟩ := srow_of_RB hR
  rw [hlen] at hS
  rcases hS.2 with ⟨_, h0⟩ | ⟨g3, c3, cur, rfl, hh, hn, _⟩
  · omega
  · exact ⟨g3, c3, rfl, hn, ⟨hS, hg g3 (by simp [ob, Value.ownBlock]), lt_of hh, hb⟩⟩
theorem mem_fpI {p : Nat} {lv : Value} {pre post : List Blk} {x : Blk} {j : Nat} : j ∈ fpI p lv (pre ++ x :: post) ↔ j = p ∨ j ∈ ob lv ∨ j ∈ fpB pre ∨ j = x.b ∨ j ∈ ob x.v ∨ j ∈ fpB post := by
  unfold fpI
  rw [fpB_app, fpB_cons]
  simp only [List.mem_cons, List.mem_append]
theorem IxR.halve {w D : World} {p : Nat} {lv v' : Value} {pre post : List Blk} {x x1 x2 : Blk} (h : IxR w p lv (pre ++ x :: post)) (hb : x1.b = x.b) (hms : x1.ms ++ x2.ms = x.ms) (ho : ob x1.v = ob x.v)
    (hhead : D.heap[p]? = some (.cells #[.int .i64 ((marks (pre ++ x :: post)).length : Int), .int .i64 (cn (marks (pre ++ x :: post)) : Int), v'] 34 (0, 0)))
    (hrow : SRow D 70 1 False v' ((pre ++ x :: post).length + 1) ((pre ++ x1 :: x2 :: post).map ptrV)) (h1 : BlkR D x1) (h2 : BlkR D x2) (hn1 : w.heap.size ≤ x2.b) (hn2 : ∀ g ∈ ob x2.v, w.heap.size ≤ g ∧ g ≠ x2.b)
    (hkeep : ∀ k ∈ fpB pre ++ fpB post, D.heap[k]? = w.heap[k]?) : IxR D p v' (pre ++ x1 :: x2 :: post) ∧ marks (pre ++ x1 :: x2 :: post) = marks (pre ++ x :: post) := by
  have hm : marks (pre ++ x1 :: x2 :: post) = marks (pre ++ x :: post) := by
    rw [marks_app, marks_cons, marks_cons, marks_app, marks_cons, ← hms, List.append_assoc]
  have hlt := h.lt
  have hold : ∀ k, k ∈ fpB pre ∨ k = x.b ∨ k ∈ ob x.v ∨ k ∈ fpB post → k < w.heap.size := by
    intro k hk
    refine hlt k (mem_fpI.2 ?_)
    rcases hk with hk | hk | hk | hk <;> simp [hk]
  refine ⟨⟨by rw [hm]; exact hhead, by rw [show (pre ++ x1 :: x2 :: post).length = (pre ++ x :: post).length + 1 by simp; omega]; exact hrow, fun y hy => ?_, ?_, by simp⟩, hm⟩
  · have old : y ∈ pre ∨ y ∈ post → BlkR D y := by
      intro hy
      have hyb := h.blk y (by rcases hy with hy | hy <;> simp [hy])
      have hmem : ∀ k, (k = y.b ∨ k ∈ ob y.v) → k ∈ fpB pre ++ fpB post := by
        intro k hk
        simp only [List.mem_append, mem_fpB]
        rcases hy with hy | hy
        · exact .inl ⟨y, hy, hk⟩
        · exact .inr ⟨y, hy, hk⟩
      exact ⟨(hkeep y.b (hmem _ (.inl rfl))).trans hyb.1, hyb.2.keep fun g hg => hkeep g (hmem _ (.inr hg))⟩
    rcases List.mem_append.1 hy with hy | hy
    · exact old (.inl hy)
    · rcases List.mem_cons.1 hy with rfl | hy
      · exact h1
      · rcases List.mem_cons.1 hy with rfl | hy
        · exact h2
        · exact old (.inr hy)
  · have hn := h.nd
    rw [fpB_app, fpB_cons] at hn
    rw [fpB_app, fpB_cons, fpB_cons, hb, ho]
    obtain ⟨n1, n2, n3⟩ := List.nodup_append.1 hn
    rw [List.nodup_cons] at n2
    obtain ⟨n4, n5⟩ := n2
    obtain ⟨n6, n7, n8⟩ := List.nodup_append.1 n5
    have nx : ∀ k, k = x2.b ∨ k ∈ ob x2.v → w.heap.size ≤ k := by
      rintro k (rfl | hk)
      · exact hn1
      · exact (hn2 k hk).1
    refine List.nodup_append.2 ⟨n1, List.nodup_cons.2 ⟨fun hm => ?_, List.nodup_append.2 ⟨n6, List.nodup_cons.2 ⟨fun hm => ?_, List.nodup_append.2 ⟨ob_nodup _, n7, fun a ha b hb2 e => ?_⟩⟩, fun a ha b hb2 e => ?_⟩⟩, fun a ha b hb2 e => ?_⟩
    · rcases List.mem_append.1 hm with hm | hm
      · exact n4 (by simp [hm])
      · rcases List.mem_cons.1 hm with hm | hm
        · have := nx _ (.inl hm); have := hold x.b (.inr (.inl rfl)); omega
        · rcases List.mem_append.1 hm with hm | hm
          · have := nx _ (.inr hm); have := hold x.b (.inr (.inl rfl)); omega
          · exact n4 (by simp [hm])
    · rcases List.mem_append.1 hm with hm | hm
      · exact (hn2 _ hm).2 rfl
      · have := hold _ (.inr (.inr (.inr hm))); omega
    · subst e
      have := nx _ (.inr ha); have := hold _ (.inr (.inr (.inr hb2))); omega
    · subst e
      rcases List.mem_cons.1 hb2 with hb2 | hb2
      · have := nx _ (.inl hb2); have := hold _ (.inr (.inr (.inl ha))); omega
      · rcases List.mem_append.1 hb2 with hb2 | hb2
        · have := nx _ (.inr hb2); have := hold _ (.inr (.inr (.inl ha))); omega
        · exact n8 a ha a hb2 rfl
    · subst e
      rcases List.mem_cons.1 hb2 with hb2 | hb2
      · exact n3 _ ha _ (by simp) hb2
      · rcases List.mem_append.1 hb2 with hb2 | hb2
        · exact n3 _ ha _ (by simp [hb2]) rfl
        · rcases List.mem_cons.1 hb2 with hb2 | hb2
          · have := nx _ (.inl hb2); have := hold _ (.inl ha); omega
          · rcases List.mem_append.1 hb2 with hb2 | hb2
            · have := nx _ (.inr hb2); have := hold _ (.inl ha); omega
            · exact n3 _ ha _ (by simp [hb2]) rfl
/-- slices.Insert of a block, told in the walk's own words. -/
def PutP (W : World) (p hb xb i : Nat) (lv : Value) (LL : Nat) (pre post : List Blk) (x : Blk) (tot c : Int) (e : Ending) (w3 : World) : Prop :=
  ∃ (A' : Option Addr) (c' : Nat), e = .returned (.slice A' (LL + 1) c') ∧ Aside0 (Ins (W.alloc (.cells #[.pointer (some ⟨hb, 0, none⟩)] 70)) 70 1 False lv (LL + 1) (pre.map ptrV ++ [.pointer (some ⟨x.b, 0, none⟩), .pointer (some ⟨hb, 0, none⟩)] ++ post.map ptrV) (.slice A' (LL + 1) c') w3) ∧
    w3.heap[p]? = some (.cells #[.int .i64 tot, .int .i64 c, lv] 34 (0, 0)) ∧ Aside0 (W.heap[xb]? = w3.heap[xb]?)
theorem put_p (W : World) (p hb xb i LL g cap : Nat) (pre post : List Blk) (x : Blk) {tot c : Int} {cx : Array Value} (hrow : SRow W 70 1 False (.slice (some ⟨g, 0, none⟩) LL cap) LL ((pre ++ x :: post).map ptrV)) (hLL : (pre ++ x :: post).length = LL) (hi : pre.length = i) (hL : LL ≤ 2000000)
    (hp : W.heap[p]? = some (.cells #[.int .i64 tot, .int .i64 c, .slice (some ⟨g, 0, none⟩) LL cap] 34 (0, 0))) (hx : W.heap[xb]? = some (.cells cx 72 (0, 0))) :
    Calls Try.prog 62 #[.slice (some ⟨g, 0, none⟩) LL cap, .int .i64 ((i : Int) + 1), .slice (some ⟨W.heap.size, 0, none⟩) 1 1] (W.alloc (.cells #[.pointer (some ⟨hb, 0, none⟩)] 70)) (PutP W p hb xb i (.slice (some ⟨g, 0, none⟩) LL cap) LL pre post x tot c) := by
  have hob := hrow.ob_lt
  have hg : g < W.heap.size := (hob g (by simp [ob, Value.ownBlock])).1
  have hs : SRow (W.alloc (.cells #[.pointer (some ⟨hb, 0, none⟩)] 70)) 70 1 False (.slice (some ⟨g, 0, none⟩) LL cap) LL ((pre ++ x :: post).map ptrV) := hrow.keep fun k hk => heap_old _ _ (hob k hk).1
  have hpl : pre.length + 1 ≤ LL := by rw [← hLL]; simp
  have e0 : (i : Int) + 1 = ((i + 1 : Nat) : Int) := by simp
  rw [e0]
  refine (insP_calls _ False _ LL (i + 1) W.heap.size ((pre ++ x :: post).map ptrV) [.pointer (some ⟨hb, 0, none⟩)] hs (by omega) (by exact heap_new _ _) (by simp [Value.ownBlock]; omega) rfl (by simp [Value.oneCell']) (by intro v hv; obtain ⟨b, _, rfl⟩ := List.mem_map.1 hv; rfl) (by omega)).mono ?_
  rintro e w3 ⟨v', rfl, hI⟩
  have e1 : ((pre ++ x :: post).map ptrV).take (i + 1) ++ [.pointer (some ⟨hb, 0, none⟩)] ++ ((pre ++ x :: post).map ptrV).drop (i + 1) = pre.map ptrV ++ [.pointer (some ⟨x.b, 0, none⟩), .pointer (some ⟨hb, 0, none⟩)] ++ post.map ptrV := by
    subst hi
    have h1 : (pre ++ x :: post).map ptrV = (pre.map ptrV ++ [ptrV x]) ++ post.map ptrV := by simp
    have h2 : (pre.map ptrV ++ [ptrV x]).length = pre.length + 1 := by simp
    rw [h1, List.take_left' h2, List.drop_left' h2]
    simp [ptrV]
  rw [e1] at hI
  obtain ⟨A', c', rfl, _, _⟩ := hI.1.form
  have keep : ∀ b o, W.heap[b]? = some o → b ≠ g → w3.heap[b]? = W.heap[b]? := by
    intro b o hbo hbn
    have hlt := lt_of hbo
    rw [hI.2.1.block b (by rw [alloc_sz]; exact Nat.lt_succ_of_lt hlt) (by simp [Value.ownBlock]; omega)]
    exact heap_old _ _ hlt
  obtain ⟨_, cg, hcg⟩ := hob g (by simp [ob, Value.ownBlock])
  exact ⟨A', c', rfl, ⟨hI⟩, (keep p _ hp (heap_types hp hcg (by decide))).trans hp, ⟨(keep xb _ hx (heap_types hx hcg (by decide))).symm⟩⟩
set_option maxHeartbeats 4000000 in
set_option maxRecDepth 100000 in
theorem split_calls (w : World) (p : Nat) (lv : Value) (pre post : List Blk) (x : Blk) (hR : IxR w p lv (pre ++ x :: post)) (hx : 24 < x.ms.length) (hs : (marks (pre ++ x :: post)).length ≤ 1000001) (hL : (pre ++ x :: post).length ≤ 2000000) :
    Calls Try.prog 47 #[.pointer (some ⟨p, 0, none⟩), .int .i64 (pre.length : Int)] w (SplitPost w p lv (pre ++ x :: post)) := by
  obtain ⟨g, cap, rfl, hcap, h0, h1, k2, hrow⟩ := hR.head_cells
  obtain ⟨hxi, hb⟩ := found hR rfl
  have hm0 : ∃ u, x.ms[0]? = some u := ⟨x.ms[0], List.getElem?_eq_getElem (by omega)⟩
  obtain ⟨u0, hm0⟩ := hm0
  obtain ⟨g2, c2, hxv, hc2, kc0, kc1, _⟩ := hb.mark hm0
  have kptr := hrow _ _ hxi
  have hil : pre.length < (pre ++ x :: post).length := by simp
  have hxl : x.ms.length ≤ (marks (pre ++ x :: post)).length := by rw [marks_app, marks_cons]; simp; omega
  have hcl := fun c' => clone_p w x g2 c2 c' hb hxv hx (by omega)
  have hcs := cn_le x.ms
  have HR := Lib.hid hR
  have HXV := Lib.hid hxv
  have HB := Lib.hid hb
  have HCL := Lib.hid hcl
  have hc3 : ¬ c2 = 24 := by omega
  have hlen : (x.ms.drop 24).length = x.ms.length - 24 := List.length_drop
  have HLEN := Lib.hid hlen
  have hxl2 : x.ms.length ≤ 1000001 := by omega
  clear hR hrow hxi hm0 hcl h0 h1 hb hxv hs hxl hlen
  generalize hln : x.ms.length = ln at *
  generalize hcsx : cn x.ms = cs at *
  generalize hxb : x.b = xb at *
  generalize hi : pre.length = i at *
  generalize hLL : (pre ++ x :: post).length = LL at *
  have HLN := Lib.hid hln
  have HCS := Lib.hid hcsx
  have HXB := Lib.hid hxb
  have HI := Lib.hid hi
  have HLL := Lib.hid hLL
  clear hln hcsx hxb hi hLL
  go_enter Try.func47, Try.ntmps47
  go_wp2_with (go_at_call 60; refine (HCL.out _).mono ?_; rintro e w1 ⟨g3, c3, rfl, hc3, HC⟩)
  obtain ⟨W1, hW1⟩ : ∃ W1, w1.alloc (.cells #[.slice (some ⟨g3, 0, none⟩) (ln - 24) c3, .int .i64 0] 72) = W1 := ⟨_, rfl⟩
  rw [hW1]
  have hH : W1.heap[w1.heap.size]? = some (.cells #[.slice (some ⟨g3, 0, none⟩) (ln - 24) c3, .int .i64 0] 72 (0, 0)) := by rw [← hW1]; exact heap_new _ _
  have hF1 : Below w.heap.size w W1 := by rw [← hW1]; exact HC.out.2.2.2.alloc HC.out.2.2.2.size _
  have hS1 : SRow W1 4 1 False (.slice (some ⟨g3, 0, none⟩) (ln - 24) c3) (ln - 24) ((x.ms.drop 24).map Value.bool) := by
    refine HC.out.1.keep fun g' hg' => ?_
    rw [← hW1]
    exact heap_old _ _ (HC.out.1.ob_lt g' hg').1
  have hne3 : w1.heap.size ≠ g3 := by have := HC.out.2.2.1; omega
  have hge3 := HC.out.2.1
  have hge1 := HC.out.2.2.2.size
  have HW1 := Lib.hid hW1
  have HH := Lib.hid hH
  have HF1 := Lib.hid hF1
  have HS1 := Lib.hid hS1
  have HG3 := Lib.hid hge3
  have HG1 := Lib.hid hge1
  clear hW1 hH hF1 hS1 hge3 hge1 HC k2 kptr kc0 kc1
  generalize hhb : w1.heap.size = hb at *
  have HHB := Lib.hid hhb
  clear hhb
  generalize hm : ln - 24 = m at *
  have hmb : m ≤ 1000000 := by omega
  have HM := Lib.hid hm
  clear hm
  go_loopw [7, 28] (fun v7 v28 wr => ∃ j : Nat, v28 = .int .i64 (j : Int) ∧ j ≤ m ∧ Aside0 (Fr [hb] W1 wr ∧ wr.heap[hb]? = some (.cells #[.slice (some ⟨g3, 0, none⟩) m c3, .int .i64 (cn ((x.ms.drop 24).take j) : Int)] 72 (0, 0)))) (fun _ v28 _ => m - (intOf v28).toNat)
  case atStart => exact ⟨0, rfl, by omega, ⟨Fr.refl _ _, HH.out⟩⟩
  case round =>
    obtain ⟨j, rfl, hj, HJ⟩ := hrel
    have hcj := cn_le ((x.ms.drop 24).take j)
    rw [List.length_take] at hcj
    have hcj2 : cn ((x.ms.drop 24).take j) ≤ 1000000 := by omega
    have j0 := cell_of HJ.out.2 0
    have j1 := cell_of HJ.out.2 1
    have j2 := free_of HJ.out.2
    simp only [List.getElem?_toArray, List.getElem?_cons_zero, List.getElem?_cons_succ] at j0 j1
    by_cases hlt : j < m
    · have hjl : j < (x.ms.drop 24).length := by rw [HLEN.out]; have := HM.out; have := HLN.out; omega
      obtain ⟨g4, c4, e4, _, hm4⟩ := (HS1.out.keep (w' := wr) fun g' hg' => HJ.out.1.block g' (HS1.out.ob_lt g' hg').1 (by simp [ob, Value.ownBlock] at hg'; simp; omega)).cell1 (i := j) (u := .bool (x.ms.drop 24)[j]) (by rw [List.getElem?_map, List.getElem?_eq_getElem hjl]; rfl)
      injection e4 with e5 e6 e7
      injection e5 with e5
      injection e5 with e5
      subst e5 e7
      clear e6
      have hct := cn_take_succ (x.ms.drop 24) j hjl
      obtain ⟨u, hu⟩ : ∃ u, (x.ms.drop 24)[j] = u := ⟨_, rfl⟩
      rw [hu] at hm4 hct
      generalize cn ((x.ms.drop 24).take j) = s at *
      have hob := oneI_b u
      have hoe : ((cn ((x.ms.drop 24).take (j + 1)) : Nat) : Int) = (s : Int) + oneI u := by rw [hct]; unfold oneI; split <;> simp
      have HOE := Lib.hid hoe
      clear hct hu hcj hoe hjl
      have hw2 : IntKind.i64.wrap ((s : Int) + oneI u) = (s : Int) + oneI u := by rw [IntKind.wrap_i64]; omega
      go_wp2
      go_region_with ((go_at_call 46; refine (one_calls u _).mono ?_; rintro e w' ⟨rfl, rfl⟩))
      all_goals
        go_wp2
        go_roundw
        case rel => exact ⟨j + 1, by go_num, by omega, ⟨(HJ.out.1.trans (Fr.of_set wr ⟨hb, 1, none⟩ _ (by simp)) (fun _ h => .inl h)).trans (Fr.of_drew (F := []) _) (by simp), by rw [HOE.out]; exact (heap_set wr hb 1 _ HJ.out.2).trans rfl⟩⟩
        case measure => simp [intOf]; omega
    · obtain rfl : m = j := by omega
      have hj0 := HJ.out.2
      rw [List.take_of_length_le (by rw [HLEN.out]; have := HM.out; have := HLN.out; omega)] at hj0
      have hcn := cn_le (x.ms.drop 24)
      rw [HLEN.out] at hcn
      have hsum : cs = cn (x.ms.take 24) + cn (x.ms.drop 24) := by rw [← cn_app, List.take_append_drop, HCS.out]
      generalize hch : cn (x.ms.drop 24) = ch at *
      have HCH := Lib.hid hch
      have HSUM := Lib.hid hsum
      clear hch hcj hcj2
      have hch2 : ch ≤ cs := by omega
      clear hsum
      have hcs3 : cs ≤ 1000001 := by omega
      -- what is read of the elder block
      have hbx : wr.heap[xb]? = some (.cells #[.slice (some ⟨g2, 0, none⟩) ln c2, .int .i64 (cs : Int)] 72 (0, 0)) := by
        have h1 := HB.out.1
        rw [HXB.out, HXV.out, HCS.out] at h1
        have hlt := lt_of h1
        have hge := HG1.out
        rw [HJ.out.1.block xb (Nat.lt_of_lt_of_le hlt HF1.out.size) (by simp; omega), HF1.out.block xb hlt]
        exact h1
      have hxh : xb ≠ hb := by
        have h1 := HB.out.1
        rw [HXB.out] at h1
        have hlt := lt_of h1
        have hge := HG1.out
        omega
      have hcap2 : c2 ≤ maxLen := by
        rcases HB.out.2.2 with ⟨h, _⟩ | ⟨_, _, _, h, _, _, h2, _⟩
        · rw [HXV.out] at h; cases h
        · rw [HXV.out] at h
          injection h with _ _ h3
          rw [h3]; exact h2
      have HJX := Lib.hid hj0
      have HBX := Lib.hid hbx
      have HJ1 := Lib.hid HJ.out.1
      replace j0 := cell_of hj0 0
      replace j1 := cell_of hj0 1
      replace j2 := free_of hj0
      have b0 := cell_of hbx 0
      have b1 := cell_of hbx 1
      have b2 := free_of hbx
      simp only [List.getElem?_toArray, List.getElem?_cons_zero, List.getElem?_cons_succ] at j0 j1 b0 b1
      have hw2 : IntKind.i64.wrap ((cs : Int) - (ch : Int)) = (cs : Int) - (ch : Int) := by rw [IntKind.wrap_i64]; omega
      have hclip := fun W => clipB_calls W g2 24 c2 (by omega) hcap2
      have HCLIP := Lib.hid hclip
      have HCAP2 := Lib.hid hcap2
      clear hj0 hbx hclip hcap2 HJ
      have h24 : (24 : Int) ≤ (c2 : Int) := by omega
      go_wp2
      go_cut [] (fun wx => Aside0 (Fr [xb] wr wx ∧ wx.heap[xb]? = some (.cells #[.slice (some ⟨g2, 0, none⟩) 24 24, .int .i64 ((cs : Int) - (ch : Int))] 72 (0, 0))))
      case first =>
        go_region_with ((go_at_call 61; refine (HCLIP.out _).mono ?_; rintro e w' ⟨rfl, rfl⟩))
        all_goals (go_wp2_with fail; go_meet; exact ⟨((Fr.of_set wr ⟨xb, 0, none⟩ _ (by simp)).trans (Fr.of_set (F := [xb]) _ ⟨xb, 1, none⟩ _ (by simp)) (by simp)).trans (Fr.of_drew (F := []) _) (by simp), (heap_set _ xb 1 _ (heap_set wr xb 0 _ HBX.out)).trans rfl⟩)
      case rest =>
        obtain ⟨W7, rfl⟩ : ∃ W7 : World, W7 = wc := ⟨_, rfl⟩
        have hX7 := hcut.out.2
        have hF7 := hcut.out.1
        have hp0 := HR.out.head
        have hps := lt_of hp0
        have hpx : p ≠ xb := by have := heap_types hp0 HB.out.1 (by decide); rw [HXB.out] at this; exact this
        have hge := HG1.out
        have step : ∀ k, k < w.heap.size → k ≠ xb → W7.heap[k]? = w.heap[k]? := by
          intro k hk hkx
          have h1 : k < W1.heap.size := Nat.lt_of_lt_of_le hk HF1.out.size
          rw [hF7.block k (Nat.lt_of_lt_of_le h1 HJ1.out.size) (by simpa using hkx), HJ1.out.block k h1 (by simp; omega), HF1.out.block k hk]
        have hp7 := (step p hps hpx).trans hp0
        have hrow7 : SRow W7 70 1 False (.slice (some ⟨g, 0, none⟩) LL cap) LL ((pre ++ x :: post).map ptrV) := by
          have h1 := HR.out.row
          rw [HLL.out] at h1
          refine h1.keep fun k hk => ?_
          obtain ⟨h2, cs2, h3⟩ := h1.ob_lt k hk
          refine step k h2 ?_
          rw [← HXB.out]
          exact heap_types h3 HB.out.1 (by decide)
        have hput := put_p W7 p hb xb i LL g cap pre post x hrow7 HLL.out HI.out hL hp7 hX7
        have HPUT := Lib.hid hput
        have HX7 := Lib.hid hX7
        have HF7 := Lib.hid hF7
        have HP7 := Lib.hid hp7
        have HSTEP := Lib.hid step
        have p2 := cell_of hp7 2
        simp only [List.getElem?_toArray, List.getElem?_cons_zero, List.getElem?_cons_succ] at p2
        have hw3 : IntKind.i64.wrap ((i : Int) + 1) = (i : Int) + 1 := by rw [IntKind.wrap_i64]; omega
        clear hX7 hF7 hp0 hp7 step hrow7 hput hcut j0 j1 j2 b0 b1 b2
        go_wp2_with (go_at_call 62; refine HPUT.out.mono ?_; rintro e w3 ⟨A', c', rfl, HI3, h3p, h3x⟩; have H3P := Lib.hid h3p; have q2 := cell_of h3p 2; have q3 := free_of h3p; simp only [List.getElem?_toArray, List.getElem?_cons_zero, List.getElem?_cons_succ] at q2; clear h3p)
        go_end0
        obtain ⟨D, hD⟩ : ∃ D, w3.setCell ⟨p, 2, none⟩ (.slice A' (LL + 1) c') = D := ⟨_, rfl⟩
        rw [hD]
        have hI := HI3.out
        have hR0 := HR.out
        have hx0 := HB.out
        have hgw : g < w.heap.size := (hR0.row.ob_lt g (by simp [ob, Value.ownBlock])).1
        obtain ⟨_, cg, hcg⟩ := hR0.row.ob_lt g (by simp [ob, Value.ownBlock])
        have hg2o : g2 ∈ ob x.v := by rw [HXV.out]; simp [ob, Value.ownBlock]
        obtain ⟨hg2w, cg2, hcg2⟩ := hx0.2.ob_lt g2 hg2o
        have hsz7 : w.heap.size ≤ W7.heap.size := Nat.le_trans HF1.out.size (Nat.le_trans HJ1.out.size HF7.out.size)
        have hpw := lt_of hR0.head
        have hpg : p ≠ g := heap_types hR0.head hcg (by decide)
        have hge := HG1.out
        have hge3 := HG3.out
        have chain : ∀ k, k < W7.heap.size → k ≠ g → k ≠ p → D.heap[k]? = W7.heap[k]? := by
          intro k hk h1 h2
          rw [← hD, heap_far _ _ _ h2, hI.2.1.block k (by rw [alloc_sz]; exact Nat.lt_succ_of_lt hk) (by simp [Value.ownBlock]; omega)]
          exact heap_old _ _ hk
        have old : ∀ k, k < w.heap.size → k ≠ xb → k ≠ g → k ≠ p → D.heap[k]? = w.heap[k]? := fun k hk h1 h2 h3 => (chain k (Nat.lt_of_lt_of_le hk hsz7) h2 h3).trans (HSTEP.out k hk h1)
        have hxw : xb < w.heap.size := by have := lt_of hx0.1; rw [HXB.out] at this; exact this
        have hxg : xb ≠ g := by have := heap_types hx0.1 hcg (by decide); rw [HXB.out] at this; exact this
        have hbW1 : hb < W1.heap.size := lt_of HH.out
        have hbW7 : hb < W7.heap.size := Nat.lt_of_lt_of_le hbW1 (Nat.le_trans HJ1.out.size HF7.out.size)
        have hg3W1 : g3 < W1.heap.size := (HS1.out.ob_lt g3 (by simp [ob, Value.ownBlock])).1
        have hg3W7 : g3 < W7.heap.size := Nat.lt_of_lt_of_le hg3W1 (Nat.le_trans HJ1.out.size HF7.out.size)
        have hDb : D.heap[hb]? = some (.cells #[.slice (some ⟨g3, 0, none⟩) m c3, .int .i64 (ch : Int)] 72 (0, 0)) := by
          rw [chain hb hbW7 (by omega) (by omega), HF7.out.block hb (lt_of HJX.out) (by simp; omega)]
          exact HJX.out
        have hD3 : D.heap[g3]? = W1.heap[g3]? := by
          rw [chain g3 hg3W7 (by omega) (by omega), HF7.out.block g3 (Nat.lt_of_lt_of_le hg3W1 HJ1.out.size) (by simp; omega), HJ1.out.block g3 hg3W1 (by simp; omega)]
        have hm3 : (x.ms.drop 24).length = m := HLEN.out
        have hty : ∀ k ∈ fpB pre ++ fpB post, k < w.heap.size ∧ k ≠ xb ∧ k ≠ g ∧ k ≠ p := by
          intro k hk
          obtain ⟨n1, n2, n3⟩ := hR0.others k (by rw [List.mem_append]; exact .inr hk)
          have hk2 : k ∈ fpB (pre ++ x :: post) := by
            rw [fpB_app, fpB_cons]
            rcases List.mem_append.1 hk with h1 | h1 <;> simp [h1]
          obtain ⟨cs2, t2, h2, h3⟩ := hR0.typed k hk2
          exact ⟨lt_of h2, by rw [← HXB.out]; exact n2, heap_types h2 hcg (by rcases h3 with rfl | rfl <;> decide), n1⟩
        have hob1 : ob (Value.slice (some ⟨g2, 0, none⟩) 24 24) = ob x.v := by rw [HXV.out]; rfl
        have hal := hR0.halve (D := D) (v' := .slice A' (LL + 1) c') (x1 := ⟨x.b, .slice (some ⟨g2, 0, none⟩) 24 24, x.ms.take 24⟩) (x2 := ⟨hb, .slice (some ⟨g3, 0, none⟩) m c3, x.ms.drop 24⟩) rfl (List.take_append_drop _ _) hob1
          (by rw [← hD]; exact (heap_set w3 p 2 _ H3P.out).trans rfl)
          (by
            have e1 : ((pre ++ (⟨x.b, .slice (some ⟨g2, 0, none⟩) 24 24, x.ms.take 24⟩ : Blk) :: (⟨hb, .slice (some ⟨g3, 0, none⟩) m c3, x.ms.drop 24⟩ : Blk) :: post).map ptrV) = pre.map ptrV ++ [.pointer (some ⟨x.b, 0, none⟩), .pointer (some ⟨hb, 0, none⟩)] ++ post.map ptrV := by simp [ptrV]
            rw [e1, HLL.out]
            refine hI.1.keep fun k hk => ?_
            obtain ⟨_, c5, h5⟩ := hI.1.ob_lt k hk
            rw [← hD]
            exact heap_far _ _ _ (heap_types h5 H3P.out (by decide)))
          (by
            refine ⟨?_, ?_⟩
            · show D.heap[x.b]? = some (.cells #[.slice (some ⟨g2, 0, none⟩) 24 24, .int .i64 (cn (x.ms.take 24) : Int)] 72 (0, 0))
              rw [HXB.out, chain xb (Nat.lt_of_lt_of_le hxw hsz7) hxg (Ne.symm hpx), HX7.out]
              have := HSUM.out
              rw [show (cs : Int) - (ch : Int) = (cn (x.ms.take 24) : Int) by omega]
            · show SRow D 4 1 False (.slice (some ⟨g2, 0, none⟩) 24 24) (x.ms.take 24).length ((x.ms.take 24).map Value.bool)
              have hl24 : (x.ms.take 24).length = 24 := by rw [List.length_take, HLN.out]; omega
              rcases (srow1.1 hx0.2).2 with ⟨h, _⟩ | ⟨g5, c5, cur, h5, h6, h7, h8, h9, _, h10⟩
              · rw [HXV.out] at h; cases h
              · rw [HXV.out] at h5
                injection h5 with h5 _ _
                injection h5 with h5
                injection h5 with h5
                subst h5
                rw [hl24]
                refine srow1.2 ⟨by rw [List.length_map, hl24], .inr ⟨g2, 24, cur, rfl, ?_, Nat.le_refl _, by unfold maxLen; omega, by have := HLN.out; omega, fun h => h.elim, ?_⟩⟩
                · rw [old g2 hg2w (by rw [← HXB.out]; exact heap_types h6 hx0.1 (by decide)) (heap_types h6 hcg (by decide)) (heap_types h6 hR0.head (by decide))]
                  exact h6
                · rw [List.map_take, ← h10, List.take_take, Nat.min_eq_left (by rw [HLN.out]; omega)])
          (by
            refine ⟨?_, ?_⟩
            · show D.heap[hb]? = some (.cells #[.slice (some ⟨g3, 0, none⟩) m c3, .int .i64 (cn (x.ms.drop 24) : Int)] 72 (0, 0))
              rw [hDb, HCH.out]
            · show SRow D 4 1 False (.slice (some ⟨g3, 0, none⟩) m c3) (x.ms.drop 24).length ((x.ms.drop 24).map Value.bool)
              rw [hm3]
              refine HS1.out.keep fun k hk => ?_
              have : k = g3 := by simp [ob, Value.ownBlock] at hk; omega
              rw [this]; exact hD3)
          (by omega) (by intro k hk; have : k = g3 := (by simp [ob, Value.ownBlock] at hk; omega); rw [this]; exact ⟨hge3, Ne.symm hne3⟩)
          (fun k hk => by obtain ⟨a1, a2, a3, a4⟩ := hty k hk; exact old k a1 a2 a3 a4)
        refine ⟨rfl, _, _, hal.1, hal.2, by simp; omega, ?_, ?_⟩
        · have same : ∀ (F : List Nat), ∀ y ∈ F, y ∈ F ∨ w.heap.size ≤ y := fun _ _ h => .inl h
          have g1 : Fr (fpI p (.slice (some ⟨g, 0, none⟩) LL cap) (pre ++ x :: post)) w W1 := Fr.of_below HF1.out
          have g4 := ((g1.trans HJ1.out fun y hy => by rw [List.mem_singleton] at hy; right; omega).trans HF7.out fun y hy => by rw [List.mem_singleton] at hy; exact .inl (mem_fpI.2 (.inr (.inr (.inr (.inl (by rw [hy, HXB.out]))))))).trans (Fr.of_alloc W7 (.cells #[.pointer (some ⟨hb, 0, none⟩)] 70)) (same _)
          have g5 := g4.trans (Fr.of_grown (F := [g]) hI.2.1 fun k hk => by simp [Value.ownBlock] at hk; simp [hk]) fun y hy => by rw [List.mem_singleton] at hy; exact .inl (mem_fpI.2 (.inr (.inl (by rw [hy]; simp [ob, Value.ownBlock]))))
          rw [← hD]
          exact g5.trans (Fr.of_set (F := [p]) w3 ⟨p, 2, none⟩ _ (by simp)) fun y hy => by rw [List.mem_singleton] at hy; exact .inl (mem_fpI.2 (.inl hy))
        · intro j hj
          rcases mem_fpI.1 hj with h | h | h | h | h | h
          · exact .inl (mem_fpI.2 (.inl h))
          · rcases hI.2.2.1 with h2 | ⟨b, h2, h3⟩
            · left
              refine mem_fpI.2 (.inr (.inl ?_))
              unfold ob at h ⊢
              rw [← h2]; exact h
            · right
              have : j = b := by simp only [ob, h2, Option.toList] at h; simpa using h
              rw [alloc_sz] at h3
              omega
          · exact .inl (mem_fpI.2 (.inr (.inr (.inl h))))
          · exact .inl (mem_fpI.2 (.inr (.inr (.inr (.inl h)))))
          · exact .inl (mem_fpI.2 (.inr (.inr (.inr (.inr (.inl (by rw [← hob1]; exact h)))))))
          · rw [fpB_cons] at h
            rcases List.mem_cons.1 h with h | h
            · right
              have : j = hb := h
              omega
            · rcases List.mem_append.1 h with h | h
              · right
                have : j = g3 := by simp [ob, Value.ownBlock] at h; omega
                omega
              · exact .inl (mem_fpI.2 (.inr (.inr (.inr (.inr (.inr h))))))
end Go.Proofs.Ytbbiocmlicoipaa.PC
