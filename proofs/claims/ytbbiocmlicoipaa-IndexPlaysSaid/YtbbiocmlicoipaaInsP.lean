/- slices.Insert of one pointer into a row of the call's own comes to the row with the element at its place; the row takes at most 2^47 bytes. -/
import Derived.Test.YtbbiocmlicoipaaC0
import Derived.Test.YtbbiocmlicoipaaK4
import Derived.Lib.Hide
namespace Go.Proofs.Ytbbiocmlicoipaa.PC
open Go.RowKit Go.Proofs.Ytbbiocmlicoipaa.K
set_option linter.unusedVariables false
set_option linter.unusedSimpArgs false
theorem info70 : (Try.prog.info? 70).map (fun i => (i.zero, i.size, i.bytes)) = some (some (.pointer none), 1, 8) := by kernel_rfl
theorem ovP (w : World) (ga gb oa ob la ca lb cb : Nat) (hne : ga ≠ gb) {xa xb : Array Value} (ha : w.heap[ga]? = some (.cells xa 70 (0, 0))) (hb : w.heap[gb]? = some (.cells xb 70 (0, 0))) (hk : xb.size ≠ 0) :
    (callFunc 70 #[.slice (some ⟨ga, oa, none⟩) la ca, .slice (some ⟨gb, ob, none⟩) lb cb]).run Try.prog w = .ok (.value (.bool false)) w := by
  rw [run_callFunc_extern Try.func70 (by kernel_rfl) (by kernel_rfl) (by kernel_rfl) (e := Extern.SlicesOverlaps.overlaps #[32, 32] #[4]) (by kernel_rfl),
    run_overlaps2 w 32 4 70 Try.underlying32 1 (fun _ => by kernel_rfl) ga gb oa ob la ca lb cb hne ha hb hk]
  rfl
set_option maxHeartbeats 4000000 in
set_option maxRecDepth 100000 in
theorem insP_shift (w : World) (g n cap i vb : Nat) (cur : Array Value) (c : List Value) (hg : w.heap[g]? = some (.cells cur 70 (0, 0))) (hv : w.heap[vb]? = some (.cells c.toArray 70 (0, 0))) (hne : vb ≠ g) (hc : c.length = 1)
    (h1c : ∀ v ∈ c, v.oneCell' = true) (h1 : ∀ v ∈ cur.toList.take (n), v.oneCell' = true) (hi : i < n) (hroom : n + 1 ≤ cap) (hcap : cap ≤ maxLen) (hcur : cap ≤ cur.size) :
    Calls Try.prog 62 #[.slice (some ⟨g, 0, none⟩) n cap, .int .i64 i, .slice (some ⟨vb, 0, none⟩) 1 1] w fun e w' =>
      e = .returned (.slice (some ⟨g, 0, none⟩) (n + 1) cap) ∧ ∃ k, w' = (w.drewN k).setRow g (cur.toList.take (i) ++ c ++ (cur.toList.take (n)).drop (i) ++ cur.toList.drop ((n + 1))).toArray := by
  unfold maxLen at hcap
  have hov : ∀ oa ob la ca lb cb, (callFunc 70 #[.slice (some ⟨vb, oa, none⟩) la ca, .slice (some ⟨g, ob, none⟩) lb cb]).run Try.prog w = .ok (.value (.bool false)) w := fun oa ob la ca lb cb => ovP w vb g oa ob la ca lb cb hne hv hg (by omega)
  have hz2 : ¬ ((i : Int) = (n : Int)) := by omega
  have hw1 : IntKind.i64.wrap ((i : Int) + 1) = (i : Int) + 1 := by rw [IntKind.wrap_i64]; omega
  have hw2 : IntKind.i64.wrap ((n : Int) + 1) = (n : Int) + 1 := by rw [IntKind.wrap_i64]; omega
  have hb1 : (0 : Int) ≤ (i : Int) + 1 := by omega
  have hin : i ≤ n := by omega
  have hb2 : ¬ (cap = i + 1) := by omega
  have hb3 : (i : Int) ≤ (n : Int) + 1 := by omega
  have hb4 : ¬ (cap = i) := by omega
  have hsz : (Try.prog.info? 70).map (·.size) = some 1 := by kernel_rfl
  have hcl : cur.toList.length = cur.size := Array.length_toList
  obtain ⟨tl, htl⟩ : ∃ tl, (cur.toList.take (n)).drop (i) = tl := ⟨_, rfl⟩
  have htll : tl.length = (n - i) := by rw [← htl, List.length_drop, List.length_take, hcl]; omega
  obtain ⟨row1, hrow1⟩ : ∃ r, (cur.toList.take ((i + 1)) ++ tl ++ cur.toList.drop ((i + 1) + tl.length)).toArray = r := ⟨_, rfl⟩
  have hcp1 : ∀ ty dc sc, (Builtin.copy_ #[32, 32] ty #[.slice (some ⟨g, (i + 1), none⟩) (n - i) dc, .slice (some ⟨g, i, none⟩) (n + 1 - i) sc]).run Try.prog w.drew = .ok (goInt ((n - i : Nat) : Int)) (w.drew.setRow g row1) := fun ty dc sc => by
    rw [← hrow1]
    refine run_copy_rowK w.drew 32 32 ty 70 g ((i + 1)) (n - i) dc ⟨g, i, none⟩ (n + 1 - i) sc cur 70 tl 1 (n - i) Try.underlying32 hsz hg (by simp only [Nat.min_def]; split <;> omega) (by omega) (fun j v hj => ?_) (by rw [htll]; omega) (fun v hv => ?_)
    · rw [Addr.add_lit, cell_of (w := w.drew) hg]
      rw [← htl, List.getElem?_drop, List.getElem?_take] at hj
      split at hj
      · rw [← hj]; simp
      · cases hj
    · rw [← htl] at hv
      exact h1 v (List.mem_of_mem_drop hv)
  have hg1 : (w.drew.setRow g row1).heap[g]? = some (.cells row1 70 (0, 0)) := setRow_heap w.drew g cur _ 70 _ hg
  have hrl : row1.size = cur.size := by rw [← hrow1]; simp [htll]; omega
  obtain ⟨row2, hrow2⟩ : ∃ r, (row1.toList.take (i) ++ c ++ row1.toList.drop (i + c.length)).toArray = r := ⟨_, rfl⟩
  have hcp2 : ∀ (W : World), W = w.drew.setRow g row1 → ∀ ty dc, (Builtin.copy_ #[32, 32] ty #[.slice (some ⟨g, i, none⟩) (n + 1 - i) dc, .slice (some ⟨vb, 0, none⟩) 1 1]).run Try.prog W = .ok (goInt 1) (W.setRow g row2) := fun W hW ty dc => by
    subst hW
    rw [← hrow2]
    refine run_copy_rowK _ 32 32 ty 70 g (i) (n + 1 - i) dc ⟨vb, 0, none⟩ 1 1 row1 70 c 1 1 Try.underlying32 hsz hg1 (by simp only [Nat.min_def]; split <;> omega) (by omega) (fun j v hj => ?_) (by rw [hrl, hc]; omega) h1c
    have hv1 : (w.drew.setRow g row1).heap[vb]? = some (.cells c.toArray 70 (0, 0)) := by rw [setRow_ne _ _ _ hne]; exact hv
    rw [Addr.add_lit, cell_of hv1, Nat.zero_add]
    simpa using hj
  have hfin : row2 = (cur.toList.take (i) ++ c ++ (cur.toList.take (n)).drop (i) ++ cur.toList.drop ((n + 1))).toArray := by
    rw [← hrow2, ← hrow1, ← htl]
    have hpi := put_in cur.toList c 1 i n hc hin (by rw [hcl]; omega)
    simp only [Nat.mul_one] at hpi
    exact congrArg List.toArray hpi
  have HF := Lib.hid hfin
  clear hfin hrow1 hrow2 htll htl hcl hsz hg1 hrl h1 h1c
  go_enter Try.func62, Try.ntmps62
  go_wp2_with (simp only [hov])
  go_region_law (refine step_copy_run rfl _ _ 32 32 rfl _ _ (by simp [Act.eval, Act.put]) (by simp [Act.eval, Act.put]) (hcp1 _ _ _) ?_)
  go_wp2_with (at_builtin; refine wpList_copy_run _ rfl _ _ 32 32 rfl _ _ rfl rfl (hcp2 _ rfl _ _) ?_)
  go_ret
  exact ⟨rfl, 1, by rw [← HF.out, setRow_setRow]; rfl⟩
set_option maxHeartbeats 4000000 in
set_option maxRecDepth 100000 in
theorem insP_end (w : World) (q : Prop) (v : Value) (n vb : Nat) (xs c : List Value) (h : SRow w 70 1 q v n xs) (hv : w.heap[vb]? = some (.cells c.toArray 70 (0, 0))) (hc : c.length = 1)
    (h1c : ∀ v ∈ c, v.oneCell' = true) (hbytes : (n + 1) * 8 ≤ 140737488355328) :
    Calls Try.prog 62 #[v, .int .i64 n, .slice (some ⟨vb, 0, none⟩) 1 1] w fun e w' => ∃ v', e = .returned v' ∧ Ins w 70 1 q v (n + 1) (xs ++ c) v' w' := by
  obtain ⟨v', w', hr, hI⟩ := app_one (P := Try.prog) w 32 70 (.pointer none) 1 8 q v n xs c vb 1 Try.underlying32 info70 rfl (by decide) h hv hc h1c hbytes (by unfold maxLen; omega) 32
  have HI := Lib.hid hI
  obtain ⟨a, cap, rfl, hca⟩ : ∃ a cap, v = .slice a n cap ∧ n ≤ cap := by
    rcases h.2 with ⟨rfl, rfl⟩ | ⟨g, cap, cur, rfl, _, hn, _⟩
    · exact ⟨none, 0, rfl, Nat.le_refl _⟩
    · exact ⟨_, cap, rfl, hn⟩
  have hnn : n ≤ 140737488355328 := by omega
  clear hI h h1c hc hv
  by_cases hcn : cap = n
  · subst hcn
    go_enter Try.func62, Try.ntmps62
    go_wp2_with (at_builtin; refine Lib.wpList_append_run _ rfl _ _ 32 32 rfl _ _ rfl rfl _ _ hr ?_)
    go_ret
    exact ⟨v', rfl, HI.out⟩
  · go_enter Try.func62, Try.ntmps62
    go_wp2_with (at_builtin; refine Lib.wpList_append_run _ rfl _ _ 32 32 rfl _ _ rfl rfl _ _ hr ?_)
    go_ret
    exact ⟨v', rfl, HI.out⟩
set_option maxHeartbeats 4000000 in
set_option maxRecDepth 100000 in
theorem insP_grow (w : World) (g n cap i vb : Nat) (cur : Array Value) (xs c : List Value) (hg : w.heap[g]? = some (.cells cur 70 (0, 0))) (hv : w.heap[vb]? = some (.cells c.toArray 70 (0, 0))) (hc : c.length = 1)
    (h1c : ∀ v ∈ c, v.oneCell' = true) (h1 : ∀ v ∈ xs, v.oneCell' = true) (hi : i < n) (hn : n ≤ cap) (hroom : cap < n + 1) (hbytes : (n + 1) * 8 ≤ 140737488355328) (hcur : cap ≤ cur.size) (hxs : cur.toList.take (n) = xs) :
    Calls Try.prog 62 #[.slice (some ⟨g, 0, none⟩) n cap, .int .i64 i, .slice (some ⟨vb, 0, none⟩) 1 1] w fun e w' =>
      ∃ G row, e = .returned (.slice (some ⟨w.heap.size, 0, none⟩) (n + 1) G) ∧ n + 1 ≤ G ∧ G ≤ maxLen ∧ row.size = G ∧ row.toList.take ((n + 1)) = xs.take (i) ++ c ++ xs.drop (i) ∧
        w'.heap[w.heap.size]? = some (.cells row 70 (0, 0)) ∧ w.grownBy w' none := by
  obtain ⟨i0, hi0, hzz⟩ := Option.map_eq_some_iff.1 info70
  simp only [Prod.mk.injEq] at hzz
  obtain ⟨hz0, hz1, hz2⟩ := hzz
  have hsz : (Try.prog.info? 70).map (·.size) = some 1 := by kernel_rfl
  have hcl : cur.toList.length = cur.size := Array.length_toList
  have hxl : xs.length = n := by rw [← hxs, List.length_take]; omega
  have hgw := lt_of hg
  have hvw := lt_of hv
  have hsrc : ∀ (W : World), (∀ k, k < w.heap.size → W.heap[k]? = w.heap[k]?) → ∀ o j u, (xs.drop o)[j]? = some u → W.cell? ((⟨g, o, none⟩ : Addr).add j) = some u := fun W hW o j u hj => by
    rw [Addr.add_lit, cell_of ((hW g hgw).trans hg)]
    rw [List.getElem?_drop, ← hxs, List.getElem?_take] at hj
    split at hj
    · simpa using hj
    · cases hj
  have hold : (Builtin.firstCells i0.size i (.slice (some ⟨g, 0, none⟩) i cap)).run Try.prog w.drew = .ok (xs.take (i)).toArray w.drew := by
    rw [hz1]
    refine run_firstCells_some w.drew 1 i ⟨g, 0, none⟩ i cap (xs.take (i)) (by rw [List.length_take]; omega) (fun j v hj => ?_)
    rw [List.getElem?_take] at hj
    split at hj
    · exact hsrc w.drew (fun _ _ => rfl) 0 j v (by simpa using hj)
    · cases hj
  have hrz0 := fun ty => Lib.run_append_grow_zeros (P := Try.prog) w 32 3 ty 70 i0 (.pointer none) .i64 .i64 Try.underlying32 Try.underlying3 hi0 hz0 (some ⟨g, 0, none⟩) i cap (xs.take (i)) hold (n + 1 - i) (by omega) (by omega) (by omega) (by omega) (by rw [hz2]; omega)
    (by rw [hz2, show i + (n + 1 - i) = n + 1 by omega]; exact growslice_fits hroom hbytes)
  rw [show i + (n + 1 - i) = n + 1 by omega] at hrz0
  have hGn := grownCap_ge w (n + 1) cap 70
  have hGm := grownCap_le_maxLen w (n + 1) cap 70 (by unfold maxLen; omega)
  obtain ⟨G, hG⟩ : ∃ G, grownCap w (n + 1) cap 70 = G := ⟨_, rfl⟩
  rw [hG] at hrz0 hGn hGm
  obtain ⟨Z, hZ⟩ : ∃ Z : List Value, (Builtin.zeroCells (Value.pointer none).cells (n + 1 - i) ++ Builtin.zeroCells (Value.pointer none).cells (G - (n + 1))).toList = Z := ⟨_, rfl⟩
  have hZl : Z.length = (G - i) := by
    rw [← hZ, Array.length_toList, Array.size_append, size_zeroCells, size_zeroCells]
    have : (Value.pointer none).cells.size = 1 := by decide
    rw [this]; omega
  obtain ⟨R0, hR0⟩ : ∃ R : Array Value, (xs.take (i) ++ Z).toArray = R := ⟨_, rfl⟩
  have hrow0 : (xs.take (i)).toArray ++ Builtin.zeroCells (Value.pointer none).cells (n + 1 - i) ++ Builtin.zeroCells (Value.pointer none).cells (G - (n + 1)) = R0 := by
    rw [← hR0, ← hZ]
    apply Array.ext'
    simp [List.append_assoc]
  rw [hrow0] at hrz0
  obtain ⟨hp1, hp2, hp3⟩ := put_new xs c Z 1 i n (by omega) hc (by omega) (by rw [hZl]; omega)
  simp only [Nat.mul_one] at hp1 hp2 hp3
  have hR0t : R0.toList = xs.take (i) ++ Z := by rw [← hR0]
  rw [← hR0t] at hp1 hp2 hp3
  have hR0s : R0.size = G := by
    rw [← Array.length_toList, hR0t, List.length_append, List.length_take, hZl]; omega
  obtain ⟨R1, hR1⟩ : ∃ R : Array Value, (R0.toList.take (i) ++ c ++ R0.toList.drop (i + c.length)).toArray = R := ⟨_, rfl⟩
  have hR1t : R1.toList = R0.toList.take (i) ++ c ++ R0.toList.drop (i + c.length) := by rw [← hR1]
  rw [← hR1t] at hp1 hp2 hp3
  obtain ⟨R2, hR2⟩ : ∃ R : Array Value, (R1.toList.take ((i + 1)) ++ xs.drop (i) ++ R1.toList.drop ((i + 1) + (xs.drop (i)).length)).toArray = R := ⟨_, rfl⟩
  have hR2t : R2.toList = R1.toList.take ((i + 1)) ++ xs.drop (i) ++ R1.toList.drop ((i + 1) + (xs.drop (i)).length) := by rw [← hR2]
  rw [← hR2t] at hp1 hp3
  have hR1s : R1.size = G := by rw [← Array.length_toList, hp2, Array.length_toList]; exact hR0s
  have hR2s : R2.size = G := by rw [← Array.length_toList, hp1, Array.length_toList]; exact hR0s
  obtain ⟨N, hN⟩ : ∃ N, w.heap.size = N := ⟨_, rfl⟩
  obtain ⟨W0, hW0⟩ : ∃ W, w.drew.alloc (.cells R0 70) = W := ⟨_, rfl⟩
  have hW0g : W0.heap[N]? = some (.cells R0 70 (0, 0)) := by rw [← hW0, ← hN]; exact heap_alloc_new w.drew _
  have hW0o : ∀ k, k < w.heap.size → W0.heap[k]? = w.heap[k]? := fun k hk => by rw [← hW0]; exact heap_alloc_old w.drew _ hk
  have hdl : (xs.drop (i)).length = (n - i) := by rw [List.length_drop, hxl]
  have hcpA : ∀ (W : World), W.heap = W0.heap → ∀ ty dc, (Builtin.copy_ #[32, 32] ty #[.slice (some ⟨N, i, none⟩) (n + 1 - i) dc, .slice (some ⟨vb, 0, none⟩) 1 1]).run Try.prog W = .ok (goInt 1) (W.setRow N R1) := fun W hW ty dc => by
    rw [← hR1]
    refine run_copy_rowK W 32 32 ty 70 N (i) (n + 1 - i) dc ⟨vb, 0, none⟩ 1 1 R0 70 c 1 1 Try.underlying32 hsz (by rw [hW]; exact hW0g) (by simp only [Nat.min_def]; split <;> omega) (by omega) (fun j v hj => ?_) (by rw [hR0s, hc]; omega) h1c
    rw [Addr.add_lit, cell_of (e := 70) (fz := (0, 0)) (by rw [hW]; exact (hW0o vb hvw).trans hv), Nat.zero_add]
    simpa using hj
  have hcpB : ∀ (W : World), W.heap = (W0.setRow N R1).heap → ∀ ty dc sc, (Builtin.copy_ #[32, 32] ty #[.slice (some ⟨N, (i + 1), none⟩) (n - i) dc, .slice (some ⟨g, i, none⟩) (n - i) sc]).run Try.prog W = .ok (goInt ((n - i : Nat) : Int)) (W.setRow N R2) := fun W hW ty dc sc => by
    rw [← hR2]
    refine run_copy_rowK W 32 32 ty 70 N ((i + 1)) (n - i) dc ⟨g, i, none⟩ (n - i) sc R1 70 (xs.drop (i)) 1 (n - i) Try.underlying32 hsz (by rw [hW]; exact setRow_heap W0 N R0 R1 70 _ hW0g) (by simp only [Nat.min_def]; split <;> omega) (by omega) (fun j v hj => ?_) (by rw [hR1s, hdl]; omega)
      (fun v hv => h1 v (List.mem_of_mem_drop hv))
    exact hsrc W (fun k hk => by rw [hW, setRow_ne _ _ _ (by omega)]; exact hW0o k hk) (i) j v hj
  have hW0s : W0.heap.size = N + 1 := by rw [← hW0, ← hN]; simp
  have hW0e : W0.os = w.os ∧ W0.tape = w.tape ∧ W0.output = w.output := by rw [← hW0]; exact ⟨rfl, rfl, rfl⟩
  have hfr : ∀ W : World, W.os = W0.os → W.tape = W0.tape → W.output = W0.output → W.heap = ((W0.setRow N R1).setRow N R2).heap → W.heap[w.heap.size]? = some (.cells R2 70 (0, 0)) ∧ w.grownBy W none := fun W a1 a2 a3 a4 => by
    refine ⟨by rw [hN, a4]; exact setRow_heap _ N R1 R2 70 _ (setRow_heap W0 N R0 R1 70 _ hW0g), a1.trans hW0e.1, a2.trans hW0e.2.1, a3.trans hW0e.2.2, by rw [a4]; simp [hW0s]; omega, fun k hk _ => ?_⟩
    rw [a4, setRow_ne _ _ _ (by omega), setRow_ne _ _ _ (by omega)]
    exact hW0o k hk
  have HF := Lib.hid hfr
  have HP := Lib.hid hp3
  have HG := Lib.hid (show n + 1 ≤ G ∧ G ≤ maxLen ∧ R2.size = G from ⟨hGn, hGm, hR2s⟩)
  have hG63 : G ≤ 9223372036854775807 := by unfold maxLen at hGm; omega
  have hrz : ∀ ty, (Builtin.append_ #[32, 3] ty #[.slice (some ⟨g, 0, none⟩) i cap, .int .i64 ((n : Int) + 1 - (i : Int))]).run Try.prog w = .ok (.slice (some ⟨N, 0, none⟩) (n + 1) G) W0 := fun ty => by
    rw [show (n : Int) + 1 - (i : Int) = ((n + 1 - i : Nat) : Int) by omega, ← hN, ← hW0]
    exact hrz0 ty
  have hz2 : ¬ ((i : Int) = (n : Int)) := by omega
  have hw1 : IntKind.i64.wrap ((i : Int) + 1) = (i : Int) + 1 := by rw [IntKind.wrap_i64]; omega
  have hw2 : IntKind.i64.wrap ((n : Int) + 1) = (n : Int) + 1 := by rw [IntKind.wrap_i64]; omega
  have hb1 : (0 : Int) ≤ (i : Int) + 1 := by omega
  have hin : i ≤ n := by omega
  have hb3 : (i : Int) ≤ (n : Int) := by omega
  have hGi : ¬ (G = i) := by omega
  have hGim : ¬ (G = i + 1) := by omega
  have hci : ¬ (cap = i) := by omega
  have hr3 : (cap : Int) < (n : Int) + 1 := by omega
  clear hfr hW0e hp1 hp2 hp3 hGm hR1t hR2t hR0t hR1 hR2 hR0 hR0s hR1s hR2s hrow0 hrz0 hZ hZl hold hsrc hW0 hW0g hW0o hW0s hG hdl hxs hxl hcl hsz hz0 hz1 hz2 hi0 h1 h1c hg hv hc hgw hvw
  go_enter Try.func62, Try.ntmps62
  go_wp2_with (first
    | (at_builtin; refine Lib.wpList_append_run _ rfl _ _ _ _ rfl _ _ rfl rfl _ _ (hrz _) ?_)
    | (at_builtin; refine wpList_copy_run _ rfl _ _ 32 32 rfl _ _ rfl rfl (hcpA _ rfl _ _) ?_))
  go_region_law (refine step_copy_run rfl _ _ 32 32 rfl _ _ (by simp [Act.eval, Act.put]) (by simp [Act.eval, Act.put]) (hcpB ((W0.setRow N R1).drew) rfl 3 (G - (i + 1)) (cap - i)) ?_)
  go_wp2
  go_ret
  exact ⟨G, R2, by subst hN; rfl, HG.out.1, HG.out.2.1, HG.out.2.2, HP.out, (HF.out ((W0.setRow N R1).drew.setRow N R2) rfl rfl rfl rfl).1, (HF.out ((W0.setRow N R1).drew.setRow N R2) rfl rfl rfl rfl).2⟩
/-- slices.Insert of one element. -/
theorem insP_calls (w : World) (q : Prop) (v : Value) (n i vb : Nat) (xs c : List Value) (h : SRow w 70 1 q v n xs) (hi : i ≤ n) (hv : w.heap[vb]? = some (.cells c.toArray 70 (0, 0))) (hne : v.ownBlock ≠ some vb) (hc : c.length = 1)
    (h1c : ∀ v ∈ c, v.oneCell' = true) (h1 : ∀ v ∈ xs, v.oneCell' = true) (hbytes : (n + 1) * 8 ≤ 140737488355328) :
    Calls Try.prog 62 #[v, .int .i64 i, .slice (some ⟨vb, 0, none⟩) 1 1] w fun e w' => ∃ v', e = .returned v' ∧ Ins w 70 1 q v (n + 1) (xs.take i ++ c ++ xs.drop i) v' w' := by
  have hlen : xs.length = n := by have := h.1; omega
  by_cases hin : i = n
  · subst hin
    have e := insP_end w q v i vb xs c h hv hc h1c hbytes
    rw [List.take_of_length_le (by omega), List.drop_of_length_le (by omega), List.append_nil]
    exact e
  · rcases (srow1.1 h).2 with ⟨rfl, rfl⟩ | ⟨g, cap, cur, rfl, hg, hn, hm, hs, hq, htk⟩
    · omega
    · have hvg : vb ≠ g := fun e => hne (by rw [e]; rfl)
      have hcl : cur.toList.length = cur.size := Array.length_toList
      have hlx : (xs.take i ++ c ++ xs.drop i).length = n + 1 := by
        rw [List.length_append, List.length_append, List.length_take, List.length_drop, hlen, hc]; omega
      by_cases hr : n + 1 ≤ cap
      · refine (insP_shift w g n cap i vb cur c hg hv hvg hc h1c (by rw [htk]; exact h1) (by omega) hr hm hs).mono ?_
        rintro e w' ⟨rfl, k, rfl⟩
        have hsz : (cur.toList.take i ++ c ++ (cur.toList.take n).drop i ++ cur.toList.drop (n + 1)).length = cur.size := by
          simp only [List.length_append, List.length_take, List.length_drop, hcl, hc]; omega
        refine ⟨_, rfl, ⟨srow1.2 ⟨hlx, .inr ⟨g, cap, _, rfl, setRow_heap (w.drewN k) g cur _ 70 _ hg, hr, hm, ?_, ?_, ?_⟩⟩, ⟨rfl, rfl, rfl, by simp, fun k' hk hk' => ?_⟩, .inl rfl, by simp [Value.ownBlock]⟩⟩
        · rw [List.size_toArray, hsz]; exact hs
        · intro hq'; rw [List.size_toArray, hsz]; exact hq hq'
        · have e1 : cur.toList.take i = xs.take i := by rw [← htk, List.take_take, Nat.min_eq_left (by omega)]
          rw [htk, e1]
          exact List.take_left' hlx
        · exact setRow_ne _ _ _ (fun e => hk' (by rw [e]; rfl))
      · refine (insP_grow w g n cap i vb cur xs c hg hv hc h1c h1 (by omega) hn (by omega) hbytes hs htk).mono ?_
        rintro e w' ⟨G, row, rfl, hG1, hG2, hR, hRt, hh, hgr⟩
        exact ⟨_, rfl, ⟨srow1.2 ⟨hlx, .inr ⟨w.heap.size, G, row, rfl, hh, hG1, hG2, Nat.le_of_eq hR.symm, fun _ => hR.symm, hRt⟩⟩, grownBy_none hgr, .inr ⟨_, rfl, Nat.le_refl _⟩, by simp [Value.ownBlock]⟩⟩
end Go.Proofs.Ytbbiocmlicoipaa.PC
