/- A part of the proof of cursorBounds_holds: its texts, one behind the other, as far as the proof stands on them. (Lines of its texts on the printed words and functions began as lines that a program of the kit had written for this statement.) -/
import Derived.ArgAppend
import Derived.Below
import Derived.BigQuiet
import Derived.Deep.AppendLies
import Derived.Deep.CutBlock
import Derived.Deep.DeepCutAuto
import Derived.Deep.Draws
import Derived.Deep.LoopGhost
import Derived.Deep.OwnRows
import Derived.Deep.QuietTactic
import Derived.Deep.RegionHeld3
import Derived.Deep.RegionLaw
import Derived.KernelRfl
import Derived.Laws.BitsLemmas
import Derived.Laws.BytesArg
import Derived.Laws.CopyRow
import Derived.Laws.Externs
import Derived.Laws.IdiomCopy
import Derived.Laws.MakeOwn
import Derived.Laws.NewBlocks
import Derived.Laws.OwnMore
import Derived.Laws.Rows
import Derived.Laws.Slices
import Derived.Laws.StructEq
import Derived.Lib.AppendStr
import Derived.Lib.AppendZerosOnto
import Derived.Lib.ConvBytes
import Derived.Lib.Hide
import Derived.Lib.JoinLaws
import Derived.Lib.Overlaps
import Derived.Lib.Walk
import Derived.Maps.AppendAt
import Derived.OrdersHeld
import Derived.OwnWalk
import Derived.RowKit
import Derived.RowKit3
import Derived.Tactics
import Derived.Test.YtefnpalkkhhkfaaProg
import Derived.WalkKit
import Derived.WalkSpells
import Derived.WideLaws
import Derived.Test.YtefnpalkkhhkfaaBA3
namespace Go.Proofs.Ytefnpalkkhhkfaa.PC
open Go.RowKit Go.Proofs.Ytefnpalkkhhkfaa.K
set_option linter.unusedVariables false
set_option linter.unusedSimpArgs false
theorem ovE (w : World) (ga gb oa ob la ca lb cb : Nat) (hne : ga ≠ gb) {xa xb : Array Value} (ha : w.heap[ga]? = some (.cells xa 104 (0, 0))) (hb : w.heap[gb]? = some (.cells xb 104 (0, 0))) (hk : xb.size ≠ 0) :
    (callFunc 74 #[.slice (some ⟨ga, oa, none⟩) la ca, .slice (some ⟨gb, ob, none⟩) lb cb]).run Try.prog w = .ok (.value (.bool false)) w := by
  rw [run_callFunc_extern Try.func74 (by kernel_rfl) (by kernel_rfl) (by kernel_rfl) (e := Extern.SlicesOverlaps.overlaps #[71, 71] #[4]) (by kernel_rfl),
    run_overlaps2 w 71 4 104 Try.underlying71 2 (fun _ => by kernel_rfl) ga gb oa ob la ca lb cb hne ha hb hk]
  rfl
set_option maxHeartbeats 4000000 in
set_option maxRecDepth 100000 in
theorem insE_shift (w : World) (g n cap i vb : Nat) (cur : Array Value) (c : List Value) (hg : w.heap[g]? = some (.cells cur 104 (0, 0))) (hv : w.heap[vb]? = some (.cells c.toArray 104 (0, 0))) (hne : vb ≠ g) (hc : c.length = 2)
    (h1c : ∀ v ∈ c, v.oneCell' = true) (h1 : ∀ v ∈ cur.toList.take (n * 2), v.oneCell' = true) (hi : i < n) (hroom : n + 1 ≤ cap) (hcap : cap ≤ maxLen) (hcur : cap * 2 ≤ cur.size) :
    Calls Try.prog 61 #[.slice (some ⟨g, 0, none⟩) n cap, .int .i64 i, .slice (some ⟨vb, 0, none⟩) 1 1] w fun e w' =>
      e = .returned (.slice (some ⟨g, 0, none⟩) (n + 1) cap) ∧ ∃ k, w' = (w.drewN k).setRow g (cur.toList.take (i * 2) ++ c ++ (cur.toList.take (n * 2)).drop (i * 2) ++ cur.toList.drop ((n + 1) * 2)).toArray := by
  unfold maxLen at hcap
  have hov : ∀ oa ob la ca lb cb, (callFunc 74 #[.slice (some ⟨vb, oa, none⟩) la ca, .slice (some ⟨g, ob, none⟩) lb cb]).run Try.prog w = .ok (.value (.bool false)) w := fun oa ob la ca lb cb => ovE w vb g oa ob la ca lb cb hne hv hg (by omega)
  have hz2 : ¬ ((i : Int) = (n : Int)) := by omega
  have hw1 : IntKind.i64.wrap ((i : Int) + 1) = (i : Int) + 1 := by rw [IntKind.wrap_i64]; omega
  have hw2 : IntKind.i64.wrap ((n : Int) + 1) = (n : Int) + 1 := by rw [IntKind.wrap_i64]; omega
  have hb1 : (0 : Int) ≤ (i : Int) + 1 := by omega
  have hin : i ≤ n := by omega
  have hb2 : ¬ (cap = i + 1) := by omega
  have hb3 : (i : Int) ≤ (n : Int) + 1 := by omega
  have hb4 : ¬ (cap = i) := by omega
  have hsz : (Try.prog.info? 104).map (·.size) = some 2 := by kernel_rfl
  have hcl : cur.toList.length = cur.size := Array.length_toList
  obtain ⟨tl, htl⟩ : ∃ tl, (cur.toList.take (n * 2)).drop (i * 2) = tl := ⟨_, rfl⟩
  have htll : tl.length = (n - i) * 2 := by rw [← htl, List.length_drop, List.length_take, hcl]; omega
  obtain ⟨row1, hrow1⟩ : ∃ r, (cur.toList.take ((i + 1) * 2) ++ tl ++ cur.toList.drop ((i + 1) * 2 + tl.length)).toArray = r := ⟨_, rfl⟩
  have hcp1 : ∀ ty dc sc, (Builtin.copy_ #[71, 71] ty #[.slice (some ⟨g, (i + 1) * 2, none⟩) (n - i) dc, .slice (some ⟨g, i * 2, none⟩) (n + 1 - i) sc]).run Try.prog w.drew = .ok (goInt ((n - i : Nat) : Int)) (w.drew.setRow g row1) := fun ty dc sc => by
    rw [← hrow1]
    refine run_copy_rowK w.drew 71 71 ty 104 g ((i + 1) * 2) (n - i) dc ⟨g, i * 2, none⟩ (n + 1 - i) sc cur 104 tl 2 (n - i) Try.underlying71 hsz hg (by simp only [Nat.min_def]; split <;> omega) htll (fun j v hj => ?_) (by rw [htll]; omega) (fun v hv => ?_)
    · rw [Addr.add_lit, cell_of (w := w.drew) hg]
      rw [← htl, List.getElem?_drop, List.getElem?_take] at hj
      split at hj
      · rw [← hj]; simp
      · cases hj
    · rw [← htl] at hv
      exact h1 v (List.mem_of_mem_drop hv)
  have hg1 : (w.drew.setRow g row1).heap[g]? = some (.cells row1 104 (0, 0)) := setRow_heap w.drew g cur _ 104 _ hg
  have hrl : row1.size = cur.size := by rw [← hrow1]; simp [htll]; omega
  obtain ⟨row2, hrow2⟩ : ∃ r, (row1.toList.take (i * 2) ++ c ++ row1.toList.drop (i * 2 + c.length)).toArray = r := ⟨_, rfl⟩
  have hcp2 : ∀ (W : World), W = w.drew.setRow g row1 → ∀ ty dc, (Builtin.copy_ #[71, 71] ty #[.slice (some ⟨g, i * 2, none⟩) (n + 1 - i) dc, .slice (some ⟨vb, 0, none⟩) 1 1]).run Try.prog W = .ok (goInt 1) (W.setRow g row2) := fun W hW ty dc => by
    subst hW
    rw [← hrow2]
    refine run_copy_rowK _ 71 71 ty 104 g (i * 2) (n + 1 - i) dc ⟨vb, 0, none⟩ 1 1 row1 104 c 2 1 Try.underlying71 hsz hg1 (by simp only [Nat.min_def]; split <;> omega) (by omega) (fun j v hj => ?_) (by rw [hrl, hc]; omega) h1c
    have hv1 : (w.drew.setRow g row1).heap[vb]? = some (.cells c.toArray 104 (0, 0)) := by rw [setRow_ne _ _ _ hne]; exact hv
    rw [Addr.add_lit, cell_of hv1, Nat.zero_add]
    simpa using hj
  have hfin : row2 = (cur.toList.take (i * 2) ++ c ++ (cur.toList.take (n * 2)).drop (i * 2) ++ cur.toList.drop ((n + 1) * 2)).toArray := by
    rw [← hrow2, ← hrow1, ← htl]
    exact congrArg List.toArray (put_in cur.toList c 2 i n hc hin (by rw [hcl]; omega))
  have HF := Lib.hid hfin
  clear hfin hrow1 hrow2 htll htl hcl hsz hg1 hrl h1 h1c
  go_enter Try.func61, Try.ntmps61
  go_wp2_with (simp only [hov])
  go_region_law (refine step_copy_run rfl _ _ 71 71 rfl _ _ (by simp [Act.eval, Act.put]) (by simp [Act.eval, Act.put]) (hcp1 _ _ _) ?_)
  go_wp2_with (at_builtin; refine wpList_copy_run _ rfl _ _ 71 71 rfl _ _ rfl rfl (hcp2 _ rfl _ _) ?_)
  go_ret
  exact ⟨rfl, 1, by rw [← HF.out, setRow_setRow]; rfl⟩
set_option maxHeartbeats 4000000 in
set_option maxRecDepth 100000 in
theorem insE_end (w : World) (q : Prop) (v : Value) (n vb : Nat) (xs c : List Value) (h : SRow w 104 2 q v n xs) (hv : w.heap[vb]? = some (.cells c.toArray 104 (0, 0))) (hc : c.length = 2)
    (h1c : ∀ v ∈ c, v.oneCell' = true) (hbytes : (n + 1) * 16 ≤ 140737488355328) :
    Calls Try.prog 61 #[v, .int .i64 n, .slice (some ⟨vb, 0, none⟩) 1 1] w fun e w' => ∃ v', e = .returned v' ∧ Ins w 104 2 q v (n + 1) (xs ++ c) v' w' := by
  obtain ⟨v', w', hr, hI⟩ := app_one (P := Try.prog) w 71 104 (.agg #[(.int .i64 0), (.int .i64 0)]) 2 16 q v n xs c vb 1 Try.underlying71 info104 rfl (by decide) h hv hc h1c hbytes (by unfold maxLen; omega) 71
  have HI := Lib.hid hI
  obtain ⟨a, cap, rfl, hca⟩ : ∃ a cap, v = .slice a n cap ∧ n ≤ cap := by
    rcases h.2 with ⟨rfl, rfl⟩ | ⟨g, cap, cur, rfl, _, hn, _⟩
    · exact ⟨none, 0, rfl, Nat.le_refl _⟩
    · exact ⟨_, cap, rfl, hn⟩
  have hnn : n ≤ 8796093022208 := by omega
  clear hI h h1c hc hv
  by_cases hcn : cap = n
  · subst hcn
    go_enter Try.func61, Try.ntmps61
    go_wp2_with (at_builtin; refine Lib.wpList_append_run _ rfl _ _ 71 71 rfl _ _ rfl rfl _ _ hr ?_)
    go_ret
    exact ⟨v', rfl, HI.out⟩
  · go_enter Try.func61, Try.ntmps61
    go_wp2_with (at_builtin; refine Lib.wpList_append_run _ rfl _ _ 71 71 rfl _ _ rfl rfl _ _ hr ?_)
    go_ret
    exact ⟨v', rfl, HI.out⟩
set_option maxHeartbeats 4000000 in
set_option maxRecDepth 100000 in
theorem insE_grow (w : World) (g n cap i vb : Nat) (cur : Array Value) (xs c : List Value) (hg : w.heap[g]? = some (.cells cur 104 (0, 0))) (hv : w.heap[vb]? = some (.cells c.toArray 104 (0, 0))) (hc : c.length = 2)
    (h1c : ∀ v ∈ c, v.oneCell' = true) (h1 : ∀ v ∈ xs, v.oneCell' = true) (hi : i < n) (hn : n ≤ cap) (hroom : cap < n + 1) (hbytes : (n + 1) * 16 ≤ 140737488355328) (hcur : cap * 2 ≤ cur.size) (hxs : cur.toList.take (n * 2) = xs) :
    Calls Try.prog 61 #[.slice (some ⟨g, 0, none⟩) n cap, .int .i64 i, .slice (some ⟨vb, 0, none⟩) 1 1] w fun e w' =>
      ∃ G row, e = .returned (.slice (some ⟨w.heap.size, 0, none⟩) (n + 1) G) ∧ n + 1 ≤ G ∧ G ≤ maxLen ∧ row.size = G * 2 ∧ row.toList.take ((n + 1) * 2) = xs.take (i * 2) ++ c ++ xs.drop (i * 2) ∧
        w'.heap[w.heap.size]? = some (.cells row 104 (0, 0)) ∧ w.grownBy w' none := by
  obtain ⟨i0, hi0, hzz⟩ := Option.map_eq_some_iff.1 info104
  simp only [Prod.mk.injEq] at hzz
  obtain ⟨hz0, hz1, hz2⟩ := hzz
  have hsz : (Try.prog.info? 104).map (·.size) = some 2 := by kernel_rfl
  have hcl : cur.toList.length = cur.size := Array.length_toList
  have hxl : xs.length = n * 2 := by rw [← hxs, List.length_take]; omega
  have hgw := lt_of hg
  have hvw := lt_of hv
  have hsrc : ∀ (W : World), (∀ k, k < w.heap.size → W.heap[k]? = w.heap[k]?) → ∀ o j u, (xs.drop o)[j]? = some u → W.cell? ((⟨g, o, none⟩ : Addr).add j) = some u := fun W hW o j u hj => by
    rw [Addr.add_lit, cell_of ((hW g hgw).trans hg)]
    rw [List.getElem?_drop, ← hxs, List.getElem?_take] at hj
    split at hj
    · simpa using hj
    · cases hj
  have hold : (Builtin.firstCells i0.size i (.slice (some ⟨g, 0, none⟩) i cap)).run Try.prog w.drew = .ok (xs.take (i * 2)).toArray w.drew := by
    rw [hz1]
    refine run_firstCells_some w.drew 2 i ⟨g, 0, none⟩ i cap (xs.take (i * 2)) (by rw [List.length_take]; omega) (fun j v hj => ?_)
    rw [List.getElem?_take] at hj
    split at hj
    · exact hsrc w.drew (fun _ _ => rfl) 0 j v (by simpa using hj)
    · cases hj
  have hrz0 := fun ty => Lib.run_append_grow_zeros (P := Try.prog) w 71 3 ty 104 i0 (.agg #[(.int .i64 0), (.int .i64 0)]) .i64 .i64 Try.underlying71 Try.underlying3 hi0 hz0 (some ⟨g, 0, none⟩) i cap (xs.take (i * 2)) hold (n + 1 - i) (by omega) (by omega) (by omega) (by omega) (by rw [hz2]; omega)
    (by rw [hz2, show i + (n + 1 - i) = n + 1 by omega]; exact growslice_fits hroom hbytes)
  rw [show i + (n + 1 - i) = n + 1 by omega] at hrz0
  have hGn := grownCap_ge w (n + 1) cap 104
  have hGm := grownCap_le_maxLen w (n + 1) cap 104 (by unfold maxLen; omega)
  obtain ⟨G, hG⟩ : ∃ G, grownCap w (n + 1) cap 104 = G := ⟨_, rfl⟩
  rw [hG] at hrz0 hGn hGm
  obtain ⟨Z, hZ⟩ : ∃ Z : List Value, (Builtin.zeroCells (Value.agg #[.int .i64 0, .int .i64 0]).cells (n + 1 - i) ++ Builtin.zeroCells (Value.agg #[.int .i64 0, .int .i64 0]).cells (G - (n + 1))).toList = Z := ⟨_, rfl⟩
  have hZl : Z.length = (G - i) * 2 := by
    rw [← hZ, Array.length_toList, Array.size_append, size_zeroCells, size_zeroCells]
    have : (Value.agg #[Value.int .i64 0, Value.int .i64 0]).cells.size = 2 := by decide
    rw [this]; omega
  obtain ⟨R0, hR0⟩ : ∃ R : Array Value, (xs.take (i * 2) ++ Z).toArray = R := ⟨_, rfl⟩
  have hrow0 : (xs.take (i * 2)).toArray ++ Builtin.zeroCells (Value.agg #[.int .i64 0, .int .i64 0]).cells (n + 1 - i) ++ Builtin.zeroCells (Value.agg #[.int .i64 0, .int .i64 0]).cells (G - (n + 1)) = R0 := by
    rw [← hR0, ← hZ]
    apply Array.ext'
    simp [List.append_assoc]
  rw [hrow0] at hrz0
  obtain ⟨hp1, hp2, hp3⟩ := put_new xs c Z 2 i n hxl hc (by omega) (by rw [hZl]; omega)
  have hR0t : R0.toList = xs.take (i * 2) ++ Z := by rw [← hR0]
  rw [← hR0t] at hp1 hp2 hp3
  have hR0s : R0.size = G * 2 := by
    rw [← Array.length_toList, hR0t, List.length_append, List.length_take, hZl]; omega
  obtain ⟨R1, hR1⟩ : ∃ R : Array Value, (R0.toList.take (i * 2) ++ c ++ R0.toList.drop (i * 2 + c.length)).toArray = R := ⟨_, rfl⟩
  have hR1t : R1.toList = R0.toList.take (i * 2) ++ c ++ R0.toList.drop (i * 2 + c.length) := by rw [← hR1]
  rw [← hR1t] at hp1 hp2 hp3
  obtain ⟨R2, hR2⟩ : ∃ R : Array Value, (R1.toList.take ((i + 1) * 2) ++ xs.drop (i * 2) ++ R1.toList.drop ((i + 1) * 2 + (xs.drop (i * 2)).length)).toArray = R := ⟨_, rfl⟩
  have hR2t : R2.toList = R1.toList.take ((i + 1) * 2) ++ xs.drop (i * 2) ++ R1.toList.drop ((i + 1) * 2 + (xs.drop (i * 2)).length) := by rw [← hR2]
  rw [← hR2t] at hp1 hp3
  have hR1s : R1.size = G * 2 := by rw [← Array.length_toList, hp2, Array.length_toList]; exact hR0s
  have hR2s : R2.size = G * 2 := by rw [← Array.length_toList, hp1, Array.length_toList]; exact hR0s
  obtain ⟨N, hN⟩ : ∃ N, w.heap.size = N := ⟨_, rfl⟩
  obtain ⟨W0, hW0⟩ : ∃ W, w.drew.alloc (.cells R0 104) = W := ⟨_, rfl⟩
  have hW0g : W0.heap[N]? = some (.cells R0 104 (0, 0)) := by rw [← hW0, ← hN]; exact heap_alloc_new w.drew _
  have hW0o : ∀ k, k < w.heap.size → W0.heap[k]? = w.heap[k]? := fun k hk => by rw [← hW0]; exact heap_alloc_old w.drew _ hk
  have hdl : (xs.drop (i * 2)).length = (n - i) * 2 := by rw [List.length_drop, hxl]; omega
  have hcpA : ∀ (W : World), W.heap = W0.heap → ∀ ty dc, (Builtin.copy_ #[71, 71] ty #[.slice (some ⟨N, i * 2, none⟩) (n + 1 - i) dc, .slice (some ⟨vb, 0, none⟩) 1 1]).run Try.prog W = .ok (goInt 1) (W.setRow N R1) := fun W hW ty dc => by
    rw [← hR1]
    refine run_copy_rowK W 71 71 ty 104 N (i * 2) (n + 1 - i) dc ⟨vb, 0, none⟩ 1 1 R0 104 c 2 1 Try.underlying71 hsz (by rw [hW]; exact hW0g) (by simp only [Nat.min_def]; split <;> omega) (by omega) (fun j v hj => ?_) (by rw [hR0s, hc]; omega) h1c
    rw [Addr.add_lit, cell_of (e := 104) (fz := (0, 0)) (by rw [hW]; exact (hW0o vb hvw).trans hv), Nat.zero_add]
    simpa using hj
  have hcpB : ∀ (W : World), W.heap = (W0.setRow N R1).heap → ∀ ty dc sc, (Builtin.copy_ #[71, 71] ty #[.slice (some ⟨N, (i + 1) * 2, none⟩) (n - i) dc, .slice (some ⟨g, i * 2, none⟩) (n - i) sc]).run Try.prog W = .ok (goInt ((n - i : Nat) : Int)) (W.setRow N R2) := fun W hW ty dc sc => by
    rw [← hR2]
    refine run_copy_rowK W 71 71 ty 104 N ((i + 1) * 2) (n - i) dc ⟨g, i * 2, none⟩ (n - i) sc R1 104 (xs.drop (i * 2)) 2 (n - i) Try.underlying71 hsz (by rw [hW]; exact setRow_heap W0 N R0 R1 104 _ hW0g) (by simp only [Nat.min_def]; split <;> omega) hdl (fun j v hj => ?_) (by rw [hR1s, hdl]; omega)
      (fun v hv => h1 v (List.mem_of_mem_drop hv))
    exact hsrc W (fun k hk => by rw [hW, setRow_ne _ _ _ (by omega)]; exact hW0o k hk) (i * 2) j v hj
  have hW0s : W0.heap.size = N + 1 := by rw [← hW0, ← hN]; simp
  have hW0e : W0.os = w.os ∧ W0.tape = w.tape ∧ W0.output = w.output := by rw [← hW0]; exact ⟨rfl, rfl, rfl⟩
  have hfr : ∀ W : World, W.os = W0.os → W.tape = W0.tape → W.output = W0.output → W.heap = ((W0.setRow N R1).setRow N R2).heap → W.heap[w.heap.size]? = some (.cells R2 104 (0, 0)) ∧ w.grownBy W none := fun W a1 a2 a3 a4 => by
    refine ⟨by rw [hN, a4]; exact setRow_heap _ N R1 R2 104 _ (setRow_heap W0 N R0 R1 104 _ hW0g), a1.trans hW0e.1, a2.trans hW0e.2.1, a3.trans hW0e.2.2, by rw [a4]; simp [hW0s]; omega, fun k hk _ => ?_⟩
    rw [a4, setRow_ne _ _ _ (by omega), setRow_ne _ _ _ (by omega)]
    exact hW0o k hk
  have HF := Lib.hid hfr
  have HP := Lib.hid hp3
  have HG := Lib.hid (show n + 1 ≤ G ∧ G ≤ maxLen ∧ R2.size = G * 2 from ⟨hGn, hGm, hR2s⟩)
  have hG63 : G ≤ 9223372036854775807 := by unfold maxLen at hGm; omega
  have hrz : ∀ ty, (Builtin.append_ #[71, 3] ty #[.slice (some ⟨g, 0, none⟩) i cap, .int .i64 ((n : Int) + 1 - (i : Int))]).run Try.prog w = .ok (.slice (some ⟨N, 0, none⟩) (n + 1) G) W0 := fun ty => by
    rw [show (n : Int) + 1 - (i : Int) = ((n + 1 - i : Nat) : Int) by omega, ← hN, ← hW0]
    exact hrz0 ty
  have hz2 : ¬ ((i : Int) = (n : Int)) := by omega
  have hw1 : IntKind.i64.wrap ((i : Int) + 1) = (i : Int) + 1 := by rw [IntKind.wrap_i64]; omega
  have hw2 : IntKind.i64.wrap ((n : Int) + 1) = (n : Int) + 1 := by rw [IntKind.wrap_i64]; omega
  have hb1 : (0 : Int) ≤ (i : Int) + 1 := by omega
  have hin : i ≤ n := by omega
  have hb3 : (i : Int) ≤ (n : Int) := by omega
  have hGi : ¬ (G = i) := by omega
  have hGim : ¬ (G = i + 1) := by omega
  have hci : ¬ (cap = i) := by omega
  have hr3 : (cap : Int) < (n : Int) + 1 := by omega
  clear hfr hW0e hp1 hp2 hp3 hGm hR1t hR2t hR0t hR1 hR2 hR0 hR0s hR1s hR2s hrow0 hrz0 hZ hZl hold hsrc hW0 hW0g hW0o hW0s hG hdl hxs hxl hcl hsz hz0 hz1 hz2 hi0 h1 h1c hg hv hc hgw hvw
  go_enter Try.func61, Try.ntmps61
  go_wp2_with (first
    | (at_builtin; refine Lib.wpList_append_run _ rfl _ _ _ _ rfl _ _ rfl rfl _ _ (hrz _) ?_)
    | (at_builtin; refine wpList_copy_run _ rfl _ _ 71 71 rfl _ _ rfl rfl (hcpA _ rfl _ _) ?_))
  go_region_law (refine step_copy_run rfl _ _ 71 71 rfl _ _ (by simp [Act.eval, Act.put]) (by simp [Act.eval, Act.put]) (hcpB ((W0.setRow N R1).drew) rfl 3 (G - (i + 1)) (cap - i)) ?_)
  go_wp2
  go_ret
  exact ⟨G, R2, by subst hN; rfl, HG.out.1, HG.out.2.1, HG.out.2.2, HP.out, (HF.out ((W0.setRow N R1).drew.setRow N R2) rfl rfl rfl rfl).1, (HF.out ((W0.setRow N R1).drew.setRow N R2) rfl rfl rfl rfl).2⟩
/-- slices.Insert of one element. -/
theorem insE_calls (w : World) (q : Prop) (v : Value) (n i vb : Nat) (xs c : List Value) (h : SRow w 104 2 q v n xs) (hi : i ≤ n) (hv : w.heap[vb]? = some (.cells c.toArray 104 (0, 0))) (hne : v.ownBlock ≠ some vb) (hc : c.length = 2)
    (h1c : ∀ v ∈ c, v.oneCell' = true) (h1 : ∀ v ∈ xs, v.oneCell' = true) (hbytes : (n + 1) * 16 ≤ 140737488355328) :
    Calls Try.prog 61 #[v, .int .i64 i, .slice (some ⟨vb, 0, none⟩) 1 1] w fun e w' => ∃ v', e = .returned v' ∧ Ins w 104 2 q v (n + 1) (xs.take (i * 2) ++ c ++ xs.drop (i * 2)) v' w' := by
  have hlen := h.1
  by_cases hin : i = n
  · subst hin
    have e := insE_end w q v i vb xs c h hv hc h1c hbytes
    rw [List.take_of_length_le (by omega), List.drop_of_length_le (by omega), List.append_nil]
    exact e
  · rcases h.2 with ⟨rfl, rfl⟩ | ⟨g, cap, cur, rfl, hg, hn, hm, hs, hq, htk⟩
    · omega
    · have hvg : vb ≠ g := fun e => hne (by rw [e]; rfl)
      have hcl : cur.toList.length = cur.size := Array.length_toList
      have hnc : n * 2 ≤ cap * 2 := Nat.mul_le_mul_right _ hn
      have hlx : (xs.take (i * 2) ++ c ++ xs.drop (i * 2)).length = (n + 1) * 2 := by
        rw [List.length_append, List.length_append, List.length_take, List.length_drop, hlen, hc]; omega
      by_cases hr : n + 1 ≤ cap
      · refine (insE_shift w g n cap i vb cur c hg hv hvg hc h1c (by rw [htk]; exact h1) (by omega) hr hm hs).mono ?_
        rintro e w' ⟨rfl, k, rfl⟩
        have hsz : (cur.toList.take (i * 2) ++ c ++ (cur.toList.take (n * 2)).drop (i * 2) ++ cur.toList.drop ((n + 1) * 2)).length = cur.size := by
          simp only [List.length_append, List.length_take, List.length_drop, hcl, hc]; omega
        refine ⟨_, rfl, ⟨hlx, .inr ⟨g, cap, _, rfl, setRow_heap (w.drewN k) g cur _ 104 _ hg, hr, hm, ?_, ?_, ?_⟩⟩, ⟨rfl, rfl, rfl, by simp, fun k' hk hk' => ?_⟩, .inl rfl, by simp [Value.ownBlock]⟩
        · rw [List.size_toArray, hsz]; exact hs
        · intro hq'; rw [List.size_toArray, hsz]; exact hq hq'
        · have e1 : cur.toList.take (i * 2) = xs.take (i * 2) := by rw [← htk, List.take_take, Nat.min_eq_left (by omega)]
          rw [htk, e1]
          exact List.take_left' hlx
        · exact setRow_ne _ _ _ (fun e => hk' (by rw [e]; rfl))
      · refine (insE_grow w g n cap i vb cur xs c hg hv hc h1c h1 (by omega) hn (by omega) hbytes hs htk).mono ?_
        rintro e w' ⟨G, row, rfl, hG1, hG2, hR, hRt, hh, hgr⟩
        exact ⟨_, rfl, ⟨hlx, .inr ⟨w.heap.size, G, row, rfl, hh, hG1, hG2, Nat.le_of_eq hR.symm, fun _ => hR.symm, hRt⟩⟩, grownBy_none hgr, .inr ⟨_, rfl, Nat.le_refl _⟩, by simp [Value.ownBlock]⟩
end Go.Proofs.Ytefnpalkkhhkfaa.PC
namespace Go.Proofs.Ytefnpalkkhhkfaa.I
set_option linter.unusedVariables false
/-- An entry of a vector: an author, a number. -/
structure En where
  a : Int
  s : Int
deriving DecidableEq
/-- The author's number; 0: none. -/
def sq : List En → Int → Int
  | [], _ => 0
  | e :: v, x => if e.a = x then e.s else sq v x
/-- A vector in which an author's number is as great. -/
def wt : List En → Int → Int → List En
  | [], x, s => if 0 < s then [⟨x, s⟩] else []
  | e :: v, x, s => if e.a < x then e :: wt v x s else if e.a = x then ⟨x, max e.s s⟩ :: v else if 0 < s then ⟨x, s⟩ :: e :: v else e :: v
/-- Authors rise. -/
def up : List En → Prop
  | [] => True
  | e :: v => (∀ f ∈ v, e.a < f.a) ∧ up v
/-- Each entry is one of these. -/
def fit (v : List En) : Prop := ∀ e ∈ v, 0 ≤ e.a ∧ e.a < 4194304 ∧ 1 ≤ e.s ∧ e.s ≤ 4294967295
def vec (v : List En) : Prop := up v ∧ fit v
theorem fit_cons {e : En} {v : List En} : fit (e :: v) ↔ (0 ≤ e.a ∧ e.a < 4194304 ∧ 1 ≤ e.s ∧ e.s ≤ 4294967295) ∧ fit v := by simp [fit]
theorem vec_nil : vec [] := ⟨trivial, fun e h => by simp at h⟩
theorem vec_tail {e : En} {v : List En} (h : vec (e :: v)) : vec v := ⟨h.1.2, (fit_cons.1 h.2).2⟩
theorem sq_none {v : List En} {x : Int} (h : ∀ e ∈ v, e.a ≠ x) : sq v x = 0 := by
  induction v with
  | nil => rfl
  | cons e v ih =>
    simp only [sq]
    rw [if_neg (h e (by simp))]
    exact ih fun f hf => h f (List.mem_cons_of_mem _ hf)
theorem sq_pos {v : List En} (h : vec v) (x : Int) : 0 ≤ sq v x ∧ sq v x ≤ 4294967295 ∧ (sq v x = 0 ↔ ∀ e ∈ v, e.a ≠ x) := by
  induction v with
  | nil => simp [sq]
  | cons e v ih =>
    have hf := (fit_cons.1 h.2).1
    have ih := ih (vec_tail h)
    simp only [sq]
    by_cases k : e.a = x
    · rw [if_pos k]
      refine ⟨by omega, by omega, ?_⟩
      constructor
      · intro g; omega
      · intro g; exact absurd k (g e (by simp))
    · rw [if_neg k]
      refine ⟨ih.1, ih.2.1, ?_⟩
      rw [ih.2.2]
      simp [k]
/-- What With puts in is there. -/
theorem wt_mem {v : List En} {x s : Int} {f : En} (h : f ∈ wt v x s) : f ∈ v ∨ f.a = x := by
  induction v with
  | nil =>
    simp only [wt] at h
    split at h
    · simp at h; right; rw [h]
    · simp at h
  | cons e v ih =>
    simp only [wt] at h
    split at h
    · rcases List.mem_cons.1 h with rfl | h
      · exact .inl (by simp)
      · rcases ih h with h | h
        · exact .inl (List.mem_cons_of_mem _ h)
        · exact .inr h
    · split at h
      · rcases List.mem_cons.1 h with rfl | h
        · exact .inr rfl
        · exact .inl (List.mem_cons_of_mem _ h)
      · split at h
        · rcases List.mem_cons.1 h with rfl | h
          · exact .inr rfl
          · exact .inl h
        · exact .inl h
theorem wt_up {v : List En} (h : up v) (x s : Int) : up (wt v x s) := by
  induction v with
  | nil =>
    simp only [wt]
    split
    · exact ⟨fun f hf => by simp at hf, trivial⟩
    · trivial
  | cons e v ih =>
    simp only [wt]
    split
    · rename_i hlt
      refine ⟨fun f hf => ?_, ih h.2⟩
      rcases wt_mem hf with hf | hf
      · exact h.1 f hf
      · omega
    · split
      · rename_i heq
        exact ⟨fun f hf => by have := h.1 f hf; simp only; omega, h.2⟩
      · split
        · refine ⟨fun f hf => ?_, h⟩
          rcases List.mem_cons.1 hf with rfl | hf
          · simp only; omega
          · have := h.1 f hf; simp only; omega
        · exact h
theorem wt_fit {v : List En} (h : fit v) {x s : Int} (hx : 0 ≤ x ∧ x < 4194304) (hs : s ≤ 4294967295) : fit (wt v x s) := by
  induction v with
  | nil =>
    simp only [wt]
    split
    · intro f hf; simp at hf; subst hf; simp only; omega
    · exact h
  | cons e v ih =>
    have he := (fit_cons.1 h).1
    have hv := (fit_cons.1 h).2
    simp only [wt]
    split
    · exact fit_cons.2 ⟨he, ih hv⟩
    · split
      · exact fit_cons.2 ⟨by simp only; omega, hv⟩
      · split
        · exact fit_cons.2 ⟨by simp only; omega, h⟩
        · exact h
theorem wt_vec {v : List En} (h : vec v) {x s : Int} (hx : 0 ≤ x ∧ x < 4194304) (hs : s ≤ 4294967295) : vec (wt v x s) := ⟨wt_up h.1 x s, wt_fit h.2 hx hs⟩
theorem wt_sq {v : List En} (h : vec v) {x s : Int} (hs : 0 ≤ s) (y : Int) : sq (wt v x s) y = if y = x then max (sq v x) s else sq v y := by
  induction v with
  | nil =>
    simp only [wt]
    by_cases h0 : 0 < s
    · rw [if_pos h0]; simp only [sq]
      by_cases e : y = x
      · subst e; simp; omega
      · rw [if_neg (fun k => e k.symm), if_neg e]
    · rw [if_neg h0]; simp only [sq]
      split <;> omega
  | cons e v ih =>
    have ih := ih (vec_tail h)
    have he := (fit_cons.1 h.2).1
    simp only [wt]
    by_cases h1 : e.a < x
    · rw [if_pos h1]
      simp only [sq]
      rw [ih]
      by_cases e1 : e.a = y
      · rw [if_pos e1, if_pos e1, if_neg (by omega)]
      · rw [if_neg e1, if_neg e1, if_neg (show ¬ e.a = x by omega)]
    · rw [if_neg h1]
      by_cases h2 : e.a = x
      · rw [if_pos h2]
        simp only [sq]
        by_cases e1 : y = x
        · subst e1
          rw [if_pos rfl, if_pos rfl, if_pos h2]
        · rw [if_neg (fun k => e1 k.symm), if_neg e1, if_neg (by omega)]
      · rw [if_neg h2]
        have hn : sq (e :: v) x = 0 := sq_none fun f hf => by
          rcases List.mem_cons.1 hf with rfl | hf
          · exact h2
          · have := h.1.1 f hf; omega
        rw [hn]
        by_cases h0 : 0 < s
        · rw [if_pos h0]
          simp only [sq]
          by_cases e1 : y = x
          · subst e1
            rw [if_pos rfl, if_pos rfl]; omega
          · rw [if_neg (fun k => e1 k.symm), if_neg e1]
        · rw [if_neg h0]
          by_cases e1 : y = x
          · subst e1; rw [if_pos rfl, hn]; omega
          · rw [if_neg e1]
theorem wt_len (v : List En) (x s : Int) : (wt v x s).length ≤ v.length + 1 := by
  induction v with
  | nil => simp only [wt]; split <;> simp
  | cons e v ih =>
    simp only [wt]
    repeat' split
    all_goals simp
    exact ih
end Go.Proofs.Ytefnpalkkhhkfaa.I
namespace Go.Proofs.Ytefnpalkkhhkfaa.PC
open Go.RowKit Go.Proofs.YtefnpalkkhhkfaaW.PrintWords Go.Proofs.YtefnpalkkhhkfaaW.PrintLast Go.Proofs.YtefnpalkkhhkfaaW.PrintMore Go.Proofs.Ytefnpalkkhhkfaa.K
attribute [local go_sem] max2_int min2_int max_two min_two max_three min_three max_four min_four
set_option linter.unusedVariables false
set_option linter.unusedSimpArgs false
theorem k104_KM {w : World} {base : Nat} {ok : Nat → Prop} {x : S104} {cs : List Value} (h : k104.K w x cs) : k104.M w base ok x cs := by
  rw [k104_open h]; exact k104_mkM _ _ _ x
set_option maxHeartbeats 4000000 in
theorem cloneE_nil (w : World) (c : Nat) : Calls Try.prog 60 #[.slice none 0 c] w fun e w' => e = .returned (.slice none 0 0) ∧ w' = w := by
  have hn : ∀ w : World, (binOp .eql 71 (.slice none 0 c) (.slice none 0 0)).run Try.prog w = .ok (.bool true) w := fun w => Lib.run_eql_slice_nil w 71 104 none 0 c 0 0 Try.underlying71
  go_enter Try.func60, Try.ntmps60
  go_wp2
  go_ret
  exact ⟨rfl, rfl⟩
set_option maxHeartbeats 4000000 in
theorem cloneE_some (w : World) (a : Addr) (c : Nat) (xs : List S104) (hr : Kd.C k104 w (some a) xs.length xs) (hc : xs.length * 16 ≤ 140737488355328) :
    Calls Try.prog 60 #[.slice (some a) xs.length c] w fun e w' => ∃ v, e = .returned v ∧ Kd.R k104 104 w' w.heap.size (fun _ => True) v xs ∧ Below w.heap.size w w' := by
  have hn : ∀ (w : World) n c, (binOp .eql 71 (.slice (some a) n c) (.slice none 0 0)).run Try.prog w = .ok (.bool false) w := fun w n c => Lib.run_eql_slice_nil w 71 104 (some a) n c 0 0 Try.underlying71
  have HR := Aside0.mk hr
  have HC := Aside0.mk hc
  clear hr hc
  go_enter Try.func60, Try.ntmps60
  go_wp2_with (first
    | ((with_reducible refine gate_dst (N := 5) rfl ?_); refine Kd.R_lit k104 _ 104 ?hg (N := 5) ?hd (xs := ([] : List S104)) (inner := []) (ok := fun _ => True) (okp := fun _ => True) ?hr ?hp (fun _ hk => hk) trivial (Below.refl _ _) (Nat.le_refl _) (by simp) ?_; (case hd => rfl); (case hg => rfl); (case hr => first | (go_simp; done) | (go_simp; rfl)); (case hp => exact (Reps.none _ _)); intro v6 w6 ho6 hb hg_ hnew_; have HB6 := Aside0.mk hb; have HL6 := Aside0.mk ho6; clear hb hg_ hnew_ ho6)
    | ((with_reducible refine gate_builtin (b := .append) (xs := #[.tmp 5, .tmp 6]) rfl ?_); at_builtin; refine Kd.R_append_rows k104 (w0 := w) w.heap.size rfl (.tmp 5) (.tmp 6) 71 104 (.agg #[(.int .i64 0), (.int .i64 0)]) 16 rfl Try.underlying71 info104 rfl (by decide) (by omega) v6 [] xs _ _ _ (fun _ => True) (fun _ => True ∧ False) rfl rfl ?aO ?aR (fun _ _ h => k104_KM h) (fun _ h => h.2.elim) ?aF ?aB ?aS ?aL ?_; (case aR => exact Kd.C_below HR.out HB6.out); (case aB => exact HB6.out); (case aF => exact (fun _ _ => trivial)); (case aO => exact HL6.out); (case aS => exact below_size HB6.out); (case aL => have := HC.out; simp only [List.length_nil]; omega); intro v7 w7 ho7 hb hg hat; have HB7 := Aside0.mk hb; rw [List.nil_append] at ho7; have HL7 := Aside0.mk ho7; clear hb hg hat ho7))
  go_ret
  exact ⟨v7, rfl, HL7.out, HB7.out⟩
/-- cmp.Compare of two numbers. -/
def cmpI (a b : Int) : Int := if a < b then -1 else if b < a then 1 else 0
theorem cmp_calls (a b : Int) (w : World) : Calls Try.prog 68 #[.int .i64 a, .int .i64 b] w fun e w' => e = .returned (.int .i64 (cmpI a b)) ∧ w' = w := by
  unfold cmpI
  by_cases h : a < b
  · rw [if_pos h]
    go_enter Try.func68, Try.ntmps68
    go_wp2
    go_ret
    exact ⟨rfl, rfl⟩
  · rw [if_neg h]
    by_cases h2 : b < a
    · rw [if_pos h2]
      go_enter Try.func68, Try.ntmps68
      go_wp2
      go_ret
      exact ⟨rfl, rfl⟩
    · rw [if_neg h2]
      go_enter Try.func68, Try.ntmps68
      go_wp2
      go_ret
      exact ⟨rfl, rfl⟩
theorem clos_calls (x s a : Int) (w : World) : Calls Try.prog 67 #[.agg #[.int .i64 x, .int .i64 s], .int .i64 a] w fun e w' => e = .returned (.int .i64 (cmpI x a)) ∧ Below w.heap.size w w' := by
  go_enter Try.func67, Try.ntmps67
  go_wp2_with (go_at_call 68; refine (cmp_calls _ _ _).mono ?_; rintro e w' ⟨rfl, rfl⟩)
  go_ret
  exact ⟨rfl, (Below.refl _ _).alloc (Nat.le_refl _) _⟩
/-- Authors rise, in a row of the program's entries. -/
def upS (xs : List S104) : Prop := xs.Pairwise fun a b => a.f0 < b.f0
def cnt (xs : List S104) (a : Int) : Nat := xs.countP fun e => decide (e.f0 < a)
def has (xs : List S104) (a : Int) : Bool := xs.any fun e => decide (e.f0 = a)
theorem cnt_eq {xs : List S104} {a : Int} {i : Nat} (hi : i ≤ xs.length) (h : ∀ k e, xs[k]? = some e → (k < i → e.f0 < a) ∧ (i ≤ k → a ≤ e.f0)) : cnt xs a = i := by
  unfold cnt
  conv => lhs; rw [← List.take_append_drop i xs]
  rw [List.countP_append, List.countP_eq_length.2, List.countP_eq_zero.2, List.length_take]
  · omega
  · intro e he
    obtain ⟨k, hk, rfl⟩ := List.getElem_of_mem he
    rw [List.length_drop] at hk
    have := (h (i + k) _ (List.getElem?_eq_getElem (by omega))).2 (by omega)
    rw [List.getElem_drop]
    simpa using this
  · intro e he
    obtain ⟨k, hk, rfl⟩ := List.getElem_of_mem he
    rw [List.length_take] at hk
    have := (h k _ (List.getElem?_eq_getElem (by omega))).1 (by omega)
    rw [List.getElem_take]
    simpa using this
theorem has_eq {xs : List S104} {a : Int} {i : Nat} (hup : upS xs) (h : ∀ k e, xs[k]? = some e → (k < i → e.f0 < a) ∧ (i ≤ k → a ≤ e.f0)) : has xs a = true ↔ ∃ e, xs[i]? = some e ∧ e.f0 = a := by
  unfold has
  rw [List.any_eq_true]
  constructor
  · rintro ⟨e, he, hea⟩
    have hea : e.f0 = a := by simpa using hea
    obtain ⟨k, hk, rfl⟩ := List.getElem_of_mem he
    have hk' := h k _ (List.getElem?_eq_getElem hk)
    rcases Nat.lt_trichotomy k i with c | c | c
    · have := hk'.1 c; omega
    · subst c; exact ⟨_, List.getElem?_eq_getElem hk, hea⟩
    · have hi : i < xs.length := by omega
      have h1 := (h i _ (List.getElem?_eq_getElem hi)).2 (Nat.le_refl _)
      have h2 := List.pairwise_iff_getElem.1 hup i k hi hk c
      omega
  · rintro ⟨e, he, hea⟩
    exact ⟨e, List.mem_of_getElem? he, by simpa using hea⟩
theorem rd104_nat (xs : List S104) (i : Nat) (h : i < xs.length) : xs[i]? = some (rd_T104 xs (i : Int)) := by
  unfold rd_T104
  simp [h]
theorem cmpI_lt {a b : Int} (h : a < b) : cmpI a b = -1 := by unfold cmpI; rw [if_pos h]
theorem cmpI_eq (a : Int) : cmpI a a = 0 := by unfold cmpI; rw [if_neg (by omega), if_neg (by omega)]
set_option maxHeartbeats 4000000 in
set_option maxRecDepth 100000 in
theorem bs_calls (xs : List S104) (a : Int) (A : Option Addr) (c : Nat) (w : World) (hr : Kd.C k104 w A xs.length xs) (hc : xs.length ≤ c) (hup : upS xs) (hl : xs.length ≤ 1000000) :
    Calls Try.prog 66 #[.slice A xs.length c, .int .i64 a, .func (Fn.func 67) #[] #[]] w fun e w' => e = .returned (.tuple #[.int .i64 (cnt xs a), .bool (has xs a)]) ∧ Below w.heap.size w w' := by
  have HR := Aside0.mk hr
  have HUP := Aside0.mk hup
  clear hr hup
  go_enter Try.func66, Try.ntmps66
  go_wp2
  go_loopw [9, 10] (fun v9 v10 w' => ∃ i j : Nat, v9 = .int .i64 i ∧ v10 = .int .i64 j ∧ i ≤ j ∧ j ≤ xs.length ∧ Aside0 (∀ k e, xs[k]? = some e → (k < i → e.f0 < a) ∧ (j ≤ k → a ≤ e.f0)) ∧ Aside0 (Below w.heap.size w w')) (fun v9 v10 _ => (intOf v10).toNat - (intOf v9).toNat)
  case atStart => exact ⟨0, xs.length, rfl, rfl, by omega, by omega, ⟨fun k e hk => ⟨fun h => by omega, fun h => by have := (List.getElem?_eq_some_iff.1 hk).1; omega⟩⟩, ⟨Below.refl _ _⟩⟩
  case round =>
    obtain ⟨i, j, rfl, rfl, hij, hj, HI, HB⟩ := hrel
    by_cases hlt : i < j
    · obtain ⟨ad, eA, hx0, hx1⟩ := at_T104 HR.out (((i + j) / 2 : Nat) : Int) (by omega) (by omega)
      subst eA
      have hrd := rd104_nat xs ((i + j) / 2) (by omega)
      simp only [Int.toNat_natCast] at hx0 hx1
      replace hx0 := (HB.out.cell (World.block_lt_of_cell? w _ hx0)).trans hx0
      replace hx1 := (HB.out.cell (World.block_lt_of_cell? w _ hx1)).trans hx1
      generalize rd_T104 xs (((i + j) / 2 : Nat) : Int) = ev at hx0 hx1 hrd
      have HRD := Aside0.mk hrd
      clear hrd
      by_cases he : ev.f0 < a
      · have HE := Aside0.mk he
        have hcmp := cmpI_lt he
        clear he
        go_wp2_with (go_at_call 67; refine (clos_calls _ _ _ _).mono ?_; rintro e w' ⟨rfl, hb⟩)
        go_roundw
        case rel =>
          refine ⟨(i + j) / 2 + 1, j, by go_num, rfl, by omega, hj, ⟨fun k e hk => ⟨fun h => ?_, (HI.out k e hk).2⟩⟩, ⟨below_step HB.out hb⟩⟩
          by_cases hk2 : k = (i + j) / 2
          · subst hk2
            rw [HRD.out] at hk
            injection hk with hk
            rw [← hk]; exact HE.out
          · have h1 := List.pairwise_iff_getElem.1 HUP.out k ((i + j) / 2) (List.getElem?_eq_some_iff.1 hk).1 (List.getElem?_eq_some_iff.1 HRD.out).1 (by omega)
            rw [(List.getElem?_eq_some_iff.1 hk).2, (List.getElem?_eq_some_iff.1 HRD.out).2] at h1
            have := HE.out
            omega
        case measure => simp [intOf]; omega
      · have HE := Aside0.mk he
        have hcmp : 0 ≤ cmpI ev.f0 a := by unfold cmpI; rw [if_neg he]; split <;> omega
        clear he
        go_wp2_with (go_at_call 67; refine (clos_calls _ _ _ _).mono ?_; rintro e w' ⟨rfl, hb⟩)
        go_roundw
        case rel =>
          refine ⟨i, (i + j) / 2, rfl, by go_num, by omega, by omega, ⟨fun k e hk => ⟨(HI.out k e hk).1, fun h => ?_⟩⟩, ⟨below_step HB.out hb⟩⟩
          by_cases hk2 : k = (i + j) / 2
          · subst hk2
            rw [HRD.out] at hk
            injection hk with hk
            rw [← hk]; have := HE.out; omega
          · have h1 := List.pairwise_iff_getElem.1 HUP.out ((i + j) / 2) k (List.getElem?_eq_some_iff.1 HRD.out).1 (List.getElem?_eq_some_iff.1 hk).1 (by omega)
            rw [(List.getElem?_eq_some_iff.1 hk).2, (List.getElem?_eq_some_iff.1 HRD.out).2] at h1
            have := HE.out
            omega
        case measure => simp [intOf]; omega
    · obtain rfl : i = j := by omega
      have hcn := cnt_eq hj HI.out
      have hha := has_eq HUP.out HI.out
      have HCN := Aside0.mk hcn
      clear hcn hlt hij
      by_cases hlt : i < xs.length
      · obtain ⟨ad, eA, hx0, hx1⟩ := at_T104 HR.out (i : Int) (by omega) (by omega)
        subst eA
        have hrd := rd104_nat xs i hlt
        simp only [Int.toNat_natCast] at hx0 hx1
        replace hx0 := (HB.out.cell (World.block_lt_of_cell? w _ hx0)).trans hx0
        replace hx1 := (HB.out.cell (World.block_lt_of_cell? w _ hx1)).trans hx1
        generalize rd_T104 xs (i : Int) = ev at hx0 hx1 hrd
        by_cases he : ev.f0 = a
        · have hh : has xs a = true := hha.2 ⟨ev, hrd, he⟩
          have HH := Aside0.mk hh
          have hcmp : cmpI ev.f0 a = 0 := by rw [he]; exact cmpI_eq a
          clear hh hha hrd he
          go_wp2_with (go_at_call 67; refine (clos_calls _ _ _ _).mono ?_; rintro e w' ⟨rfl, hb⟩)
          go_ret2
          exact ⟨by rw [HCN.out, HH.out]; rfl, below_step HB.out hb⟩
        · have hh : has xs a = false := by
            rw [Bool.eq_false_iff]
            intro h
            obtain ⟨e, h1, h2⟩ := hha.1 h
            rw [hrd] at h1
            injection h1 with h1
            rw [← h1] at h2
            exact he h2
          have HH := Aside0.mk hh
          have hcmp : (cmpI ev.f0 a == 0) = false := by
            unfold cmpI
            split
            · rfl
            · split
              · rfl
              · omega
          clear hh hha hrd he
          go_wp2_with (go_at_call 67; refine (clos_calls _ _ _ _).mono ?_; rintro e w' ⟨rfl, hb⟩)
          go_ret2
          exact ⟨by rw [HCN.out, HH.out]; rfl, below_step HB.out hb⟩
      · have hh : has xs a = false := by
          rw [Bool.eq_false_iff]
          intro h
          obtain ⟨e, h1, _⟩ := hha.1 h
          exact hlt (List.getElem?_eq_some_iff.1 h1).1
        have HH := Aside0.mk hh
        clear hh hha
        go_wp2
        go_ret2
        exact ⟨by rw [HCN.out, HH.out]; rfl, HB.out⟩
theorem place_calls (xs : List S104) (a : Int) (A : Option Addr) (c : Nat) (w : World) (hr : Kd.C k104 w A xs.length xs) (hc : xs.length ≤ c) (hup : upS xs) (hl : xs.length ≤ 1000000) :
    Calls Try.prog 53 #[.slice A xs.length c, .int .i64 a] w fun e w' => e = .returned (.tuple #[.int .i64 (cnt xs a), .bool (has xs a)]) ∧ Below w.heap.size w w' := by
  have HR := Aside0.mk hr
  have HUP := Aside0.mk hup
  clear hr hup
  go_enter Try.func53, Try.ntmps53
  go_wp2_with (go_at_call 66; refine (bs_calls _ _ _ _ _ HR.out hc HUP.out hl).mono ?_; rintro e w' ⟨rfl, hb⟩)
  go_ret2
  exact ⟨rfl, hb⟩
end Go.Proofs.Ytefnpalkkhhkfaa.PC
namespace Go.Proofs.Ytefnpalkkhhkfaa.PC
open Go.RowKit Go.Proofs.YtefnpalkkhhkfaaW.PrintWords Go.Proofs.YtefnpalkkhhkfaaW.PrintLast Go.Proofs.YtefnpalkkhhkfaaW.PrintMore Go.Proofs.Ytefnpalkkhhkfaa.K Go.Proofs.Ytefnpalkkhhkfaa.I
attribute [local go_sem] max2_int min2_int max_two min_two max_three min_three max_four min_four
set_option linter.unusedVariables false
set_option linter.unusedSimpArgs false
def toE (e : S104) : En := ⟨e.f0, e.f1⟩
def ens (xs : List S104) : List En := xs.map toE
def fl104 (e : S104) : List Value := [.int .i64 e.f0, .int .i64 e.f1]
theorem fl104_len (x : S104) : (fl104 x).length = k104.sz := rfl
/-- With, by places. -/
def wtS (xs : List S104) (a s : Int) : List S104 :=
  if has xs a = true then xs.set (cnt xs a) ⟨a, max (rd_T104 xs (cnt xs a)).f1 s⟩ else if 0 < s then xs.take (cnt xs a) ++ [⟨a, s⟩] ++ xs.drop (cnt xs a) else xs
theorem up_upS {xs : List S104} (h : up (ens xs)) : upS xs := by
  induction xs with
  | nil => exact List.Pairwise.nil
  | cons x xs ih => exact List.pairwise_cons.2 ⟨fun y hy => h.1 (toE y) (List.mem_map_of_mem hy), ih h.2⟩
theorem cnt_zero {x : S104} {xs : List S104} {a : Int} (h : upS (x :: xs)) (hx : a ≤ x.f0) : cnt (x :: xs) a = 0 := by
  unfold cnt
  rw [List.countP_eq_zero]
  intro e he
  rcases List.mem_cons.1 he with rfl | he
  · simpa using hx
  · have := (List.pairwise_cons.1 h).1 e he
    simp; omega
theorem cnt_cons {x : S104} {xs : List S104} {a : Int} (hx : x.f0 < a) : cnt (x :: xs) a = cnt xs a + 1 := by
  unfold cnt
  rw [List.countP_cons_of_pos (by simpa using hx)]
theorem cnt_le (xs : List S104) (a : Int) : cnt xs a ≤ xs.length := List.countP_le_length
theorem rd104_cons (x : S104) (xs : List S104) (n : Nat) : rd_T104 (x :: xs) ((n + 1 : Nat) : Int) = rd_T104 xs (n : Int) := by
  unfold rd_T104; simp
/-- With by places is With. -/
theorem wtS_eq {xs : List S104} (h : upS xs) (a s : Int) : ens (wtS xs a s) = wt (ens xs) a s := by
  induction xs with
  | nil =>
    unfold wtS has cnt ens
    by_cases h0 : 0 < s
    · simp [wt, h0, toE]
    · simp [wt, h0]
  | cons x xs ih =>
    have ih := ih (List.pairwise_cons.1 h).2
    have ew : ens (x :: xs) = toE x :: ens xs := rfl
    by_cases h1 : x.f0 < a
    · have hh : has (x :: xs) a = has xs a := by
        unfold has
        rw [List.any_cons]
        have : decide (x.f0 = a) = false := by simp; omega
        rw [this, Bool.false_or]
      have e1 : wtS (x :: xs) a s = x :: wtS xs a s := by
        unfold wtS
        rw [hh, cnt_cons h1, rd104_cons]
        by_cases c : has xs a = true
        · rw [if_pos c, if_pos c]; rfl
        · rw [if_neg c, if_neg c]
          by_cases c2 : 0 < s
          · rw [if_pos c2, if_pos c2]; rfl
          · rw [if_neg c2, if_neg c2]
      rw [e1, ew]
      show toE x :: ens (wtS xs a s) = wt (toE x :: ens xs) a s
      rw [ih]
      simp only [wt]
      rw [if_pos (show (toE x).a < a from h1)]
    · have hc := cnt_zero h (show a ≤ x.f0 by omega)
      rw [ew]
      simp only [wt]
      rw [if_neg (show ¬ (toE x).a < a from h1)]
      unfold wtS
      rw [hc]
      by_cases h2 : x.f0 = a
      · have hh : has (x :: xs) a = true := by unfold has; rw [List.any_cons]; simp [h2]
        rw [if_pos hh, if_pos (show (toE x).a = a from h2)]
        rfl
      · have hh : ¬ has (x :: xs) a = true := by
          unfold has
          rw [List.any_eq_true]
          rintro ⟨e, he, hea⟩
          have hea : e.f0 = a := by simpa using hea
          rcases List.mem_cons.1 he with rfl | he
          · exact h2 hea
          · have := (List.pairwise_cons.1 h).1 e he
            omega
        rw [if_neg hh, if_neg (show ¬ (toE x).a = a from h2)]
        by_cases c2 : 0 < s
        · rw [if_pos c2, if_pos c2]; rfl
        · rw [if_neg c2, if_neg c2]; rfl
theorem sq_has {xs : List S104} (h : upS xs) (a : Int) : sq (ens xs) a = if has xs a = true then (rd_T104 xs (cnt xs a)).f1 else 0 := by
  induction xs with
  | nil => rfl
  | cons x xs ih =>
    have ih := ih (List.pairwise_cons.1 h).2
    show (if x.f0 = a then x.f1 else sq (ens xs) a) = _
    by_cases h1 : x.f0 < a
    · have hh : has (x :: xs) a = has xs a := by
        unfold has
        rw [List.any_cons]
        have : decide (x.f0 = a) = false := by simp; omega
        rw [this, Bool.false_or]
      rw [if_neg (by omega), hh, cnt_cons h1, rd104_cons]
      exact ih
    · have hc := cnt_zero h (show a ≤ x.f0 by omega)
      by_cases h2 : x.f0 = a
      · have hh : has (x :: xs) a = true := by unfold has; rw [List.any_cons]; simp [h2]
        rw [if_pos h2, if_pos hh, hc]
        rfl
      · have hh : ∀ ys : List S104, (∀ e ∈ ys, e.f0 ≠ a) → has ys a = false := by
          intro ys hy
          unfold has
          rw [List.any_eq_false]
          intro e he
          simpa using hy e he
        have hn : ∀ e ∈ x :: xs, e.f0 ≠ a := by
          intro e he
          rcases List.mem_cons.1 he with rfl | he
          · exact h2
          · have := (List.pairwise_cons.1 h).1 e he
            omega
        rw [if_neg h2, ih, hh _ hn, hh xs fun e he => hn e (List.mem_cons_of_mem _ he)]
        rfl
theorem has_lt {xs : List S104} {a : Int} (h : upS xs) (hh : has xs a = true) : cnt xs a < xs.length := by
  induction xs with
  | nil => simp [has] at hh
  | cons x xs ih =>
    by_cases h1 : x.f0 < a
    · have hh' : has xs a = true := by
        unfold has at hh ⊢
        rw [List.any_cons] at hh
        have : decide (x.f0 = a) = false := by simp; omega
        rw [this, Bool.false_or] at hh
        exact hh
      have := ih (List.pairwise_cons.1 h).2 hh'
      rw [cnt_cons h1]; simp; omega
    · rw [cnt_zero h (by omega)]; simp
theorem seq_calls (xs : List S104) (a : Int) (A : Option Addr) (c : Nat) (w : World) (hr : Kd.C k104 w A xs.length xs) (hc : xs.length ≤ c) (hup : upS xs) (hl : xs.length ≤ 1000000) :
    Calls Try.prog 37 #[.slice A xs.length c, .int .i64 a] w fun e w' => e = .returned (.int .i64 (sq (ens xs) a)) ∧ Below w.heap.size w w' := by
  have HR := Aside0.mk hr
  have HUP := Aside0.mk hup
  have hs := sq_has hup a
  by_cases hh : has xs a = true
  · rw [if_pos hh] at hs
    have hlt := has_lt hup hh
    obtain ⟨ad, eA, hx0, hx1⟩ := at_T104 hr (cnt xs a : Int) (by omega) (by omega)
    subst eA
    simp only [Int.toNat_natCast] at hx0 hx1
    generalize hev : rd_T104 xs (cnt xs a : Int) = ev at hx0 hx1 hs
    rw [hs]
    have hp := fun W hW => place_calls xs a (some ad) c W (Kd.C_below hr hW) hc hup hl
    rw [hh] at hp
    clear hr hup hs hev hh
    generalize cnt xs a = i at *
    have HP := Lib.hid hp
    clear hp
    go_enter Try.func37, Try.ntmps37
    go_wp2_with (go_at_call 53; refine (HP.out _ (Below.refl _ _)).mono ?_; rintro e w' ⟨rfl, hb⟩; have hx0' := (hb.cell (World.block_lt_of_cell? w _ hx0)).trans hx0; have hx1' := (hb.cell (World.block_lt_of_cell? w _ hx1)).trans hx1)
    go_ret
    exact ⟨rfl, hb⟩
  · rw [if_neg hh] at hs
    have hh' : has xs a = false := by simpa using hh
    rw [hs]
    have hp := place_calls xs a A c w hr hc hup hl
    rw [hh'] at hp
    clear hr hup hs hh hh'
    generalize cnt xs a = i at *
    have HP := Lib.hid hp
    clear hp
    go_enter Try.func37, Try.ntmps37
    go_wp2_with (go_at_call 53; refine HP.out.mono ?_; rintro e w' ⟨rfl, hb⟩)
    go_ret
    exact ⟨rfl, hb⟩
theorem cloneE_calls (w : World) (A : Option Addr) (c : Nat) (xs : List S104) (hr : Kd.C k104 w A xs.length xs) (hl : xs.length ≤ 1000000) :
    Calls Try.prog 60 #[.slice A xs.length c] w fun e w' => ∃ v, e = .returned v ∧ Kd.R k104 104 w' w.heap.size (fun _ => True) v xs ∧ Below w.heap.size w w' := by
  cases A with
  | some a => exact cloneE_some w a c xs hr (by omega)
  | none =>
    have h0 : xs = [] := by
      cases xs with
      | nil => rfl
      | cons x xs => obtain ⟨ad, he, _⟩ := hr.2.2 (by simp); cases he
    subst h0
    refine (cloneE_nil w c).mono ?_
    rintro e w' ⟨rfl, rfl⟩
    exact ⟨_, rfl, Kd.R_nil _ _ _ _ _, Below.refl _ _⟩
theorem flat_one (xs : List S104) : ∀ v ∈ xs.flatMap fl104, v.oneCell' = true := by
  intro v hv
  obtain ⟨x, _, hx⟩ := List.mem_flatMap.1 hv
  simp [fl104] at hx
  rcases hx with rfl | rfl <;> rfl
theorem owns104 {w : World} {base : Nat} {ok : Nat → Prop} {v : Value} {xs : List S104} (h : Kd.R k104 104 w base ok v xs) : w.ownsRow base 104 2 v xs.length (xs.flatMap fl104) :=
  owns_of_R (d := k104) fl104_len (fun h => k104_openM h) h
theorem R104 {w : World} {base : Nat} {v : Value} {xs : List S104} (h : w.ownsRow base 104 2 v xs.length (xs.flatMap fl104)) : Kd.R k104 104 w base (fun _ => True) v xs :=
  R_of_owns (d := k104) (fl := fl104) fl104_len (fun _ _ _ _ => k104_mkM _ _ _ _) (fun _ _ => trivial) h
theorem set_flat (xs : List S104) (i : Nat) (h : i < xs.length) (m : Int) : (xs.set i ⟨(rd_T104 xs (i : Int)).f0, m⟩).flatMap fl104 = (xs.flatMap fl104).set (i * 2 + 1) (.int .i64 m) := by
  induction xs generalizing i with
  | nil => simp at h
  | cons x xs ih =>
    cases i with
    | zero => rfl
    | succ i =>
      rw [rd104_cons, List.set_cons_succ, List.flatMap_cons, ih i (by simpa using h), List.flatMap_cons, List.set_append_right _ _ (by rw [show (fl104 x).length = 2 from rfl]; omega)]
      rw [show (fl104 x).length = 2 from rfl, show (i + 1) * 2 + 1 - 2 = i * 2 + 1 by omega]
theorem has_f0 {xs : List S104} {a : Int} (h : upS xs) (hh : has xs a = true) : (rd_T104 xs (cnt xs a : Int)).f0 = a := by
  induction xs with
  | nil => simp [has] at hh
  | cons x xs ih =>
    by_cases h1 : x.f0 < a
    · have hh' : has xs a = true := by
        unfold has at hh ⊢
        rw [List.any_cons] at hh
        have : decide (x.f0 = a) = false := by simp; omega
        rw [this, Bool.false_or] at hh
        exact hh
      rw [cnt_cons h1, rd104_cons]
      exact ih (List.pairwise_cons.1 h).2 hh'
    · rw [cnt_zero h (by omega)]
      by_cases h2 : x.f0 = a
      · exact h2
      · exfalso
        unfold has at hh
        rw [List.any_eq_true] at hh
        obtain ⟨e, he, hea⟩ := hh
        have hea : e.f0 = a := by simpa using hea
        rcases List.mem_cons.1 he with rfl | he
        · exact h2 hea
        · have := (List.pairwise_cons.1 h).1 e he
          omega
theorem cell_fld {w : World} {base : Nat} {ok : Nat → Prop} {g cap : Nat} {xs : List S104} (h : Kd.R k104 104 w base ok (.slice (some ⟨g, 0, none⟩) xs.length cap) xs) (i : Nat) (hi : i < xs.length) {ev : S104} (he : rd_T104 xs (i : Int) = ev)
    {cur : Array Value} (hg : w.heap[g]? = some (.cells cur 104 (0, 0))) : cur[i * 2 + 1]? = some (.int .i64 ev.f1) := by
  obtain ⟨ad, eA, hx0, hx1⟩ := at_T104 (Kd.R_reads' h).2.2 (i : Int) (by omega) (by omega)
  injection eA with eA
  subst eA
  simp only [Int.toNat_natCast, Addr.add_lit, Nat.zero_add] at hx1
  rw [cell_of hg, he] at hx1
  exact hx1
set_option maxHeartbeats 4000000 in
set_option maxRecDepth 100000 in
/-- With where the author has an entry. -/
theorem with_has (xs : List S104) (a s : Int) (A : Option Addr) (c : Nat) (w : World) (hr : Kd.C k104 w A xs.length xs) (hup : upS xs) (hl : xs.length ≤ 1000000) (hh : has xs a = true) :
    Calls Try.prog 41 #[.slice A xs.length c, .int .i64 a, .int .i64 s] w fun e w' => ∃ v, e = .returned v ∧ Kd.R k104 104 w' w.heap.size (fun _ => True) v (wtS xs a s) ∧ Below w.heap.size w w' := by
  have hwt : wtS xs a s = xs.set (cnt xs a) ⟨(rd_T104 xs (cnt xs a : Int)).f0, max (rd_T104 xs (cnt xs a)).f1 s⟩ := by
    unfold wtS; rw [if_pos hh, has_f0 hup hh]
  have hlt := has_lt hup hh
  have hcl := cloneE_calls w A c xs hr hl
  have hflat := set_flat xs (cnt xs a) hlt (max (rd_T104 xs (cnt xs a)).f1 s)
  have hpl := fun W (B : Option Addr) (d : Nat) (h1 : Kd.C k104 W B xs.length xs) (h2 : xs.length ≤ d) => place_calls xs a B d W h1 h2 hup hl
  rw [hh] at hpl
  rw [hwt]
  have hix : rd_T104 xs (cnt xs a : Int) = rd_T104 xs ((cnt xs a : Nat) : Int) := rfl
  generalize hev : rd_T104 xs (cnt xs a : Int) = ev at *
  generalize cnt xs a = i at *
  have HPL := Lib.hid hpl
  have HCL := Lib.hid hcl
  have HF := Lib.hid hflat
  have HEV := Lib.hid hev
  clear hpl hcl hflat hix hh hup hwt hr hev
  have hmx : (if ev.f1 < s then s else ev.f1) = max ev.f1 s := by split <;> omega
  have hmx2 : (if s < ev.f1 then ev.f1 else s) = max ev.f1 s := by split <;> omega
  obtain ⟨mxv, hmv⟩ : ∃ m, max ev.f1 s = m := ⟨_, rfl⟩
  rw [hmv] at hmx hmx2 HF ⊢
  clear hmv
  go_enter Try.func41, Try.ntmps41
  go_wp2_with (first
    | (go_at_call 60; refine HCL.out.mono ?_; rintro e w1 ⟨v, rfl, ho, hb⟩; have how := owns104 ho; obtain ⟨g, cap, cur, rfl, hg0, hg, hnc, hm, hs, ht⟩ : ∃ g cap cur, v = .slice (some ⟨g, 0, none⟩) xs.length cap ∧ w.heap.size ≤ g ∧ w1.heap[g]? = some (.cells cur 104 (0, 0)) ∧ xs.length ≤ cap ∧ cap ≤ maxLen ∧ cur.size = cap * 2 ∧ cur.toList.take (xs.length * 2) = xs.flatMap fl104 := (by rcases how.2 with ⟨_, h0⟩ | h; (exfalso; omega); exact h); have HOW := Lib.hid how; have HO := Lib.hid ho; have HG := Lib.hid (And.intro hg0 (And.intro hg (And.intro hm (And.intro hs ht)))); have HB1 := Lib.hid hb; clear how ho hg0 hg hm hs ht hb)
    | (go_at_call 53; refine (HPL.out _ (some ⟨g, 0, none⟩) cap (Kd.R_reads' HO.out).2.2 hnc).mono ?_; rintro e w2 ⟨rfl, hb2⟩; have hg2 := (hb2.block g (lt_of HG.out.2.1)).trans HG.out.2.1; have hx1 := cell_fld HO.out i hlt HEV.out HG.out.2.1; have hcell : w2.cell? ⟨g, i * 2 + 1, none⟩ = some (.int .i64 ev.f1) := (by rw [cell_of hg2]; exact hx1); have hfz : w2.frozen? ⟨g, i * 2 + 1, none⟩ = false := free_of hg2 _; have HG2 := Lib.hid hg2; have HB2 := Lib.hid hb2; clear hg2 hx1 hb2))
  go_ret
  refine ⟨_, rfl, R104 ?_, below_set (below_step HB1.out HB2.out) HG.out.1⟩
  rw [List.length_set, HF.out]
  have hso := HG.out.2.2.2.1
  refine ⟨by rw [List.length_set]; exact HOW.out.1, .inr ⟨g, cap, _, rfl, HG.out.1, blk_set HG2.out _ _, hnc, HG.out.2.2.1, by simpa using hso, ?_⟩⟩
  rw [Array.toList_setIfInBounds, List.take_set, HG.out.2.2.2.2]
end Go.Proofs.Ytefnpalkkhhkfaa.PC
namespace Go.Proofs.Ytefnpalkkhhkfaa.PC
open Go.RowKit Go.Proofs.YtefnpalkkhhkfaaW.PrintWords Go.Proofs.YtefnpalkkhhkfaaW.PrintLast Go.Proofs.YtefnpalkkhhkfaaW.PrintMore Go.Proofs.Ytefnpalkkhhkfaa.K Go.Proofs.Ytefnpalkkhhkfaa.I
attribute [local go_sem] max2_int min2_int max_two min_two max_three min_three max_four min_four
set_option linter.unusedVariables false
set_option linter.unusedSimpArgs false
theorem owns_of_srow {w : World} {base : Nat} {e : TypeId} {sz : Nat} {v : Value} {n : Nat} {xs : List Value} (h : SRow w e sz True v n xs) (hb : ∀ g, v.ownBlock = some g → base ≤ g) : w.ownsRow base e sz v n xs := by
  refine ⟨h.1, ?_⟩
  rcases h.2 with h2 | ⟨g, cap, cur, hv, hg, hn, hc, hs, hq, ht⟩
  · exact .inl h2
  · exact .inr ⟨g, cap, cur, hv, hb g (by rw [hv]; rfl), hg, hn, hc, (hq trivial).symm, ht⟩
theorem ins_flat (xs : List S104) (i : Nat) (e : S104) : (xs.flatMap fl104).take (i * 2) ++ fl104 e ++ (xs.flatMap fl104).drop (i * 2) = (xs.take i ++ [e] ++ xs.drop i).flatMap fl104 := by
  rw [flat_take (sz := 2) (fun _ => rfl), flat_drop (sz := 2) (fun _ => rfl), List.flatMap_append, List.flatMap_append, List.flatMap_cons, List.flatMap_nil, List.append_nil]
theorem ownBlock_lt {w : World} {base : Nat} {e : TypeId} {sz : Nat} {v : Value} {n : Nat} {xs : List Value} (h : w.ownsRow base e sz v n xs) : ∀ g, v.ownBlock = some g → g < w.heap.size := by
  intro g hg
  rcases h.2 with ⟨rfl, _⟩ | ⟨g', cap, cur, rfl, _, hh, _⟩
  · simp [Value.ownBlock] at hg
  · simp [Value.ownBlock] at hg
    subst hg
    exact lt_of hh
theorem own_ge {w : World} {base : Nat} {e : TypeId} {sz : Nat} {v : Value} {n : Nat} {xs : List Value} (h : w.ownsRow base e sz v n xs) : ∀ g, v.ownBlock = some g → base ≤ g := by
  intro g hg
  rcases h.2 with ⟨rfl, _⟩ | ⟨g', cap, cur, rfl, hb, hh, _⟩
  · simp [Value.ownBlock] at hg
  · simp [Value.ownBlock] at hg
    subst hg
    exact hb
theorem blk_alloc_new (w : World) (o : Obj) : (w.alloc o).heap[w.heap.size]? = some o := Array.getElem?_push_size
theorem alloc_size (w : World) (o : Obj) : (w.alloc o).heap.size = w.heap.size + 1 := Array.size_push _
/-- slices.Insert of one entry. -/
theorem ins104 (w : World) {base : Nat} (v : Value) (xs : List S104) (i vb : Nat) (a s : Int) (h : w.ownsRow base 104 2 v xs.length (xs.flatMap fl104)) (hi : i ≤ xs.length) (hv : w.heap[vb]? = some (.cells #[.int .i64 a, .int .i64 s] 104 (0, 0))) (hne : v.ownBlock ≠ some vb) (hb : (xs.length + 1) * 16 ≤ 140737488355328) :
    Calls Try.prog 61 #[v, .int .i64 i, .slice (some ⟨vb, 0, none⟩) 1 1] w fun e w' => ∃ v', e = .returned v' ∧ Ins w 104 2 True v (xs.length + 1) ((xs.take i ++ [(⟨a, s⟩ : S104)] ++ xs.drop i).flatMap fl104) v' w' := by
  rw [← ins_flat]
  exact insE_calls w True v xs.length i vb (xs.flatMap fl104) (fl104 ⟨a, s⟩) (srow_of_owns h) hi hv hne rfl (by intro v hv; simp [fl104] at hv; rcases hv with rfl | rfl <;> rfl) (flat_one xs) hb
set_option maxHeartbeats 4000000 in
set_option maxRecDepth 100000 in
/-- With where the author has no entry, and none is put. -/
theorem with_none (xs : List S104) (a s : Int) (A : Option Addr) (c : Nat) (w : World) (hr : Kd.C k104 w A xs.length xs) (hup : upS xs) (hl : xs.length ≤ 1000000) (hh : has xs a = false) (h0 : ¬ 0 < s) :
    Calls Try.prog 41 #[.slice A xs.length c, .int .i64 a, .int .i64 s] w fun e w' => ∃ v, e = .returned v ∧ Kd.R k104 104 w' w.heap.size (fun _ => True) v xs ∧ Below w.heap.size w w' := by
  have hcl := cloneE_calls w A c xs hr hl
  have hpl := fun W (B : Option Addr) (d : Nat) (h1 : Kd.C k104 W B xs.length xs) (h2 : xs.length ≤ d) => place_calls xs a B d W h1 h2 hup hl
  rw [hh] at hpl
  generalize cnt xs a = i at *
  have HPL := Lib.hid hpl
  have HCL := Lib.hid hcl
  clear hpl hcl hh hup hr
  go_enter Try.func41, Try.ntmps41
  go_wp2_with (first
    | (go_at_call 60; refine HCL.out.mono ?_; rintro e w1 ⟨v, rfl, ho, hb⟩; obtain ⟨B, cap, rfl, hnc⟩ : ∃ B cap, v = .slice B xs.length cap ∧ xs.length ≤ cap := (by rcases (owns104 ho).2 with ⟨rfl, h0⟩ | ⟨g, cap, cur, rfl, _, _, hn, _⟩; (rw [h0]; exact ⟨_, _, rfl, Nat.le_refl _⟩); exact ⟨_, _, rfl, hn⟩); have HO := Lib.hid ho; have HB1 := Lib.hid hb; clear ho hb)
    | (go_at_call 53; refine (HPL.out _ B cap (Kd.R_reads' HO.out).2.2 hnc).mono ?_; rintro e w2 ⟨rfl, hb2⟩; have HB2 := Lib.hid hb2; clear hb2))
  go_ret
  exact ⟨_, rfl, Kd.R_below HO.out HB2.out, below_step HB1.out HB2.out⟩
set_option maxHeartbeats 4000000 in
set_option maxRecDepth 100000 in
/-- With where the author has no entry, and one is put. -/
theorem with_new (xs : List S104) (a s : Int) (A : Option Addr) (c : Nat) (w : World) (hr : Kd.C k104 w A xs.length xs) (hup : upS xs) (hl : xs.length ≤ 1000000) (hh : has xs a = false) (h0 : 0 < s) :
    Calls Try.prog 41 #[.slice A xs.length c, .int .i64 a, .int .i64 s] w fun e w' => ∃ v, e = .returned v ∧ Kd.R k104 104 w' w.heap.size (fun _ => True) v (xs.take (cnt xs a) ++ [⟨a, s⟩] ++ xs.drop (cnt xs a)) ∧ Below w.heap.size w w' := by
  have hcl := cloneE_calls w A c xs hr hl
  have hpl := fun W (B : Option Addr) (d : Nat) (h1 : Kd.C k104 W B xs.length xs) (h2 : xs.length ≤ d) => place_calls xs a B d W h1 h2 hup hl
  rw [hh] at hpl
  have hcn := cnt_le xs a
  generalize cnt xs a = i at *
  have hlen : (xs.take i ++ [(⟨a, s⟩ : S104)] ++ xs.drop i).length = xs.length + 1 := by simp only [List.length_append, List.length_take, List.length_drop, List.length_singleton]; omega
  have HPL := Lib.hid hpl
  have HCL := Lib.hid hcl
  have HLEN := Lib.hid hlen
  clear hpl hcl hh hup hr hlen
  go_enter Try.func41, Try.ntmps41
  go_wp2_with (first
    | (go_at_call 60; refine HCL.out.mono ?_; rintro e w1 ⟨v, rfl, ho, hb⟩; obtain ⟨B, cap, rfl, hnc⟩ : ∃ B cap, v = .slice B xs.length cap ∧ xs.length ≤ cap := (by rcases (owns104 ho).2 with ⟨rfl, h0⟩ | ⟨g, cap, cur, rfl, _, _, hn, _⟩; (rw [h0]; exact ⟨_, _, rfl, Nat.le_refl _⟩); exact ⟨_, _, rfl, hn⟩); have HO := Lib.hid ho; have HB1 := Lib.hid hb; clear ho hb)
    | (go_at_call 53; refine (HPL.out _ B cap (Kd.R_reads' HO.out).2.2 hnc).mono ?_; rintro e w2 ⟨rfl, hb2⟩; have HB2 := Lib.hid hb2; have HO2 := Lib.hid (owns104 (Kd.R_below HO.out hb2)); clear hb2)
    | (go_at_call 61; refine (ins104 (w2.alloc (Obj.cells #[.int .i64 a, .int .i64 s] 104 (0, 0))) _ xs i w2.heap.size a s ((HO2.out).alloc _) hcn (blk_alloc_new _ _) ?hvb ?hbt).mono ?_; (case hvb => have h1 := ownBlock_lt HO2.out; exact fun e => Nat.lt_irrefl _ (h1 _ e)); (case hbt => omega); rintro e w4 ⟨v4, rfl, hI⟩; have HI := Lib.hid hI; clear hI))
  go_ret
  have hsz : w.heap.size ≤ w2.heap.size := Nat.le_trans HB1.out.size HB2.out.size
  obtain ⟨hS, hg, hB, hN⟩ := HI.out
  have hob : ∀ g, (Value.slice B xs.length cap).ownBlock = some g → w.heap.size ≤ g := own_ge HO2.out
  refine ⟨_, rfl, R104 ?_, Below.grown ((below_step HB1.out HB2.out).alloc hsz _) hg (by rw [alloc_size]; omega) hob⟩
  rw [HLEN.out]
  refine owns_of_srow hS fun g hg => ?_
  rcases hB with hB | ⟨b, hb, hle⟩
  · exact hob g (hB.symm.trans hg)
  · have hg := hb.symm.trans hg
    cases hg
    rw [alloc_size] at hle
    omega
/-- With comes to With by places. -/
theorem with_calls (xs : List S104) (a s : Int) (A : Option Addr) (c : Nat) (w : World) (hr : Kd.C k104 w A xs.length xs) (hup : upS xs) (hl : xs.length ≤ 1000000) :
    Calls Try.prog 41 #[.slice A xs.length c, .int .i64 a, .int .i64 s] w fun e w' => ∃ v, e = .returned v ∧ Kd.R k104 104 w' w.heap.size (fun _ => True) v (wtS xs a s) ∧ Below w.heap.size w w' := by
  by_cases hh : has xs a = true
  · exact with_has xs a s A c w hr hup hl hh
  · have hh' : has xs a = false := by simpa using hh
    unfold wtS
    rw [if_neg hh]
    by_cases h0 : 0 < s
    · rw [if_pos h0]
      exact with_new xs a s A c w hr hup hl hh' h0
    · rw [if_neg h0]
      exact with_none xs a s A c w hr hup hl hh' h0
end Go.Proofs.Ytefnpalkkhhkfaa.PC
namespace Go.Proofs.Ytefnpalkkhhkfaa.PC
open Go.RowKit Go.Proofs.Ytefnpalkkhhkfaa.K
set_option linter.unusedVariables false
set_option linter.unusedSimpArgs false
theorem info83 : (Try.prog.info? 83).map (fun i => (i.zero, i.size, i.bytes)) = some (some (.agg #[(.int .i64 0), (.int .i64 0), (.int .i32 0), (.bool false)]), 4, 24) := by kernel_rfl
theorem ovX (w : World) (ga gb oa ob la ca lb cb : Nat) (hne : ga ≠ gb) {xa xb : Array Value} (ha : w.heap[ga]? = some (.cells xa 83 (0, 0))) (hb : w.heap[gb]? = some (.cells xb 83 (0, 0))) (hk : xb.size ≠ 0) :
    (callFunc 70 #[.slice (some ⟨ga, oa, none⟩) la ca, .slice (some ⟨gb, ob, none⟩) lb cb]).run Try.prog w = .ok (.value (.bool false)) w := by
  rw [run_callFunc_extern Try.func70 (by kernel_rfl) (by kernel_rfl) (by kernel_rfl) (e := Extern.SlicesOverlaps.overlaps #[69, 69] #[4]) (by kernel_rfl),
    run_overlaps2 w 69 4 83 Try.underlying69 4 (fun _ => by kernel_rfl) ga gb oa ob la ca lb cb hne ha hb hk]
  rfl
set_option maxHeartbeats 4000000 in
set_option maxRecDepth 100000 in
theorem insX_shift (w : World) (g n cap i vb : Nat) (cur : Array Value) (c : List Value) (hg : w.heap[g]? = some (.cells cur 83 (0, 0))) (hv : w.heap[vb]? = some (.cells c.toArray 83 (0, 0))) (hne : vb ≠ g) (hc : c.length = 4)
    (h1c : ∀ v ∈ c, v.oneCell' = true) (h1 : ∀ v ∈ cur.toList.take (n * 4), v.oneCell' = true) (hi : i < n) (hroom : n + 1 ≤ cap) (hcap : cap ≤ maxLen) (hcur : cap * 4 ≤ cur.size) :
    Calls Try.prog 57 #[.slice (some ⟨g, 0, none⟩) n cap, .int .i64 i, .slice (some ⟨vb, 0, none⟩) 1 1] w fun e w' =>
      e = .returned (.slice (some ⟨g, 0, none⟩) (n + 1) cap) ∧ ∃ k, w' = (w.drewN k).setRow g (cur.toList.take (i * 4) ++ c ++ (cur.toList.take (n * 4)).drop (i * 4) ++ cur.toList.drop ((n + 1) * 4)).toArray := by
  unfold maxLen at hcap
  have hov : ∀ oa ob la ca lb cb, (callFunc 70 #[.slice (some ⟨vb, oa, none⟩) la ca, .slice (some ⟨g, ob, none⟩) lb cb]).run Try.prog w = .ok (.value (.bool false)) w := fun oa ob la ca lb cb => ovX w vb g oa ob la ca lb cb hne hv hg (by omega)
  have hz2 : ¬ ((i : Int) = (n : Int)) := by omega
  have hw1 : IntKind.i64.wrap ((i : Int) + 1) = (i : Int) + 1 := by rw [IntKind.wrap_i64]; omega
  have hw2 : IntKind.i64.wrap ((n : Int) + 1) = (n : Int) + 1 := by rw [IntKind.wrap_i64]; omega
  have hb1 : (0 : Int) ≤ (i : Int) + 1 := by omega
  have hin : i ≤ n := by omega
  have hb2 : ¬ (cap = i + 1) := by omega
  have hb3 : (i : Int) ≤ (n : Int) + 1 := by omega
  have hb4 : ¬ (cap = i) := by omega
  have hsz : (Try.prog.info? 83).map (·.size) = some 4 := by kernel_rfl
  have hcl : cur.toList.length = cur.size := Array.length_toList
  obtain ⟨tl, htl⟩ : ∃ tl, (cur.toList.take (n * 4)).drop (i * 4) = tl := ⟨_, rfl⟩
  have htll : tl.length = (n - i) * 4 := by rw [← htl, List.length_drop, List.length_take, hcl]; omega
  obtain ⟨row1, hrow1⟩ : ∃ r, (cur.toList.take ((i + 1) * 4) ++ tl ++ cur.toList.drop ((i + 1) * 4 + tl.length)).toArray = r := ⟨_, rfl⟩
  have hcp1 : ∀ ty dc sc, (Builtin.copy_ #[69, 69] ty #[.slice (some ⟨g, (i + 1) * 4, none⟩) (n - i) dc, .slice (some ⟨g, i * 4, none⟩) (n + 1 - i) sc]).run Try.prog w.drew = .ok (goInt ((n - i : Nat) : Int)) (w.drew.setRow g row1) := fun ty dc sc => by
    rw [← hrow1]
    refine run_copy_rowK w.drew 69 69 ty 83 g ((i + 1) * 4) (n - i) dc ⟨g, i * 4, none⟩ (n + 1 - i) sc cur 83 tl 4 (n - i) Try.underlying69 hsz hg (by simp only [Nat.min_def]; split <;> omega) htll (fun j v hj => ?_) (by rw [htll]; omega) (fun v hv => ?_)
    · rw [Addr.add_lit, cell_of (w := w.drew) hg]
      rw [← htl, List.getElem?_drop, List.getElem?_take] at hj
      split at hj
      · rw [← hj]; simp
      · cases hj
    · rw [← htl] at hv
      exact h1 v (List.mem_of_mem_drop hv)
  have hg1 : (w.drew.setRow g row1).heap[g]? = some (.cells row1 83 (0, 0)) := setRow_heap w.drew g cur _ 83 _ hg
  have hrl : row1.size = cur.size := by rw [← hrow1]; simp [htll]; omega
  obtain ⟨row2, hrow2⟩ : ∃ r, (row1.toList.take (i * 4) ++ c ++ row1.toList.drop (i * 4 + c.length)).toArray = r := ⟨_, rfl⟩
  have hcp2 : ∀ (W : World), W = w.drew.setRow g row1 → ∀ ty dc, (Builtin.copy_ #[69, 69] ty #[.slice (some ⟨g, i * 4, none⟩) (n + 1 - i) dc, .slice (some ⟨vb, 0, none⟩) 1 1]).run Try.prog W = .ok (goInt 1) (W.setRow g row2) := fun W hW ty dc => by
    subst hW
    rw [← hrow2]
    refine run_copy_rowK _ 69 69 ty 83 g (i * 4) (n + 1 - i) dc ⟨vb, 0, none⟩ 1 1 row1 83 c 4 1 Try.underlying69 hsz hg1 (by simp only [Nat.min_def]; split <;> omega) (by omega) (fun j v hj => ?_) (by rw [hrl, hc]; omega) h1c
    have hv1 : (w.drew.setRow g row1).heap[vb]? = some (.cells c.toArray 83 (0, 0)) := by rw [setRow_ne _ _ _ hne]; exact hv
    rw [Addr.add_lit, cell_of hv1, Nat.zero_add]
    simpa using hj
  have hfin : row2 = (cur.toList.take (i * 4) ++ c ++ (cur.toList.take (n * 4)).drop (i * 4) ++ cur.toList.drop ((n + 1) * 4)).toArray := by
    rw [← hrow2, ← hrow1, ← htl]
    exact congrArg List.toArray (put_in cur.toList c 4 i n hc hin (by rw [hcl]; omega))
  have HF := Lib.hid hfin
  clear hfin hrow1 hrow2 htll htl hcl hsz hg1 hrl h1 h1c
  go_enter Try.func57, Try.ntmps57
  go_wp2_with (simp only [hov])
  go_region_law (refine step_copy_run rfl _ _ 69 69 rfl _ _ (by simp [Act.eval, Act.put]) (by simp [Act.eval, Act.put]) (hcp1 _ _ _) ?_)
  go_wp2_with (at_builtin; refine wpList_copy_run _ rfl _ _ 69 69 rfl _ _ rfl rfl (hcp2 _ rfl _ _) ?_)
  go_ret
  exact ⟨rfl, 1, by rw [← HF.out, setRow_setRow]; rfl⟩
set_option maxHeartbeats 4000000 in
set_option maxRecDepth 100000 in
theorem insX_end (w : World) (q : Prop) (v : Value) (n vb : Nat) (xs c : List Value) (h : SRow w 83 4 q v n xs) (hv : w.heap[vb]? = some (.cells c.toArray 83 (0, 0))) (hc : c.length = 4)
    (h1c : ∀ v ∈ c, v.oneCell' = true) (hbytes : (n + 1) * 24 ≤ 140737488355328) :
    Calls Try.prog 57 #[v, .int .i64 n, .slice (some ⟨vb, 0, none⟩) 1 1] w fun e w' => ∃ v', e = .returned v' ∧ Ins w 83 4 q v (n + 1) (xs ++ c) v' w' := by
  obtain ⟨v', w', hr, hI⟩ := app_one (P := Try.prog) w 69 83 (.agg #[(.int .i64 0), (.int .i64 0), (.int .i32 0), (.bool false)]) 4 24 q v n xs c vb 1 Try.underlying69 info83 rfl (by decide) h hv hc h1c hbytes (by unfold maxLen; omega) 69
  have HI := Lib.hid hI
  obtain ⟨a, cap, rfl, hca⟩ : ∃ a cap, v = .slice a n cap ∧ n ≤ cap := by
    rcases h.2 with ⟨rfl, rfl⟩ | ⟨g, cap, cur, rfl, _, hn, _⟩
    · exact ⟨none, 0, rfl, Nat.le_refl _⟩
    · exact ⟨_, cap, rfl, hn⟩
  have hnn : n ≤ 8796093022208 := by omega
  clear hI h h1c hc hv
  by_cases hcn : cap = n
  · subst hcn
    go_enter Try.func57, Try.ntmps57
    go_wp2_with (at_builtin; refine Lib.wpList_append_run _ rfl _ _ 69 69 rfl _ _ rfl rfl _ _ hr ?_)
    go_ret
    exact ⟨v', rfl, HI.out⟩
  · go_enter Try.func57, Try.ntmps57
    go_wp2_with (at_builtin; refine Lib.wpList_append_run _ rfl _ _ 69 69 rfl _ _ rfl rfl _ _ hr ?_)
    go_ret
    exact ⟨v', rfl, HI.out⟩
set_option maxHeartbeats 4000000 in
set_option maxRecDepth 100000 in
theorem insX_grow (w : World) (g n cap i vb : Nat) (cur : Array Value) (xs c : List Value) (hg : w.heap[g]? = some (.cells cur 83 (0, 0))) (hv : w.heap[vb]? = some (.cells c.toArray 83 (0, 0))) (hc : c.length = 4)
    (h1c : ∀ v ∈ c, v.oneCell' = true) (h1 : ∀ v ∈ xs, v.oneCell' = true) (hi : i < n) (hn : n ≤ cap) (hroom : cap < n + 1) (hbytes : (n + 1) * 24 ≤ 140737488355328) (hcur : cap * 4 ≤ cur.size) (hxs : cur.toList.take (n * 4) = xs) :
    Calls Try.prog 57 #[.slice (some ⟨g, 0, none⟩) n cap, .int .i64 i, .slice (some ⟨vb, 0, none⟩) 1 1] w fun e w' =>
      ∃ G row, e = .returned (.slice (some ⟨w.heap.size, 0, none⟩) (n + 1) G) ∧ n + 1 ≤ G ∧ G ≤ maxLen ∧ row.size = G * 4 ∧ row.toList.take ((n + 1) * 4) = xs.take (i * 4) ++ c ++ xs.drop (i * 4) ∧
        w'.heap[w.heap.size]? = some (.cells row 83 (0, 0)) ∧ w.grownBy w' none := by
  obtain ⟨i0, hi0, hzz⟩ := Option.map_eq_some_iff.1 info83
  simp only [Prod.mk.injEq] at hzz
  obtain ⟨hz0, hz1, hz2⟩ := hzz
  have hsz : (Try.prog.info? 83).map (·.size) = some 4 := by kernel_rfl
  have hcl : cur.toList.length = cur.size := Array.length_toList
  have hxl : xs.length = n * 4 := by rw [← hxs, List.length_take]; omega
  have hgw := lt_of hg
  have hvw := lt_of hv
  have hsrc : ∀ (W : World), (∀ k, k < w.heap.size → W.heap[k]? = w.heap[k]?) → ∀ o j u, (xs.drop o)[j]? = some u → W.cell? ((⟨g, o, none⟩ : Addr).add j) = some u := fun W hW o j u hj => by
    rw [Addr.add_lit, cell_of ((hW g hgw).trans hg)]
    rw [List.getElem?_drop, ← hxs, List.getElem?_take] at hj
    split at hj
    · simpa using hj
    · cases hj
  have hold : (Builtin.firstCells i0.size i (.slice (some ⟨g, 0, none⟩) i cap)).run Try.prog w.drew = .ok (xs.take (i * 4)).toArray w.drew := by
    rw [hz1]
    refine run_firstCells_some w.drew 4 i ⟨g, 0, none⟩ i cap (xs.take (i * 4)) (by rw [List.length_take]; omega) (fun j v hj => ?_)
    rw [List.getElem?_take] at hj
    split at hj
    · exact hsrc w.drew (fun _ _ => rfl) 0 j v (by simpa using hj)
    · cases hj
  have hrz0 := fun ty => Lib.run_append_grow_zeros (P := Try.prog) w 69 3 ty 83 i0 (.agg #[(.int .i64 0), (.int .i64 0), (.int .i32 0), (.bool false)]) .i64 .i64 Try.underlying69 Try.underlying3 hi0 hz0 (some ⟨g, 0, none⟩) i cap (xs.take (i * 4)) hold (n + 1 - i) (by omega) (by omega) (by omega) (by omega) (by rw [hz2]; omega)
    (by rw [hz2, show i + (n + 1 - i) = n + 1 by omega]; exact growslice_fits hroom hbytes)
  rw [show i + (n + 1 - i) = n + 1 by omega] at hrz0
  have hGn := grownCap_ge w (n + 1) cap 83
  have hGm := grownCap_le_maxLen w (n + 1) cap 83 (by unfold maxLen; omega)
  obtain ⟨G, hG⟩ : ∃ G, grownCap w (n + 1) cap 83 = G := ⟨_, rfl⟩
  rw [hG] at hrz0 hGn hGm
  obtain ⟨Z, hZ⟩ : ∃ Z : List Value, (Builtin.zeroCells (Value.agg #[.int .i64 0, .int .i64 0, .int .i32 0, .bool false]).cells (n + 1 - i) ++ Builtin.zeroCells (Value.agg #[.int .i64 0, .int .i64 0, .int .i32 0, .bool false]).cells (G - (n + 1))).toList = Z := ⟨_, rfl⟩
  have hZl : Z.length = (G - i) * 4 := by
    rw [← hZ, Array.length_toList, Array.size_append, size_zeroCells, size_zeroCells]
    have : (Value.agg #[Value.int .i64 0, Value.int .i64 0, Value.int .i32 0, Value.bool false]).cells.size = 4 := by decide
    rw [this]; omega
  obtain ⟨R0, hR0⟩ : ∃ R : Array Value, (xs.take (i * 4) ++ Z).toArray = R := ⟨_, rfl⟩
  have hrow0 : (xs.take (i * 4)).toArray ++ Builtin.zeroCells (Value.agg #[.int .i64 0, .int .i64 0, .int .i32 0, .bool false]).cells (n + 1 - i) ++ Builtin.zeroCells (Value.agg #[.int .i64 0, .int .i64 0, .int .i32 0, .bool false]).cells (G - (n + 1)) = R0 := by
    rw [← hR0, ← hZ]
    apply Array.ext'
    simp [List.append_assoc]
  rw [hrow0] at hrz0
  obtain ⟨hp1, hp2, hp3⟩ := put_new xs c Z 4 i n hxl hc (by omega) (by rw [hZl]; omega)
  have hR0t : R0.toList = xs.take (i * 4) ++ Z := by rw [← hR0]
  rw [← hR0t] at hp1 hp2 hp3
  have hR0s : R0.size = G * 4 := by
    rw [← Array.length_toList, hR0t, List.length_append, List.length_take, hZl]; omega
  obtain ⟨R1, hR1⟩ : ∃ R : Array Value, (R0.toList.take (i * 4) ++ c ++ R0.toList.drop (i * 4 + c.length)).toArray = R := ⟨_, rfl⟩
  have hR1t : R1.toList = R0.toList.take (i * 4) ++ c ++ R0.toList.drop (i * 4 + c.length) := by rw [← hR1]
  rw [← hR1t] at hp1 hp2 hp3
  obtain ⟨R2, hR2⟩ : ∃ R : Array Value, (R1.toList.take ((i + 1) * 4) ++ xs.drop (i * 4) ++ R1.toList.drop ((i + 1) * 4 + (xs.drop (i * 4)).length)).toArray = R := ⟨_, rfl⟩
  have hR2t : R2.toList = R1.toList.take ((i + 1) * 4) ++ xs.drop (i * 4) ++ R1.toList.drop ((i + 1) * 4 + (xs.drop (i * 4)).length) := by rw [← hR2]
  rw [← hR2t] at hp1 hp3
  have hR1s : R1.size = G * 4 := by rw [← Array.length_toList, hp2, Array.length_toList]; exact hR0s
  have hR2s : R2.size = G * 4 := by rw [← Array.length_toList, hp1, Array.length_toList]; exact hR0s
  obtain ⟨N, hN⟩ : ∃ N, w.heap.size = N := ⟨_, rfl⟩
  obtain ⟨W0, hW0⟩ : ∃ W, w.drew.alloc (.cells R0 83) = W := ⟨_, rfl⟩
  have hW0g : W0.heap[N]? = some (.cells R0 83 (0, 0)) := by rw [← hW0, ← hN]; exact heap_alloc_new w.drew _
  have hW0o : ∀ k, k < w.heap.size → W0.heap[k]? = w.heap[k]? := fun k hk => by rw [← hW0]; exact heap_alloc_old w.drew _ hk
  have hdl : (xs.drop (i * 4)).length = (n - i) * 4 := by rw [List.length_drop, hxl]; omega
  have hcpA : ∀ (W : World), W.heap = W0.heap → ∀ ty dc, (Builtin.copy_ #[69, 69] ty #[.slice (some ⟨N, i * 4, none⟩) (n + 1 - i) dc, .slice (some ⟨vb, 0, none⟩) 1 1]).run Try.prog W = .ok (goInt 1) (W.setRow N R1) := fun W hW ty dc => by
    rw [← hR1]
    refine run_copy_rowK W 69 69 ty 83 N (i * 4) (n + 1 - i) dc ⟨vb, 0, none⟩ 1 1 R0 83 c 4 1 Try.underlying69 hsz (by rw [hW]; exact hW0g) (by simp only [Nat.min_def]; split <;> omega) (by omega) (fun j v hj => ?_) (by rw [hR0s, hc]; omega) h1c
    rw [Addr.add_lit, cell_of (e := 83) (fz := (0, 0)) (by rw [hW]; exact (hW0o vb hvw).trans hv), Nat.zero_add]
    simpa using hj
  have hcpB : ∀ (W : World), W.heap = (W0.setRow N R1).heap → ∀ ty dc sc, (Builtin.copy_ #[69, 69] ty #[.slice (some ⟨N, (i + 1) * 4, none⟩) (n - i) dc, .slice (some ⟨g, i * 4, none⟩) (n - i) sc]).run Try.prog W = .ok (goInt ((n - i : Nat) : Int)) (W.setRow N R2) := fun W hW ty dc sc => by
    rw [← hR2]
    refine run_copy_rowK W 69 69 ty 83 N ((i + 1) * 4) (n - i) dc ⟨g, i * 4, none⟩ (n - i) sc R1 83 (xs.drop (i * 4)) 4 (n - i) Try.underlying69 hsz (by rw [hW]; exact setRow_heap W0 N R0 R1 83 _ hW0g) (by simp only [Nat.min_def]; split <;> omega) hdl (fun j v hj => ?_) (by rw [hR1s, hdl]; omega)
      (fun v hv => h1 v (List.mem_of_mem_drop hv))
    exact hsrc W (fun k hk => by rw [hW, setRow_ne _ _ _ (by omega)]; exact hW0o k hk) (i * 4) j v hj
  have hW0s : W0.heap.size = N + 1 := by rw [← hW0, ← hN]; simp
  have hW0e : W0.os = w.os ∧ W0.tape = w.tape ∧ W0.output = w.output := by rw [← hW0]; exact ⟨rfl, rfl, rfl⟩
  have hfr : ∀ W : World, W.os = W0.os → W.tape = W0.tape → W.output = W0.output → W.heap = ((W0.setRow N R1).setRow N R2).heap → W.heap[w.heap.size]? = some (.cells R2 83 (0, 0)) ∧ w.grownBy W none := fun W a1 a2 a3 a4 => by
    refine ⟨by rw [hN, a4]; exact setRow_heap _ N R1 R2 83 _ (setRow_heap W0 N R0 R1 83 _ hW0g), a1.trans hW0e.1, a2.trans hW0e.2.1, a3.trans hW0e.2.2, by rw [a4]; simp [hW0s]; omega, fun k hk _ => ?_⟩
    rw [a4, setRow_ne _ _ _ (by omega), setRow_ne _ _ _ (by omega)]
    exact hW0o k hk
  have HF := Lib.hid hfr
  have HP := Lib.hid hp3
  have HG := Lib.hid (show n + 1 ≤ G ∧ G ≤ maxLen ∧ R2.size = G * 4 from ⟨hGn, hGm, hR2s⟩)
  have hG63 : G ≤ 9223372036854775807 := by unfold maxLen at hGm; omega
  have hrz : ∀ ty, (Builtin.append_ #[69, 3] ty #[.slice (some ⟨g, 0, none⟩) i cap, .int .i64 ((n : Int) + 1 - (i : Int))]).run Try.prog w = .ok (.slice (some ⟨N, 0, none⟩) (n + 1) G) W0 := fun ty => by
    rw [show (n : Int) + 1 - (i : Int) = ((n + 1 - i : Nat) : Int) by omega, ← hN, ← hW0]
    exact hrz0 ty
  have hz2 : ¬ ((i : Int) = (n : Int)) := by omega
  have hw1 : IntKind.i64.wrap ((i : Int) + 1) = (i : Int) + 1 := by rw [IntKind.wrap_i64]; omega
  have hw2 : IntKind.i64.wrap ((n : Int) + 1) = (n : Int) + 1 := by rw [IntKind.wrap_i64]; omega
  have hb1 : (0 : Int) ≤ (i : Int) + 1 := by omega
  have hin : i ≤ n := by omega
  have hb3 : (i : Int) ≤ (n : Int) := by omega
  have hGi : ¬ (G = i) := by omega
  have hGim : ¬ (G = i + 1) := by omega
  have hci : ¬ (cap = i) := by omega
  have hr3 : (cap : Int) < (n : Int) + 1 := by omega
  clear hfr hW0e hp1 hp2 hp3 hGm hR1t hR2t hR0t hR1 hR2 hR0 hR0s hR1s hR2s hrow0 hrz0 hZ hZl hold hsrc hW0 hW0g hW0o hW0s hG hdl hxs hxl hcl hsz hz0 hz1 hz2 hi0 h1 h1c hg hv hc hgw hvw
  go_enter Try.func57, Try.ntmps57
  go_wp2_with (first
    | (at_builtin; refine Lib.wpList_append_run _ rfl _ _ _ _ rfl _ _ rfl rfl _ _ (hrz _) ?_)
    | (at_builtin; refine wpList_copy_run _ rfl _ _ 69 69 rfl _ _ rfl rfl (hcpA _ rfl _ _) ?_))
  go_region_law (refine step_copy_run rfl _ _ 69 69 rfl _ _ (by simp [Act.eval, Act.put]) (by simp [Act.eval, Act.put]) (hcpB ((W0.setRow N R1).drew) rfl 3 (G - (i + 1)) (cap - i)) ?_)
  go_wp2
  go_ret
  exact ⟨G, R2, by subst hN; rfl, HG.out.1, HG.out.2.1, HG.out.2.2, HP.out, (HF.out ((W0.setRow N R1).drew.setRow N R2) rfl rfl rfl rfl).1, (HF.out ((W0.setRow N R1).drew.setRow N R2) rfl rfl rfl rfl).2⟩
/-- slices.Insert of one element. -/
theorem insX_calls (w : World) (q : Prop) (v : Value) (n i vb : Nat) (xs c : List Value) (h : SRow w 83 4 q v n xs) (hi : i ≤ n) (hv : w.heap[vb]? = some (.cells c.toArray 83 (0, 0))) (hne : v.ownBlock ≠ some vb) (hc : c.length = 4)
    (h1c : ∀ v ∈ c, v.oneCell' = true) (h1 : ∀ v ∈ xs, v.oneCell' = true) (hbytes : (n + 1) * 24 ≤ 140737488355328) :
    Calls Try.prog 57 #[v, .int .i64 i, .slice (some ⟨vb, 0, none⟩) 1 1] w fun e w' => ∃ v', e = .returned v' ∧ Ins w 83 4 q v (n + 1) (xs.take (i * 4) ++ c ++ xs.drop (i * 4)) v' w' := by
  have hlen := h.1
  by_cases hin : i = n
  · subst hin
    have e := insX_end w q v i vb xs c h hv hc h1c hbytes
    rw [List.take_of_length_le (by omega), List.drop_of_length_le (by omega), List.append_nil]
    exact e
  · rcases h.2 with ⟨rfl, rfl⟩ | ⟨g, cap, cur, rfl, hg, hn, hm, hs, hq, htk⟩
    · omega
    · have hvg : vb ≠ g := fun e => hne (by rw [e]; rfl)
      have hcl : cur.toList.length = cur.size := Array.length_toList
      have hnc : n * 4 ≤ cap * 4 := Nat.mul_le_mul_right _ hn
      have hlx : (xs.take (i * 4) ++ c ++ xs.drop (i * 4)).length = (n + 1) * 4 := by
        rw [List.length_append, List.length_append, List.length_take, List.length_drop, hlen, hc]; omega
      by_cases hr : n + 1 ≤ cap
      · refine (insX_shift w g n cap i vb cur c hg hv hvg hc h1c (by rw [htk]; exact h1) (by omega) hr hm hs).mono ?_
        rintro e w' ⟨rfl, k, rfl⟩
        have hsz : (cur.toList.take (i * 4) ++ c ++ (cur.toList.take (n * 4)).drop (i * 4) ++ cur.toList.drop ((n + 1) * 4)).length = cur.size := by
          simp only [List.length_append, List.length_take, List.length_drop, hcl, hc]; omega
        refine ⟨_, rfl, ⟨hlx, .inr ⟨g, cap, _, rfl, setRow_heap (w.drewN k) g cur _ 83 _ hg, hr, hm, ?_, ?_, ?_⟩⟩, ⟨rfl, rfl, rfl, by simp, fun k' hk hk' => ?_⟩, .inl rfl, by simp [Value.ownBlock]⟩
        · rw [List.size_toArray, hsz]; exact hs
        · intro hq'; rw [List.size_toArray, hsz]; exact hq hq'
        · have e1 : cur.toList.take (i * 4) = xs.take (i * 4) := by rw [← htk, List.take_take, Nat.min_eq_left (by omega)]
          rw [htk, e1]
          exact List.take_left' hlx
        · exact setRow_ne _ _ _ (fun e => hk' (by rw [e]; rfl))
      · refine (insX_grow w g n cap i vb cur xs c hg hv hc h1c h1 (by omega) hn (by omega) hbytes hs htk).mono ?_
        rintro e w' ⟨G, row, rfl, hG1, hG2, hR, hRt, hh, hgr⟩
        exact ⟨_, rfl, ⟨hlx, .inr ⟨w.heap.size, G, row, rfl, hh, hG1, hG2, Nat.le_of_eq hR.symm, fun _ => hR.symm, hRt⟩⟩, grownBy_none hgr, .inr ⟨_, rfl, Nat.le_refl _⟩, by simp [Value.ownBlock]⟩
end Go.Proofs.Ytefnpalkkhhkfaa.PC
namespace Go.Proofs.Ytefnpalkkhhkfaa.PC
open Go.RowKit Go.Proofs.YtefnpalkkhhkfaaW.PrintWords Go.Proofs.YtefnpalkkhhkfaaW.PrintLast Go.Proofs.YtefnpalkkhhkfaaW.PrintMore
attribute [local go_sem] max2_int min2_int max_two min_two max_three min_three max_four min_four
set_option linter.unusedVariables false
set_option linter.unusedSimpArgs false
theorem eqA24 (d : Nat) (w : World) (x0 y0 : Int) (x1 y1 : Int) :
    (Op.equalIn (d + 2) 24 (.agg #[.int .i64 x0, .int .i64 x1]) (.agg #[.int .i64 y0, .int .i64 y1])).run Try.prog w = .ok (x0 == y0 && (x1 == y1)) w := by
  refine eqA_of Try.underlying24 (by kernel_rfl) ?_
  refine eqf_cons (by rfl) (by go_simp; rfl) (by go_simp; rfl) (by go_simp) ?_
  exact eqf_last (by rfl) (by go_simp; rfl) (by go_simp; rfl) (by go_simp)
end Go.Proofs.Ytefnpalkkhhkfaa.PC
