/- Rows of cells that a slice has, copies of elements of any size, and what slices.Insert asks, over any program; no condition. -/
import Derived.Below
import Derived.WalkKit
import Derived.Deep.RegionLaw
import Derived.Laws.IdiomCopy
import Derived.Laws.CopyRow
import Derived.Lib.Overlaps
import Derived.Lib.AppendZerosOnto
import Derived.Lib.Walk
import Derived.Lib.JoinLaws
import Derived.Laws.Externs
import Derived.ArgAppend
import Derived.Laws.NewBlocks
namespace Go.Proofs.Ytbbiocmlicoipaa.K
open Go.RowKit
set_option linter.unusedVariables false
set_option linter.unusedSimpArgs false
variable {P : Program}

/-- A slice at the head of a block, with at most the block's room; 'q': all of it. -/
def SRow (w : World) (e : TypeId) (sz : Nat) (q : Prop) (v : Value) (n : Nat) (xs : List Value) : Prop :=
  xs.length = n * sz ∧ ((v = .slice none 0 0 ∧ n = 0) ∨
    ∃ g cap cur, v = .slice (some ⟨g, 0, none⟩) n cap ∧ w.heap[g]? = some (.cells cur e (0, 0)) ∧ n ≤ cap ∧ cap ≤ maxLen ∧ cap * sz ≤ cur.size ∧ (q → cap * sz = cur.size) ∧ cur.toList.take (n * sz) = xs)

theorem run_copy_rowK (w : World) (dT sT ty elem : TypeId) (g o dLen dCap : Nat) (a : Addr) (sLen sCap : Nat) (cur : Array Value) (t : TypeId) (cs : List Value) (k n : Nat)
    (hu : P.underlying dT = some (.slice elem)) (hs : (P.info? elem).map (·.size) = some k)
    (hg : w.heap[g]? = some (.cells cur t (0, 0))) (hn : n = Nat.min sLen dLen) (hl : cs.length = n * k)
    (hsrc : ∀ j v, cs[j]? = some v → w.cell? (a.add j) = some v) (hfit : o + cs.length ≤ cur.size) (h1 : ∀ v ∈ cs, v.oneCell' = true) :
    (Builtin.copy_ #[dT, sT] ty #[.slice (some ⟨g, o, none⟩) dLen dCap, .slice (some a) sLen sCap]).run P w =
      .ok (goInt n) (w.setRow g (cur.toList.take o ++ cs ++ cur.toList.drop (o + cs.length)).toArray) := by
  have hst := run_storeCells_at P g o t cs 0 cur w hg (by simpa using hfit) h1
  have hf : ∀ b l c, b = a → (Builtin.firstCells k n (.slice (some b) l c)).run P w = .ok cs.toArray w := fun b l c e => by
    subst e
    exact run_firstCells_some w k n b l c cs hl hsrc
  cases hq : P.info? elem with
  | none => simp [hq] at hs
  | some i =>
    have hi : i.size = k := by simpa [hq] using hs
    simp [Builtin.copy_, run_underlying hu, Builtin.lenOf, sizeOf, typeInfo, hq, hi, ← hn, hf, hst]

theorem wpList_copy_run (w : World) {ops : Array Oper} {rest : List Oper} {o : Oper} {a : Act} {Q : Exit → Act → World → Prop} (hgd : o.guard = none) (d s : Operand) (t t' : TypeId)
    (ho : o.op = .call { callee := .builtin .copy, args := #[d, s], argTypes := #[t, t'] }) (v u : Value) (hd : a.eval d = v) (hs : a.eval s = u) {v' : Value} {w' : World}
    (hr : (Builtin.copy_ #[t, t'] o.type #[v, u]).run P w = .ok v' w') (h : wpList P ops Q rest (a.put o.dst v') w') : wpList P ops Q (o :: rest) a w := by
  refine wpList_plain hgd fun K hK => ?_
  unfold Oper.wp execOp
  simp only [ho, resolve, invoke, builtin, Sem.run_bind, Sem.run_pure, Result.andThen_ok, List.map_toArray, List.map_cons, List.map_nil, hd, hs, hr]
  exact hK _ _ h
theorem step_copy_run {ops : Array Oper} {o : Oper} {a : Act} {w : World} {K : Act → World → Prop} {Q : Exit → Act → World → Prop} {E : Prop}
    (hg : o.guard = none) (d x : Operand) (dT sT : TypeId) (hop : o.op = Op.call { callee := Callee.builtin Builtin.copy, args := #[d, x], argTypes := #[dT, sT] })
    (v u : Value) (hd : a.eval d = v) (hx : a.eval x = u) {v' : Value} {w' : World} (hr : (Builtin.copy_ #[dT, sT] o.type #[v, u]).run P w = .ok v' w') (hK : K (a.put o.dst v') w') :
    if Region.wanted o (yielded ops a.tmps) = true then Oper.wp P o a w K Q else E := by
  have hw : Region.wanted o (yielded ops a.tmps) = true := by simp [Region.wanted, hg]
  rw [if_pos hw]
  unfold Oper.wp
  simp [execOp, hop, resolve, invoke, builtin, hd, hx, hr, Result.andThen]
  exact hK
theorem shape_of {w : World} {g : Nat} {cur : Array Value} {e : TypeId} {fz : Nat × Nat} (h : w.heap[g]? = some (.cells cur e fz)) : w.shape? g = some (e, cur.size) := by simp [World.shape?, h]
theorem free_of {w : World} {g : Nat} {cur : Array Value} {e : TypeId} (h : w.heap[g]? = some (.cells cur e (0, 0))) (o : Nat) : w.frozen? ⟨g, o, none⟩ = false := by simp [World.frozen?, h]
theorem cell_of {w : World} {g : Nat} {cur : Array Value} {e : TypeId} {fz : Nat × Nat} (h : w.heap[g]? = some (.cells cur e fz)) (o : Nat) : w.cell? ⟨g, o, none⟩ = cur[o]? := by
  simp [World.cell?, h]
theorem lt_of {w : World} {g : Nat} {o : Obj} (h : w.heap[g]? = some o) : g < w.heap.size := by
  rcases Nat.lt_or_ge g w.heap.size with k | k
  · exact k
  · rw [Array.getElem?_eq_none k] at h; cases h
/-- slices.overlaps of two slices in two blocks of the call's own. -/
theorem run_overlaps2 (w : World) (tS tR e : TypeId) (ht : P.underlying tS = some (.slice e)) (size : Nat) (hz : ∀ w, (Go.sizeOf e).run P w = .ok size w) (ga gb : Nat) (oa ob la ca lb cb : Nat) (hne : ga ≠ gb)
    {ca' cb' : Array Value} {ea eb : TypeId} (ha : w.heap[ga]? = some (.cells ca' ea (0, 0))) (hb : w.heap[gb]? = some (.cells cb' eb (0, 0))) (hk : cb'.size ≠ 0) :
    (Extern.SlicesOverlaps.overlaps #[tS, tS] #[tR] #[.slice (some ⟨ga, oa, none⟩) la ca, .slice (some ⟨gb, ob, none⟩) lb cb]).run P w = .ok (.bool false) w :=
  Lib.run_overlaps_apart w tS tR e ht size hz ⟨ga, oa, none⟩ ⟨gb, ob, none⟩ la ca lb cb hne ea eb ca'.size cb'.size (shape_of ha) (shape_of hb) hk (free_of ha _) (free_of ha _)
theorem setRow_ne (w : World) (g : Nat) (cs : Array Value) {k : Nat} (h : k ≠ g) : (w.setRow g cs).heap[k]? = w.heap[k]? := setRow_other w g k cs h
/-- What a row holds where an element has been put in, in two steps: what stands behind is moved on, then it is written. -/
theorem put_in (cur c : List Value) (sz i n : Nat) (hc : c.length = sz) (hi : i ≤ n) (hn : (n + 1) * sz ≤ cur.length) :
    (cur.take ((i + 1) * sz) ++ (cur.take (n * sz)).drop (i * sz) ++ cur.drop ((i + 1) * sz + ((cur.take (n * sz)).drop (i * sz)).length)).take (i * sz) ++ c ++
      (cur.take ((i + 1) * sz) ++ (cur.take (n * sz)).drop (i * sz) ++ cur.drop ((i + 1) * sz + ((cur.take (n * sz)).drop (i * sz)).length)).drop (i * sz + c.length) =
    cur.take (i * sz) ++ c ++ (cur.take (n * sz)).drop (i * sz) ++ cur.drop ((n + 1) * sz) := by
  have h1 : (i + 1) * sz = i * sz + sz := by rw [Nat.add_mul, Nat.one_mul]
  have h2 : (n + 1) * sz = n * sz + sz := by rw [Nat.add_mul, Nat.one_mul]
  have h3 : i * sz ≤ n * sz := Nat.mul_le_mul_right _ hi
  rw [h1, h2, hc]
  generalize i * sz = I at *
  generalize n * sz = N at *
  have hl : (cur.take (I + sz)).length = I + sz := by rw [List.length_take]; omega
  have hm : ((cur.take N).drop I).length = N - I := by rw [List.length_drop, List.length_take]; omega
  rw [hm, show I + sz + (N - I) = N + sz by omega, List.append_assoc (cur.take (I + sz)), List.take_append_of_le_length (by omega), List.take_take, Nat.min_eq_left (by omega)]
  rw [List.drop_append, List.drop_of_length_le (by omega), hl, Nat.sub_self, List.drop_zero, List.nil_append]
  simp only [List.append_assoc]
/-- What is told of a row that has grown by an element. -/
def Ins (w : World) (e : TypeId) (sz : Nat) (q : Prop) (v : Value) (n : Nat) (xs : List Value) (v' : Value) (w' : World) : Prop :=
  SRow w' e sz q v' n xs ∧ w.grownBy w' v.ownBlock ∧ (v'.ownBlock = v.ownBlock ∨ ∃ b, v'.ownBlock = some b ∧ w.heap.size ≤ b) ∧ v'.ownBlock ≠ none
theorem srow_of_owns {w : World} {base : Nat} {e : TypeId} {sz : Nat} {q : Prop} {v : Value} {n : Nat} {xs : List Value} (h : w.ownsRow base e sz v n xs) : SRow w e sz q v n xs := by
  refine ⟨h.1, ?_⟩
  rcases h.2 with h2 | ⟨g, cap, cur, hv, _, hg, hn, hc, hs, ht⟩
  · exact .inl h2
  · exact .inr ⟨g, cap, cur, hv, hg, hn, hc, Nat.le_of_eq hs.symm, fun _ => hs.symm, ht⟩
theorem grownBy_none {w w' : World} {row : Option Nat} (h : w.grownBy w' none) : w.grownBy w' row := ⟨h.os, h.tape, h.output, h.size, fun k hk _ => h.block k hk (by simp)⟩
/-- append of one element. -/
theorem app_one (w : World) (t e : TypeId) (z : Value) (sz bytes : Nat) (q : Prop) (v : Value) (n : Nat) (xs c : List Value) (vb vc : Nat) (ht : P.underlying t = some (.slice e))
    (hinfo : (P.info? e).map (fun i => (i.zero, i.size, i.bytes)) = some (some z, sz, bytes)) (hzs : z.cells.size = sz) (h0 : 0 < sz)
    (h : SRow w e sz q v n xs) (hv : w.heap[vb]? = some (.cells c.toArray e (0, 0))) (hc : c.length = sz) (h1c : ∀ v ∈ c, v.oneCell' = true) (hbytes : (n + 1) * bytes ≤ 140737488355328) (h63 : n + 1 ≤ maxLen) (ty : TypeId) :
    ∃ v' w', (Builtin.append_ #[t, t] ty #[v, .slice (some ⟨vb, 0, none⟩) 1 vc]).run P w = .ok v' w' ∧ Ins w e sz q v (n + 1) (xs ++ c) v' w' := by
  obtain ⟨i0, hi, hzz⟩ := Option.map_eq_some_iff.1 hinfo
  simp only [Prod.mk.injEq] at hzz
  obtain ⟨hz0, hz1, hz2⟩ := hzz
  have hnews : ∀ j u, c[j]? = some u → w.cell? ((⟨vb, 0, none⟩ : Addr).add j) = some u := fun j u hj => by
    rw [Addr.add_lit, cell_of hv, Nat.zero_add]; simpa using hj
  obtain ⟨hl, h⟩ := h
  have own : ∀ base v', (∃ w', (Builtin.append_ #[t, t] ty #[v, .slice (some ⟨vb, 0, none⟩) 1 vc]).run P w = .ok v' w' ∧ w'.ownsRow base e sz v' (n + 1) (xs ++ c) ∧ w.grownBy w' none ∧ w.heap.size ≤ base) → ∃ w', (Builtin.append_ #[t, t] ty #[v, .slice (some ⟨vb, 0, none⟩) 1 vc]).run P w = .ok v' w' ∧ Ins w e sz q v (n + 1) (xs ++ c) v' w' := by
    rintro base v' ⟨w', hr, ho, hg, hb⟩
    refine ⟨w', hr, srow_of_owns ho, grownBy_none hg, ?_⟩
    rcases ho.2 with ⟨_, h⟩ | ⟨g, cap, cur, rfl, hbg, _⟩
    · omega
    · exact ⟨.inr ⟨g, rfl, Nat.le_trans hb hbg⟩, by simp [Value.ownBlock]⟩
  rcases h with ⟨rfl, rfl⟩ | ⟨g, cap, cur, rfl, hg, hn, hm, hs, hq, htk⟩
  · obtain rfl : xs = [] := List.eq_nil_of_length_eq_zero (by simpa using hl)
    obtain ⟨v', w', hr, ho, hgr, _⟩ := run_append_own (P := P) w w.heap.size t ty e i0 z sz bytes ht hi hz0 hz1 hz2 hzs h0 (.slice none 0 0) 0 [] ⟨by simp, .inl ⟨rfl, rfl⟩⟩ ⟨vb, 0, none⟩ 1 vc c (by omega) hnews h1c h63 hbytes (Nat.le_refl _)
    obtain ⟨w2, h2⟩ := own w.heap.size v' ⟨w', hr, ho, hgr, Nat.le_refl _⟩
    exact ⟨v', w2, h2⟩
  · have hcl : cur.toList.length = cur.size := Array.length_toList
    have hnc : n * sz ≤ cap * sz := Nat.mul_le_mul_right _ hn
    by_cases hr : n + 1 ≤ cap
    · have hnc1 : (n + 1) * sz ≤ cap * sz := Nat.mul_le_mul_right _ hr
      have e1 : (n + 1) * sz = n * sz + sz := by rw [Nat.add_mul, Nat.one_mul]
      have hrun := run_append_room (P := P) w t ty e i0 ht hi g n cap cur hg ⟨vb, 0, none⟩ 1 vc c (by rw [hz1]; omega) hnews h1c hr (by rw [hz1]; omega)
      rw [hz1] at hrun
      refine ⟨_, _, hrun, ⟨by rw [List.length_append, hl, hc, e1], .inr ⟨g, cap, _, rfl, setRow_heap w g cur _ e _ hg, hr, hm, ?_, ?_, ?_⟩⟩, ⟨rfl, rfl, rfl, by simp, fun k hk hne => ?_⟩, .inl rfl, by simp [Value.ownBlock]⟩
      · simp only [List.size_toArray, List.length_append, List.length_take, List.length_drop, hcl]; omega
      · intro hq'
        have := hq hq'
        simp only [List.size_toArray, List.length_append, List.length_take, List.length_drop, hcl]; omega
      · rw [← htk, List.append_assoc, ← List.append_assoc, List.take_left' (by rw [List.length_append, List.length_take]; omega)]
      · exact setRow_ne _ _ _ (fun e => hne (by rw [e]; rfl))
    · have holds : ∀ j u, xs[j]? = some u → w.cell? ((⟨g, 0, none⟩ : Addr).add j) = some u := fun j u hj => by
        rw [Addr.add_lit, cell_of hg, Nat.zero_add]
        rw [← htk, List.getElem?_take] at hj
        split at hj
        · simpa using hj
        · cases hj
      obtain ⟨v', w', hrun, ho, hgr⟩ := run_append_arg_grows (P := P) w t ty e i0 z sz bytes ht hi hz0 hz1 hz2 hzs h0 ⟨g, 0, none⟩ n cap xs hl holds ⟨vb, 0, none⟩ 1 vc c (by omega) hnews (by omega) h63 hbytes
      obtain ⟨w2, h2⟩ := own w.heap.size v' ⟨w', hrun, ho, hgr, Nat.le_refl _⟩
      exact ⟨v', w2, h2⟩
/-- What the new row holds where an element has been put in and there was no room. -/
theorem put_new (xs c Z : List Value) (sz i n : Nat) (hl : xs.length = n * sz) (hc : c.length = sz) (hi : i ≤ n) (hZ : (n + 1 - i) * sz ≤ Z.length) :
    let R0 := xs.take (i * sz) ++ Z
    let R1 := R0.take (i * sz) ++ c ++ R0.drop (i * sz + c.length)
    let R2 := R1.take ((i + 1) * sz) ++ xs.drop (i * sz) ++ R1.drop ((i + 1) * sz + (xs.drop (i * sz)).length)
    R2.length = R0.length ∧ R1.length = R0.length ∧ R2.take ((n + 1) * sz) = xs.take (i * sz) ++ c ++ xs.drop (i * sz) := by
  have h1 : (i + 1) * sz = i * sz + sz := by rw [Nat.add_mul, Nat.one_mul]
  have h2 : (n + 1) * sz = n * sz + sz := by rw [Nat.add_mul, Nat.one_mul]
  have h3 : i * sz ≤ n * sz := Nat.mul_le_mul_right _ hi
  have h4 : (n + 1 - i) * sz = (n + 1) * sz - i * sz := Nat.sub_mul _ _ _
  rw [h4, h2] at hZ
  rw [h1, h2, hc]
  generalize i * sz = I at *
  generalize n * sz = N at *
  intro R0 R1 R2
  have a0 : (xs.take I).length = I := by rw [List.length_take]; omega
  have l0 : R0.length = I + Z.length := by rw [List.length_append, a0]
  have l1 : R1.length = R0.length := by
    show (R0.take I ++ c ++ R0.drop (I + sz)).length = _
    rw [List.length_append, List.length_append, List.length_take, List.length_drop]; omega
  have t1 : R1.take (I + sz) = xs.take I ++ c := by
    show (R0.take I ++ c ++ R0.drop (I + sz)).take (I + sz) = _
    rw [List.take_left' (by rw [List.length_append, List.length_take]; omega)]
    show (xs.take I ++ Z).take I ++ c = _
    rw [List.take_left' a0]
  have d0 : (xs.drop I).length = N - I := by rw [List.length_drop]; omega
  refine ⟨?_, l1, ?_⟩
  · show (R1.take (I + sz) ++ xs.drop I ++ R1.drop (I + sz + (xs.drop I).length)).length = _
    rw [List.length_append, List.length_append, t1, List.length_append, a0, d0, List.length_drop]; omega
  · show (R1.take (I + sz) ++ xs.drop I ++ R1.drop (I + sz + (xs.drop I).length)).take (N + sz) = _
    rw [List.take_left' (by rw [List.length_append, t1, List.length_append, a0, d0]; omega), t1]
end Go.Proofs.Ytbbiocmlicoipaa.K
