/- A part of the proof of cursorBounds_holds: its texts, one behind the other, as far as the proof stands on them. (Lines of its texts on the printed words and functions began as lines that a program of the kit had written for this statement.) -/
import Derived.ArgAppend
import Derived.Below
import Derived.BigQuiet
import Derived.ChangeOld
import Derived.Deep.AppendLies
import Derived.Deep.CutBlock
import Derived.Deep.DeepCutAuto
import Derived.Deep.Draws
import Derived.Deep.LoopGhost
import Derived.Deep.OwnRows
import Derived.Deep.QuietTactic
import Derived.Deep.RegionHeld3
import Derived.Deep.RegionLaw
import Derived.Deep.Slices
import Derived.KernelRfl
import Derived.Laws.BitsLemmas
import Derived.Laws.BytesArg
import Derived.Laws.CopyRow
import Derived.Laws.Externs
import Derived.Laws.IdiomCopy
import Derived.Laws.MakeOwn
import Derived.Laws.NewBlocks
import Derived.Laws.OwnMore
import Derived.Laws.Rows
import Derived.Laws.Slices
import Derived.Laws.StructEq
import Derived.Lib.AppendStr
import Derived.Lib.AppendZerosOnto
import Derived.Lib.ConvBytes
import Derived.Lib.Hide
import Derived.Lib.JoinLaws
import Derived.Lib.Overlaps
import Derived.Lib.SmallJoins
import Derived.Lib.Walk
import Derived.Maps.AppendAt
import Derived.OpenShut
import Derived.OrdersHeld
import Derived.OwnWalk
import Derived.ProofKit
import Derived.RowKit
import Derived.RowKit3
import Derived.SizedLaws
import Derived.Tactics
import Derived.Test.YtefnpalkkhhkfaaProg
import Derived.Test.YtefnpalkkhhkfaaRows
import Derived.WalkKit
import Derived.WideLaws
import Derived.WideShapes
import Derived.Test.YtefnpalkkhhkfaaBA1
namespace Go.Proofs.Ytefnpalkkhhkfaa.K
open Go.RowKit Go.ChangeShapes Go.WideShapes Go.Proofs.YtefnpalkkhhkfaaW.PrintWords
set_option linter.unusedVariables false
theorem list_of {α : Type} (f : Nat → α → Prop) (n : Nat) (h : ∀ i, i < n → ∃ x, f i x) : ∃ zs : List α, zs.length = n ∧ ∀ i x, zs[i]? = some x → f i x := by
  induction n with
  | zero => exact ⟨[], rfl, fun i x h => by simp at h⟩
  | succ n ih =>
    obtain ⟨zs, hl, hz⟩ := ih fun i hi => h i (Nat.lt_succ_of_lt hi)
    obtain ⟨x, hx⟩ := h n (Nat.lt_succ_self n)
    refine ⟨zs ++ [x], by simp [hl], fun i y hy => ?_⟩
    rcases Nat.lt_trichotomy i n with c | c | c
    · rw [List.getElem?_append_left (by omega)] at hy
      exact hz i y hy
    · subst c
      rw [List.getElem?_append_right (by omega), hl, Nat.sub_self] at hy
      simp at hy
      rw [← hy]; exact hx
    · rw [List.getElem?_eq_none (by simp; omega)] at hy
      cases hy
theorem open_rows {H : Type} {enc : TypeId × Value → H} {P : Program} {W : World} {base : Nat} {spare : Nat → Bool} {held : Bool} {t e sz B : Nat} {a : Option Addr} {len cap : Nat} {d : DataW H} {ps : List MemPlace} {ts : List TypeId} {ds : List (DataW H)} {j : Nat}
    {α : Type} {K : α → List Value → Prop} {good : α → Prop}
    (hsz : (DataW.weightsEach P ts ds).all (· ≤ reachBytes) = true) (ht : ts[j]? = some t) (hd : ds[j]? = some d) (hu : P.underlying t = some (.slice e)) (hc : P.cellsOf e = sz) (hB : P.bytesOf e = B)
    (hK : ∀ x c, K x c → c.length = sz) (hread : ∀ n cs x, DataW.trod enc P W base spare held n e cs = some x → ∃ y, K y cs ∧ good y)
    (h : DataW.Trod enc P W base spare held t (.slice a len cap) d ps) :
    ∃ zs : List α, zs.length = len ∧ ReadsRow K sz W a zs.length zs ∧ zs.length ≤ cap ∧ zs.length * B ≤ 140737488351232 ∧ ∀ y ∈ zs, good y := by
  obtain ⟨fuel, hf⟩ := h
  rcases Go.Deep.open_slice hu hf with ⟨hcs, _⟩ | ⟨x, len', cap', m, n, D, Pl, hcs, hb, hl, hm, hmm, hx, hel⟩
  · simp [Value.cells] at hcs
    obtain ⟨rfl, rfl, rfl⟩ := hcs
    exact ⟨[], rfl, ⟨rfl, by simp, fun h => by simp at h⟩, Nat.le_refl _, by simp, fun y hy => by simp at hy⟩
  · simp [Value.cells] at hcs
    obtain ⟨rfl, rfl, rfl⟩ := hcs
    have hle : len ≤ m := by rw [hmm]; split <;> omega
    obtain ⟨hx, _⟩ := Prod.mk.inj hx
    subst hx
    have z := sized_slice hsz ht hd hu
    rw [hB] at z
    obtain ⟨zs, hzl, hz⟩ := list_of (fun i (y : α) => ∃ c, c.length = sz ∧ K y c ∧ good y ∧ ∀ k u, c[k]? = some u → W.cell? (x.add (i * sz + k)) = some u) len (fun i hi => by
      obtain ⟨cs', h1, h2⟩ := hel i (by omega)
      obtain ⟨y, hy, hg⟩ := hread _ _ _ h2
      obtain ⟨_, h3, h4⟩ := World.cells?_some h1
      refine ⟨y, cs', by rw [h3, hc], hy, hg, fun k u hu => ?_⟩
      have hk : k < cs'.length := (List.getElem?_eq_some_iff.1 hu).1
      have := h4 k (by rw [← h3]; exact hk)
      rw [Go.Deep.add_add, hc] at this
      rw [this, hu])
    subst hzl
    refine ⟨zs, rfl, ⟨rfl, ?_, fun _ => ⟨x, rfl, fun i y hy => ?_⟩⟩, hl, ?_, fun y hy => ?_⟩
    · unfold maxLen at hm; omega
    · obtain ⟨c, h1, h2, _, h4⟩ := hz i y hy
      exact ⟨c, h1, h2, h4⟩
    · refine Nat.le_trans (Nat.mul_le_mul_right _ ?_) z
      simp
    · obtain ⟨i, hi, rfl⟩ := List.getElem_of_mem hy
      obtain ⟨c, _, _, h3, _⟩ := hz i _ (List.getElem?_eq_getElem hi)
      exact h3
end Go.Proofs.Ytefnpalkkhhkfaa.K
namespace Go.Proofs.Ytefnpalkkhhkfaa.PC
open Go.RowKit Go.Proofs.YtefnpalkkhhkfaaW.PrintWords Go.Proofs.YtefnpalkkhhkfaaW.PrintLast Go.Proofs.YtefnpalkkhhkfaaW.PrintMore
attribute [local go_sem] max2_int min2_int max_two min_two max_three min_three max_four min_four   -- for this text's walks alone
set_option linter.unusedVariables false
set_option linter.unusedSimpArgs false
def errW : Option Int → Value
  | none => .nilIface
  | some c => .iface 0 (.int .i64 c)
theorem errW_none : errW none = .nilIface := rfl
theorem errW_some (c : Int) : errW (some c) = .iface 0 (.int .i64 c) := rfl
theorem info4 : (Try.prog.info? 4).map (fun i => (i.zero, i.size, i.bytes)) = some (some (.bool false), 1, 1) := by kernel_rfl
theorem info104 : (Try.prog.info? 104).map (fun i => (i.zero, i.size, i.bytes)) = some (some (.agg #[(.int .i64 0), (.int .i64 0)]), 2, 16) := by kernel_rfl
structure S24 where
  f0 : Int
  f1 : Int
def z24 : S24 := ⟨(0 : Int), (0 : Int)⟩
def k24 : Kd S24 := Kd.iso (Kd.pair (Kd.int .i64) (Kd.int .i64)) (fun x : S24 => (x.f0, x.f1))
theorem k24_open {w : World} {x : S24} {cs : List Value} (h : k24.K w x cs) : cs = [.int .i64 x.f0, .int .i64 x.f1] := by
  obtain ⟨_, _, rfl, rfl, rfl⟩ := h
  exact rfl
theorem k24_openM {w : World} {base : Nat} {ok : Nat → Prop} {x : S24} {cs : List Value} (h : k24.M w base ok x cs) : cs = [.int .i64 x.f0, .int .i64 x.f1] := by
  obtain ⟨_, _, rfl, rfl, rfl⟩ := h
  exact rfl
theorem k24_mkM (w : World) (base : Nat) (ok : Nat → Prop) (x : S24)  : k24.M w base ok x [.int .i64 x.f0, .int .i64 x.f1] := ⟨[.int .i64 x.f0], [.int .i64 x.f1], rfl, rfl, rfl⟩
structure S83 where
  f0 : S24
  f1 : Int
  f2 : Bool
def z83 : S83 := ⟨z24, (0 : Int), false⟩
def k83 : Kd S83 := Kd.iso (Kd.pair k24 (Kd.pair (Kd.int .i32) Kd.bool)) (fun x : S83 => (x.f0, x.f1, x.f2))
theorem k83_open {w : World} {x : S83} {cs : List Value} (h : k83.K w x cs) : cs = [.int .i64 x.f0.f0, .int .i64 x.f0.f1, .int .i32 x.f1, .bool x.f2] := by
  obtain ⟨_, _, rfl, s0, ⟨_, _, rfl, rfl, rfl⟩⟩ := h
  obtain rfl := k24_open s0
  exact rfl
theorem k83_openM {w : World} {base : Nat} {ok : Nat → Prop} {x : S83} {cs : List Value} (h : k83.M w base ok x cs) : cs = [.int .i64 x.f0.f0, .int .i64 x.f0.f1, .int .i32 x.f1, .bool x.f2] := by
  obtain ⟨_, _, rfl, s0, ⟨_, _, rfl, rfl, rfl⟩⟩ := h
  obtain rfl := k24_openM s0
  exact rfl
theorem k83_mkM (w : World) (base : Nat) (ok : Nat → Prop) (x : S83)  : k83.M w base ok x [.int .i64 x.f0.f0, .int .i64 x.f0.f1, .int .i32 x.f1, .bool x.f2] := ⟨[.int .i64 x.f0.f0, .int .i64 x.f0.f1], [.int .i32 x.f1, .bool x.f2], rfl, (k24_mkM w base ok x.f0 ), ⟨[.int .i32 x.f1], [.bool x.f2], rfl, rfl, rfl⟩⟩
def rd_T83 (xs : List S83) (i : Int) : S83 := xs.getD i.toNat z83
theorem at_T83 {w : World} {A : Option Addr} {n : Nat} {xs : List S83} (h : Kd.C k83 w A n xs) (i : Int) (h0 : 0 ≤ i) (h1 : i < n) : ∃ ad , A = some ad ∧ w.cell? (ad.add (i.toNat * 4)) = some (.int .i64 (rd_T83 xs i).f0.f0) ∧ w.cell? ⟨(ad.add (i.toNat * 4)).block, (ad.add (i.toNat * 4)).off + 1, none⟩ = some (.int .i64 (rd_T83 xs i).f0.f1) ∧ w.cell? ⟨(ad.add (i.toNat * 4)).block, (ad.add (i.toNat * 4)).off + 2, none⟩ = some (.int .i32 (rd_T83 xs i).f1) ∧ w.cell? ⟨(ad.add (i.toNat * 4)).block, (ad.add (i.toNat * 4)).off + 3, none⟩ = some (.bool (rd_T83 xs i).f2) := by
  obtain ⟨ad, c, e, _, hK, hc0⟩ := Kd.C_get h z83 i h0 h1
  have hc : ∀ j u, c[j]? = some u → w.cell? (ad.add (i.toNat * 4 + j)) = some u := hc0
  obtain rfl := k83_open hK
  exact ⟨ad, e, hc 0 _ rfl, by rw [← add_field _ _ 1 (by omega)]; exact hc 1 _ rfl, by rw [← add_field _ _ 2 (by omega)]; exact hc 2 _ rfl, by rw [← add_field _ _ 3 (by omega)]; exact hc 3 _ rfl⟩
structure S104 where
  f0 : Int
  f1 : Int
def z104 : S104 := ⟨(0 : Int), (0 : Int)⟩
def k104 : Kd S104 := Kd.iso (Kd.pair (Kd.int .i64) (Kd.int .i64)) (fun x : S104 => (x.f0, x.f1))
theorem k104_open {w : World} {x : S104} {cs : List Value} (h : k104.K w x cs) : cs = [.int .i64 x.f0, .int .i64 x.f1] := by
  obtain ⟨_, _, rfl, rfl, rfl⟩ := h
  exact rfl
theorem k104_openM {w : World} {base : Nat} {ok : Nat → Prop} {x : S104} {cs : List Value} (h : k104.M w base ok x cs) : cs = [.int .i64 x.f0, .int .i64 x.f1] := by
  obtain ⟨_, _, rfl, rfl, rfl⟩ := h
  exact rfl
theorem k104_mkM (w : World) (base : Nat) (ok : Nat → Prop) (x : S104)  : k104.M w base ok x [.int .i64 x.f0, .int .i64 x.f1] := ⟨[.int .i64 x.f0], [.int .i64 x.f1], rfl, rfl, rfl⟩
def rd_T104 (xs : List S104) (i : Int) : S104 := xs.getD i.toNat z104
theorem at_T104 {w : World} {A : Option Addr} {n : Nat} {xs : List S104} (h : Kd.C k104 w A n xs) (i : Int) (h0 : 0 ≤ i) (h1 : i < n) : ∃ ad , A = some ad ∧ w.cell? (ad.add (i.toNat * 2)) = some (.int .i64 (rd_T104 xs i).f0) ∧ w.cell? ⟨(ad.add (i.toNat * 2)).block, (ad.add (i.toNat * 2)).off + 1, none⟩ = some (.int .i64 (rd_T104 xs i).f1) := by
  obtain ⟨ad, c, e, _, hK, hc0⟩ := Kd.C_get h z104 i h0 h1
  have hc : ∀ j u, c[j]? = some u → w.cell? (ad.add (i.toNat * 2 + j)) = some u := hc0
  obtain rfl := k104_open hK
  exact ⟨ad, e, hc 0 _ rfl, by rw [← add_field _ _ 1 (by omega)]; exact hc 1 _ rfl⟩
structure S49 where
  f0 : S24
  f1 : Int
  f2 : Bool
  f3 : S24
  f4 : Int
def k49 : Kd S49 := Kd.iso (Kd.pair k24 (Kd.pair (Kd.int .i64) (Kd.pair Kd.bool (Kd.pair k24 (Kd.int .i32))))) (fun x : S49 => (x.f0, x.f1, x.f2, x.f3, x.f4))
theorem k49_openM {w : World} {base : Nat} {ok : Nat → Prop} {x : S49} {cs : List Value} (h : k49.M w base ok x cs) : cs = [.int .i64 x.f0.f0, .int .i64 x.f0.f1, .int .i64 x.f1, .bool x.f2, .int .i64 x.f3.f0, .int .i64 x.f3.f1, .int .i32 x.f4] := by
  obtain ⟨_, _, rfl, s0, ⟨_, _, rfl, rfl, ⟨_, _, rfl, rfl, ⟨_, _, rfl, s4, rfl⟩⟩⟩⟩ := h
  obtain rfl := k24_openM s0
  obtain rfl := k24_openM s4
  exact rfl
theorem k49_mkM (w : World) (base : Nat) (ok : Nat → Prop) (x : S49)  : k49.M w base ok x [.int .i64 x.f0.f0, .int .i64 x.f0.f1, .int .i64 x.f1, .bool x.f2, .int .i64 x.f3.f0, .int .i64 x.f3.f1, .int .i32 x.f4] := ⟨[.int .i64 x.f0.f0, .int .i64 x.f0.f1], [.int .i64 x.f1, .bool x.f2, .int .i64 x.f3.f0, .int .i64 x.f3.f1, .int .i32 x.f4], rfl, (k24_mkM w base ok x.f0 ), ⟨[.int .i64 x.f1], [.bool x.f2, .int .i64 x.f3.f0, .int .i64 x.f3.f1, .int .i32 x.f4], rfl, rfl, ⟨[.bool x.f2], [.int .i64 x.f3.f0, .int .i64 x.f3.f1, .int .i32 x.f4], rfl, rfl, ⟨[.int .i64 x.f3.f0, .int .i64 x.f3.f1], [.int .i32 x.f4], rfl, (k24_mkM w base ok x.f3 ), rfl⟩⟩⟩⟩
end Go.Proofs.Ytefnpalkkhhkfaa.PC
namespace Go.Proofs.Ytefnpalkkhhkfaa.OpenS
open Go.RowKit Go.ChangeShapes Go.WideShapes Go.ChangeAt Go.Joins Go.Proofs.Ytefnpalkkhhkfaa.PC Go.Proofs.Ytefnpalkkhhkfaa.K Go.Proofs.YtefnpalkkhhkfaaW.PrintWords
set_option linter.unusedVariables false
set_option maxRecDepth 100000
variable {H : Type} {enc : TypeId × Value → H} {w : World} {base : Nat} {spare : Nat → Bool} {held : Bool}
theorem openBools {ts : List TypeId} {ds : List (DataW H)} {j : Nat} {a : Option Addr} {len cap : Nat} {d : DataW H} {ps : List MemPlace} (hsz : (DataW.weightsEach Try.prog ts ds).all (· ≤ reachBytes) = true) (ht : ts[j]? = some 40) (hd : ds[j]? = some d)
    (h : DataW.Trod enc Try.prog w base spare held 40 (.slice a len cap) d ps) :
    ∃ zs : List Bool, zs.length = len ∧ Kd.C Kd.bool w a zs.length zs ∧ zs.length ≤ cap ∧ zs.length * 1 ≤ 140737488351232 ∧ ∀ y ∈ zs, True :=
  open_rows (K := Kd.bool.K w) (sz := 1) hsz ht hd Try.underlying40 (by kernel_rfl) (by kernel_rfl) (fun x c hx => by rw [show c = [Value.bool x] from hx]; rfl) (fun n cs x hx => by
    obtain ⟨b, hb, _⟩ := DataW.trod_bool Try.underlying4 hx
    exact ⟨b, hb, trivial⟩) h
end Go.Proofs.Ytefnpalkkhhkfaa.OpenS
namespace Go.Proofs.Ytefnpalkkhhkfaa.K
open Go.RowKit
set_option linter.unusedVariables false
set_option linter.unusedSimpArgs false
variable {P : Program}
/-- A slice at the head of a block, with at most the block's room; 'q': all of it. -/
def SRow (w : World) (e : TypeId) (sz : Nat) (q : Prop) (v : Value) (n : Nat) (xs : List Value) : Prop :=
  xs.length = n * sz ∧ ((v = .slice none 0 0 ∧ n = 0) ∨
    ∃ g cap cur, v = .slice (some ⟨g, 0, none⟩) n cap ∧ w.heap[g]? = some (.cells cur e (0, 0)) ∧ n ≤ cap ∧ cap ≤ maxLen ∧ cap * sz ≤ cur.size ∧ (q → cap * sz = cur.size) ∧ cur.toList.take (n * sz) = xs)
theorem run_copy_rowK (w : World) (dT sT ty elem : TypeId) (g o dLen dCap : Nat) (a : Addr) (sLen sCap : Nat) (cur : Array Value) (t : TypeId) (cs : List Value) (k n : Nat)
    (hu : P.underlying dT = some (.slice elem)) (hs : (P.info? elem).map (·.size) = some k)
    (hg : w.heap[g]? = some (.cells cur t (0, 0))) (hn : n = Nat.min sLen dLen) (hl : cs.length = n * k)
    (hsrc : ∀ j v, cs[j]? = some v → w.cell? (a.add j) = some v) (hfit : o + cs.length ≤ cur.size) (h1 : ∀ v ∈ cs, v.oneCell' = true) :
    (Builtin.copy_ #[dT, sT] ty #[.slice (some ⟨g, o, none⟩) dLen dCap, .slice (some a) sLen sCap]).run P w =
      .ok (goInt n) (w.setRow g (cur.toList.take o ++ cs ++ cur.toList.drop (o + cs.length)).toArray) := by
  have hst := run_storeCells_at P g o t cs 0 cur w hg (by simpa using hfit) h1
  have hf : ∀ b l c, b = a → (Builtin.firstCells k n (.slice (some b) l c)).run P w = .ok cs.toArray w := fun b l c e => by
    subst e
    exact run_firstCells_some w k n b l c cs hl hsrc
  cases hq : P.info? elem with
  | none => simp [hq] at hs
  | some i =>
    have hi : i.size = k := by simpa [hq] using hs
    simp [Builtin.copy_, run_underlying hu, Builtin.lenOf, sizeOf, typeInfo, hq, hi, ← hn, hf, hst]
theorem wpList_copy_run (w : World) {ops : Array Oper} {rest : List Oper} {o : Oper} {a : Act} {Q : Exit → Act → World → Prop} (hgd : o.guard = none) (d s : Operand) (t t' : TypeId)
    (ho : o.op = .call { callee := .builtin .copy, args := #[d, s], argTypes := #[t, t'] }) (v u : Value) (hd : a.eval d = v) (hs : a.eval s = u) {v' : Value} {w' : World}
    (hr : (Builtin.copy_ #[t, t'] o.type #[v, u]).run P w = .ok v' w') (h : wpList P ops Q rest (a.put o.dst v') w') : wpList P ops Q (o :: rest) a w := by
  refine wpList_plain hgd fun K hK => ?_
  unfold Oper.wp execOp
  simp only [ho, resolve, invoke, builtin, Sem.run_bind, Sem.run_pure, Result.andThen_ok, List.map_toArray, List.map_cons, List.map_nil, hd, hs, hr]
  exact hK _ _ h
theorem step_copy_run {ops : Array Oper} {o : Oper} {a : Act} {w : World} {K : Act → World → Prop} {Q : Exit → Act → World → Prop} {E : Prop}
    (hg : o.guard = none) (d x : Operand) (dT sT : TypeId) (hop : o.op = Op.call { callee := Callee.builtin Builtin.copy, args := #[d, x], argTypes := #[dT, sT] })
    (v u : Value) (hd : a.eval d = v) (hx : a.eval x = u) {v' : Value} {w' : World} (hr : (Builtin.copy_ #[dT, sT] o.type #[v, u]).run P w = .ok v' w') (hK : K (a.put o.dst v') w') :
    if Region.wanted o (yielded ops a.tmps) = true then Oper.wp P o a w K Q else E := by
  have hw : Region.wanted o (yielded ops a.tmps) = true := by simp [Region.wanted, hg]
  rw [if_pos hw]
  unfold Oper.wp
  simp [execOp, hop, resolve, invoke, builtin, hd, hx, hr, Result.andThen]
  exact hK
theorem shape_of {w : World} {g : Nat} {cur : Array Value} {e : TypeId} {fz : Nat × Nat} (h : w.heap[g]? = some (.cells cur e fz)) : w.shape? g = some (e, cur.size) := by simp [World.shape?, h]
theorem free_of {w : World} {g : Nat} {cur : Array Value} {e : TypeId} (h : w.heap[g]? = some (.cells cur e (0, 0))) (o : Nat) : w.frozen? ⟨g, o, none⟩ = false := by simp [World.frozen?, h]
theorem cell_of {w : World} {g : Nat} {cur : Array Value} {e : TypeId} {fz : Nat × Nat} (h : w.heap[g]? = some (.cells cur e fz)) (o : Nat) : w.cell? ⟨g, o, none⟩ = cur[o]? := by
  simp [World.cell?, h]
theorem lt_of {w : World} {g : Nat} {o : Obj} (h : w.heap[g]? = some o) : g < w.heap.size := by
  rcases Nat.lt_or_ge g w.heap.size with k | k
  · exact k
  · rw [Array.getElem?_eq_none k] at h; cases h
/-- slices.overlaps of two slices in two blocks of the call's own. -/
theorem run_overlaps2 (w : World) (tS tR e : TypeId) (ht : P.underlying tS = some (.slice e)) (size : Nat) (hz : ∀ w, (Go.sizeOf e).run P w = .ok size w) (ga gb : Nat) (oa ob la ca lb cb : Nat) (hne : ga ≠ gb)
    {ca' cb' : Array Value} {ea eb : TypeId} (ha : w.heap[ga]? = some (.cells ca' ea (0, 0))) (hb : w.heap[gb]? = some (.cells cb' eb (0, 0))) (hk : cb'.size ≠ 0) :
    (Extern.SlicesOverlaps.overlaps #[tS, tS] #[tR] #[.slice (some ⟨ga, oa, none⟩) la ca, .slice (some ⟨gb, ob, none⟩) lb cb]).run P w = .ok (.bool false) w :=
  Lib.run_overlaps_apart w tS tR e ht size hz ⟨ga, oa, none⟩ ⟨gb, ob, none⟩ la ca lb cb hne ea eb ca'.size cb'.size (shape_of ha) (shape_of hb) hk (free_of ha _) (free_of ha _)
theorem setRow_ne (w : World) (g : Nat) (cs : Array Value) {k : Nat} (h : k ≠ g) : (w.setRow g cs).heap[k]? = w.heap[k]? := setRow_other w g k cs h
/-- What a row holds where an element has been put in, in two steps: what stands behind is moved on, then it is written. -/
theorem put_in (cur c : List Value) (sz i n : Nat) (hc : c.length = sz) (hi : i ≤ n) (hn : (n + 1) * sz ≤ cur.length) :
    (cur.take ((i + 1) * sz) ++ (cur.take (n * sz)).drop (i * sz) ++ cur.drop ((i + 1) * sz + ((cur.take (n * sz)).drop (i * sz)).length)).take (i * sz) ++ c ++
      (cur.take ((i + 1) * sz) ++ (cur.take (n * sz)).drop (i * sz) ++ cur.drop ((i + 1) * sz + ((cur.take (n * sz)).drop (i * sz)).length)).drop (i * sz + c.length) =
    cur.take (i * sz) ++ c ++ (cur.take (n * sz)).drop (i * sz) ++ cur.drop ((n + 1) * sz) := by
  have h1 : (i + 1) * sz = i * sz + sz := by rw [Nat.add_mul, Nat.one_mul]
  have h2 : (n + 1) * sz = n * sz + sz := by rw [Nat.add_mul, Nat.one_mul]
  have h3 : i * sz ≤ n * sz := Nat.mul_le_mul_right _ hi
  rw [h1, h2, hc]
  generalize i * sz = I at *
  generalize n * sz = N at *
  have hl : (cur.take (I + sz)).length = I + sz := by rw [List.length_take]; omega
  have hm : ((cur.take N).drop I).length = N - I := by rw [List.length_drop, List.length_take]; omega
  rw [hm, show I + sz + (N - I) = N + sz by omega, List.append_assoc (cur.take (I + sz)), List.take_append_of_le_length (by omega), List.take_take, Nat.min_eq_left (by omega)]
  rw [List.drop_append, List.drop_of_length_le (by omega), hl, Nat.sub_self, List.drop_zero, List.nil_append]
  simp only [List.append_assoc]
/-- What is told of a row that has grown by an element. -/
def Ins (w : World) (e : TypeId) (sz : Nat) (q : Prop) (v : Value) (n : Nat) (xs : List Value) (v' : Value) (w' : World) : Prop :=
  SRow w' e sz q v' n xs ∧ w.grownBy w' v.ownBlock ∧ (v'.ownBlock = v.ownBlock ∨ ∃ b, v'.ownBlock = some b ∧ w.heap.size ≤ b) ∧ v'.ownBlock ≠ none
theorem srow_of_owns {w : World} {base : Nat} {e : TypeId} {sz : Nat} {q : Prop} {v : Value} {n : Nat} {xs : List Value} (h : w.ownsRow base e sz v n xs) : SRow w e sz q v n xs := by
  refine ⟨h.1, ?_⟩
  rcases h.2 with h2 | ⟨g, cap, cur, hv, _, hg, hn, hc, hs, ht⟩
  · exact .inl h2
  · exact .inr ⟨g, cap, cur, hv, hg, hn, hc, Nat.le_of_eq hs.symm, fun _ => hs.symm, ht⟩
theorem grownBy_none {w w' : World} {row : Option Nat} (h : w.grownBy w' none) : w.grownBy w' row := ⟨h.os, h.tape, h.output, h.size, fun k hk _ => h.block k hk (by simp)⟩
/-- append of one element. -/
theorem app_one (w : World) (t e : TypeId) (z : Value) (sz bytes : Nat) (q : Prop) (v : Value) (n : Nat) (xs c : List Value) (vb vc : Nat) (ht : P.underlying t = some (.slice e))
    (hinfo : (P.info? e).map (fun i => (i.zero, i.size, i.bytes)) = some (some z, sz, bytes)) (hzs : z.cells.size = sz) (h0 : 0 < sz)
    (h : SRow w e sz q v n xs) (hv : w.heap[vb]? = some (.cells c.toArray e (0, 0))) (hc : c.length = sz) (h1c : ∀ v ∈ c, v.oneCell' = true) (hbytes : (n + 1) * bytes ≤ 140737488355328) (h63 : n + 1 ≤ maxLen) (ty : TypeId) :
    ∃ v' w', (Builtin.append_ #[t, t] ty #[v, .slice (some ⟨vb, 0, none⟩) 1 vc]).run P w = .ok v' w' ∧ Ins w e sz q v (n + 1) (xs ++ c) v' w' := by
  obtain ⟨i0, hi, hzz⟩ := Option.map_eq_some_iff.1 hinfo
  simp only [Prod.mk.injEq] at hzz
  obtain ⟨hz0, hz1, hz2⟩ := hzz
  have hnews : ∀ j u, c[j]? = some u → w.cell? ((⟨vb, 0, none⟩ : Addr).add j) = some u := fun j u hj => by
    rw [Addr.add_lit, cell_of hv, Nat.zero_add]; simpa using hj
  obtain ⟨hl, h⟩ := h
  have own : ∀ base v', (∃ w', (Builtin.append_ #[t, t] ty #[v, .slice (some ⟨vb, 0, none⟩) 1 vc]).run P w = .ok v' w' ∧ w'.ownsRow base e sz v' (n + 1) (xs ++ c) ∧ w.grownBy w' none ∧ w.heap.size ≤ base) → ∃ w', (Builtin.append_ #[t, t] ty #[v, .slice (some ⟨vb, 0, none⟩) 1 vc]).run P w = .ok v' w' ∧ Ins w e sz q v (n + 1) (xs ++ c) v' w' := by
    rintro base v' ⟨w', hr, ho, hg, hb⟩
    refine ⟨w', hr, srow_of_owns ho, grownBy_none hg, ?_⟩
    rcases ho.2 with ⟨_, h⟩ | ⟨g, cap, cur, rfl, hbg, _⟩
    · omega
    · exact ⟨.inr ⟨g, rfl, Nat.le_trans hb hbg⟩, by simp [Value.ownBlock]⟩
  rcases h with ⟨rfl, rfl⟩ | ⟨g, cap, cur, rfl, hg, hn, hm, hs, hq, htk⟩
  · obtain rfl : xs = [] := List.eq_nil_of_length_eq_zero (by simpa using hl)
    obtain ⟨v', w', hr, ho, hgr, _⟩ := run_append_own (P := P) w w.heap.size t ty e i0 z sz bytes ht hi hz0 hz1 hz2 hzs h0 (.slice none 0 0) 0 [] ⟨by simp, .inl ⟨rfl, rfl⟩⟩ ⟨vb, 0, none⟩ 1 vc c (by omega) hnews h1c h63 hbytes (Nat.le_refl _)
    obtain ⟨w2, h2⟩ := own w.heap.size v' ⟨w', hr, ho, hgr, Nat.le_refl _⟩
    exact ⟨v', w2, h2⟩
  · have hcl : cur.toList.length = cur.size := Array.length_toList
    have hnc : n * sz ≤ cap * sz := Nat.mul_le_mul_right _ hn
    by_cases hr : n + 1 ≤ cap
    · have hnc1 : (n + 1) * sz ≤ cap * sz := Nat.mul_le_mul_right _ hr
      have e1 : (n + 1) * sz = n * sz + sz := by rw [Nat.add_mul, Nat.one_mul]
      have hrun := run_append_room (P := P) w t ty e i0 ht hi g n cap cur hg ⟨vb, 0, none⟩ 1 vc c (by rw [hz1]; omega) hnews h1c hr (by rw [hz1]; omega)
      rw [hz1] at hrun
      refine ⟨_, _, hrun, ⟨by rw [List.length_append, hl, hc, e1], .inr ⟨g, cap, _, rfl, setRow_heap w g cur _ e _ hg, hr, hm, ?_, ?_, ?_⟩⟩, ⟨rfl, rfl, rfl, by simp, fun k hk hne => ?_⟩, .inl rfl, by simp [Value.ownBlock]⟩
      · simp only [List.size_toArray, List.length_append, List.length_take, List.length_drop, hcl]; omega
      · intro hq'
        have := hq hq'
        simp only [List.size_toArray, List.length_append, List.length_take, List.length_drop, hcl]; omega
      · rw [← htk, List.append_assoc, ← List.append_assoc, List.take_left' (by rw [List.length_append, List.length_take]; omega)]
      · exact setRow_ne _ _ _ (fun e => hne (by rw [e]; rfl))
    · have holds : ∀ j u, xs[j]? = some u → w.cell? ((⟨g, 0, none⟩ : Addr).add j) = some u := fun j u hj => by
        rw [Addr.add_lit, cell_of hg, Nat.zero_add]
        rw [← htk, List.getElem?_take] at hj
        split at hj
        · simpa using hj
        · cases hj
      obtain ⟨v', w', hrun, ho, hgr⟩ := run_append_arg_grows (P := P) w t ty e i0 z sz bytes ht hi hz0 hz1 hz2 hzs h0 ⟨g, 0, none⟩ n cap xs hl holds ⟨vb, 0, none⟩ 1 vc c (by omega) hnews (by omega) h63 hbytes
      obtain ⟨w2, h2⟩ := own w.heap.size v' ⟨w', hrun, ho, hgr, Nat.le_refl _⟩
      exact ⟨v', w2, h2⟩
/-- What the new row holds where an element has been put in and there was no room. -/
theorem put_new (xs c Z : List Value) (sz i n : Nat) (hl : xs.length = n * sz) (hc : c.length = sz) (hi : i ≤ n) (hZ : (n + 1 - i) * sz ≤ Z.length) :
    let R0 := xs.take (i * sz) ++ Z
    let R1 := R0.take (i * sz) ++ c ++ R0.drop (i * sz + c.length)
    let R2 := R1.take ((i + 1) * sz) ++ xs.drop (i * sz) ++ R1.drop ((i + 1) * sz + (xs.drop (i * sz)).length)
    R2.length = R0.length ∧ R1.length = R0.length ∧ R2.take ((n + 1) * sz) = xs.take (i * sz) ++ c ++ xs.drop (i * sz) := by
  have h1 : (i + 1) * sz = i * sz + sz := by rw [Nat.add_mul, Nat.one_mul]
  have h2 : (n + 1) * sz = n * sz + sz := by rw [Nat.add_mul, Nat.one_mul]
  have h3 : i * sz ≤ n * sz := Nat.mul_le_mul_right _ hi
  have h4 : (n + 1 - i) * sz = (n + 1) * sz - i * sz := Nat.sub_mul _ _ _
  rw [h4, h2] at hZ
  rw [h1, h2, hc]
  generalize i * sz = I at *
  generalize n * sz = N at *
  intro R0 R1 R2
  have a0 : (xs.take I).length = I := by rw [List.length_take]; omega
  have l0 : R0.length = I + Z.length := by rw [List.length_append, a0]
  have l1 : R1.length = R0.length := by
    show (R0.take I ++ c ++ R0.drop (I + sz)).length = _
    rw [List.length_append, List.length_append, List.length_take, List.length_drop]; omega
  have t1 : R1.take (I + sz) = xs.take I ++ c := by
    show (R0.take I ++ c ++ R0.drop (I + sz)).take (I + sz) = _
    rw [List.take_left' (by rw [List.length_append, List.length_take]; omega)]
    show (xs.take I ++ Z).take I ++ c = _
    rw [List.take_left' a0]
  have d0 : (xs.drop I).length = N - I := by rw [List.length_drop]; omega
  refine ⟨?_, l1, ?_⟩
  · show (R1.take (I + sz) ++ xs.drop I ++ R1.drop (I + sz + (xs.drop I).length)).length = _
    rw [List.length_append, List.length_append, t1, List.length_append, a0, d0, List.length_drop]; omega
  · show (R1.take (I + sz) ++ xs.drop I ++ R1.drop (I + sz + (xs.drop I).length)).take (N + sz) = _
    rw [List.take_left' (by rw [List.length_append, t1, List.length_append, a0, d0]; omega), t1]
end Go.Proofs.Ytefnpalkkhhkfaa.K
namespace Go.Proofs.Ytefnpalkkhhkfaa.K
open Go.RowKit
set_option linter.unusedVariables false
def SRow1 (w : World) (e : TypeId) (q : Prop) (v : Value) (n : Nat) (xs : List Value) : Prop :=
  xs.length = n ∧ ((v = .slice none 0 0 ∧ n = 0) ∨
    ∃ g cap cur, v = .slice (some ⟨g, 0, none⟩) n cap ∧ w.heap[g]? = some (.cells cur e (0, 0)) ∧ n ≤ cap ∧ cap ≤ maxLen ∧ cap ≤ cur.size ∧ (q → cap = cur.size) ∧ cur.toList.take n = xs)
theorem srow1 {w : World} {e : TypeId} {q : Prop} {v : Value} {n : Nat} {xs : List Value} : SRow w e 1 q v n xs ↔ SRow1 w e q v n xs := by
  unfold SRow SRow1
  simp only [Nat.mul_one]
end Go.Proofs.Ytefnpalkkhhkfaa.K
namespace Go.Proofs.Ytefnpalkkhhkfaa.K
open Go.RowKit Go.Proofs.YtefnpalkkhhkfaaW.PrintWords
set_option linter.unusedVariables false
/-- Of what was there, at most the blocks of F have changed. -/
structure Fr (F : List Nat) (w w' : World) : Prop where
  os : w'.os = w.os
  tape : w'.tape = w.tape
  output : w'.output = w.output
  size : w.heap.size ≤ w'.heap.size
  block : ∀ k, k < w.heap.size → k ∉ F → w'.heap[k]? = w.heap[k]?
theorem Fr.refl (F : List Nat) (w : World) : Fr F w w := ⟨rfl, rfl, rfl, Nat.le_refl _, fun _ _ _ => rfl⟩
theorem Fr.trans {F F' : List Nat} {a b c : World} (h : Fr F a b) (k : Fr F' b c) (hF : ∀ x ∈ F', x ∈ F ∨ a.heap.size ≤ x) : Fr F a c :=
  ⟨k.os.trans h.os, k.tape.trans h.tape, k.output.trans h.output, Nat.le_trans h.size k.size, fun i hi hn => (k.block i (Nat.lt_of_lt_of_le hi h.size) (fun hm => by
    rcases hF i hm with h1 | h1
    · exact hn h1
    · omega)).trans (h.block i hi hn)⟩
theorem Fr.mono {F F' : List Nat} {a b : World} (h : Fr F a b) (hF : ∀ x ∈ F, x ∈ F' ∨ a.heap.size ≤ x) : Fr F' a b := (Fr.refl F' a).trans h hF
theorem Fr.of_below {F : List Nat} {w w' : World} (h : Below w.heap.size w w') : Fr F w w' := ⟨h.os, h.tape, h.output, h.size, fun k hk _ => h.block k hk⟩
theorem Fr.of_grown {F : List Nat} {w w' : World} {row : Option Nat} (h : w.grownBy w' row) (hr : ∀ g, row = some g → g ∈ F) : Fr F w w' :=
  ⟨h.os, h.tape, h.output, h.size, fun k hk hn => h.block k hk fun e => hn (hr k e.symm)⟩
theorem Fr.of_set {F : List Nat} (w : World) (p : Addr) (u : Value) (hp : p.block ∈ F) : Fr F w (w.setCell p u) :=
  ⟨rfl, rfl, rfl, by simp [World.setCell], fun k hk hn => Below.heap_setCell _ _ _ _ (fun e => hn (by rw [e]; exact hp))⟩
theorem Fr.of_alloc {F : List Nat} (w : World) (o : Obj) : Fr F w (w.alloc o) := Fr.of_below ((Below.refl _ _).alloc (Nat.le_refl _) _)
theorem Fr.of_drew {F : List Nat} (w : World) : Fr F w w.drew := Fr.of_below (Below.refl _ _).drew
theorem Fr.of_drewN {F : List Nat} (w : World) (n : Nat) : Fr F w (w.drewN n) := ⟨rfl, rfl, rfl, by simp, fun _ _ _ => rfl⟩
theorem Fr.below {F : List Nat} {w0 w w' : World} (h : Fr F w w') (hb : Below w0.heap.size w0 w) (hF : ∀ x ∈ F, w0.heap.size ≤ x) : Below w0.heap.size w0 w' :=
  ⟨h.os.trans hb.os, h.tape.trans hb.tape, h.output.trans hb.output, Nat.le_trans hb.size h.size, fun k hk => (h.block k (Nat.lt_of_lt_of_le hk hb.size) (fun hm => by have := hF k hm; omega)).trans (hb.block k hk)⟩
theorem heap_set (w : World) (b o : Nat) (u : Value) {cs : Array Value} {t : TypeId} (h : w.heap[b]? = some (.cells cs t (0, 0))) : (w.setCell ⟨b, o, none⟩ u).heap[b]? = some (.cells (cs.setIfInBounds o u) t (0, 0)) := blk_set h o u
theorem heap_far (w : World) (p : Addr) (u : Value) {k : Nat} (h : k ≠ p.block) : (w.setCell p u).heap[k]? = w.heap[k]? := Below.heap_setCell _ _ _ _ h
theorem heap_types {w : World} {a b : Nat} {ca cb : Array Value} {ta tb : TypeId} {fa fb : Nat × Nat} (ha : w.heap[a]? = some (.cells ca ta fa)) (hb : w.heap[b]? = some (.cells cb tb fb)) (ht : ta ≠ tb) : a ≠ b := by
  rintro rfl
  rw [ha] at hb
  injection hb with hb
  injection hb with _ h2
  exact ht h2
theorem heap_new (w : World) (o : Obj) : (w.alloc o).heap[w.heap.size]? = some o := Array.getElem?_push_size
theorem alloc_sz (w : World) (o : Obj) : (w.alloc o).heap.size = w.heap.size + 1 := Array.size_push _
theorem heap_old (w : World) (o : Obj) {k : Nat} (h : k < w.heap.size) : (w.alloc o).heap[k]? = w.heap[k]? := Below.heap_alloc _ _ _ h
/-- The blocks of a slice's row: one, or none. -/
def ob (v : Value) : List Nat := v.ownBlock.toList
theorem SRow.form {w : World} {e sz : Nat} {q : Prop} {v : Value} {n : Nat} {xs : List Value} (h : SRow w e sz q v n xs) : ∃ A cap, v = .slice A n cap ∧ n ≤ cap ∧ (A = none → n = 0 ∧ cap = 0) := by
  rcases h.2 with ⟨rfl, rfl⟩ | ⟨g, cap, cur, rfl, _, hn, _⟩
  · exact ⟨none, 0, rfl, Nat.le_refl _, fun _ => ⟨rfl, rfl⟩⟩
  · exact ⟨_, cap, rfl, hn, fun h => by cases h⟩
theorem SRow.ob_lt {w : World} {e sz : Nat} {q : Prop} {v : Value} {n : Nat} {xs : List Value} (h : SRow w e sz q v n xs) : ∀ g ∈ ob v, g < w.heap.size ∧ ∃ cs, w.heap[g]? = some (.cells cs e (0, 0)) := by
  intro g hg
  rcases h.2 with ⟨rfl, rfl⟩ | ⟨g', cap, cur, rfl, hh, _⟩
  · simp [ob, Value.ownBlock] at hg
  · simp [ob, Value.ownBlock] at hg
    subst hg
    exact ⟨lt_of hh, cur, hh⟩
theorem SRow.keep {w w' : World} {e sz : Nat} {q : Prop} {v : Value} {n : Nat} {xs : List Value} (h : SRow w e sz q v n xs) (hk : ∀ g ∈ ob v, w'.heap[g]? = w.heap[g]?) : SRow w' e sz q v n xs := by
  refine ⟨h.1, ?_⟩
  rcases h.2 with ⟨rfl, rfl⟩ | ⟨g, cap, cur, rfl, hh, r⟩
  · exact .inl ⟨rfl, rfl⟩
  · exact .inr ⟨g, cap, cur, rfl, (hk g (by simp [ob, Value.ownBlock])).trans hh, r⟩
/-- A cell of a row of one-cell elements. -/
theorem SRow.cell1 {w : World} {e : Nat} {q : Prop} {v : Value} {n : Nat} {xs : List Value} (h : SRow w e 1 q v n xs) {i : Nat} {u : Value} (hu : xs[i]? = some u) :
    ∃ g cap, v = .slice (some ⟨g, 0, none⟩) n cap ∧ n ≤ cap ∧ w.cell? ⟨g, i, none⟩ = some u := by
  have hi := (List.getElem?_eq_some_iff.1 hu).1
  rcases (srow1.1 h).2 with ⟨rfl, rfl⟩ | ⟨g, cap, cur, rfl, hh, hn, _, _, _, ht⟩
  · have := (srow1.1 h).1; omega
  · refine ⟨g, cap, rfl, hn, ?_⟩
    rw [cell_of hh]
    rw [← ht, List.getElem?_take] at hu
    split at hu
    · simpa using hu
    · cases hu
end Go.Proofs.Ytefnpalkkhhkfaa.K
namespace Go.Proofs.Ytefnpalkkhhkfaa.IX
open Go.RowKit
set_option linter.unusedVariables false
/-- A block of an index: where it lies, the slice of its marks, and the marks. -/
structure Blk where
  b : Nat
  v : Value
  ms : List Bool
def marks (L : List Blk) : List Bool := L.flatMap Blk.ms
def cn (l : List Bool) : Nat := l.count true
theorem marks_nil : marks [] = [] := rfl
theorem marks_cons (x : Blk) (L : List Blk) : marks (x :: L) = x.ms ++ marks L := rfl
theorem marks_app (A B : List Blk) : marks (A ++ B) = marks A ++ marks B := List.flatMap_append
theorem cn_app (a b : List Bool) : cn (a ++ b) = cn a + cn b := List.count_append
theorem cn_le (l : List Bool) : cn l ≤ l.length := List.count_le_length
theorem cn_cons (x : Bool) (l : List Bool) : cn (x :: l) = (if x = true then 1 else 0) + cn l := by
  unfold cn
  rw [List.count_cons]
  cases x <;> simp <;> omega
theorem cn_take_succ (l : List Bool) (i : Nat) (h : i < l.length) : cn (l.take (i + 1)) = cn (l.take i) + (if l[i] = true then 1 else 0) := by
  rw [← List.take_append_getElem h, cn_app, cn_cons]
  simp [cn]
theorem marks_take_succ (L : List Blk) (i : Nat) (h : i < L.length) : marks (L.take (i + 1)) = marks (L.take i) ++ L[i].ms := by
  rw [← List.take_append_getElem h, marks_app, marks_cons, marks_nil, List.append_nil]
theorem split_at (L : List Blk) (i : Nat) (h : i < L.length) : L = L.take i ++ L[i] :: L.drop (i + 1) := by
  rw [← List.drop_eq_getElem_cons h, List.take_append_drop]
theorem marks_len_take (L : List Blk) (i : Nat) : (marks (L.take i)).length ≤ (marks L).length := by
  conv => rhs; rw [← List.take_append_drop i L, marks_app, List.length_append]
  omega
/-- Which place is the k-th that is seen. -/
def sel : List Bool → Nat → Option Nat
  | [], _ => none
  | true :: l, 0 => some 0
  | true :: l, k + 1 => (sel l k).map (· + 1)
  | false :: l, k => (sel l k).map (· + 1)
theorem sel_app (a b : List Bool) (k : Nat) : sel (a ++ b) k = if k < cn a then sel a k else (sel b (k - cn a)).map (· + a.length) := by
  induction a generalizing k with
  | nil => simp [cn]
  | cons x a ih =>
    rw [List.cons_append, cn_cons]
    cases x
    · simp only [sel, ih, Bool.false_eq_true, if_false, Nat.zero_add]
      split
      · rfl
      · rw [Option.map_map]; congr 1
    · cases k with
      | zero => simp [sel]
      | succ k =>
        simp only [sel, ih, if_true]
        by_cases c : k < cn a
        · rw [if_pos c, if_pos (by omega)]
        · rw [if_neg c, if_neg (by omega), Option.map_map, show k + 1 - (1 + cn a) = k - cn a by omega]; congr 1
theorem sel_none (l : List Bool) (k : Nat) (h : cn l ≤ k) : sel l k = none := by
  induction l generalizing k with
  | nil => rfl
  | cons x l ih =>
    rw [cn_cons] at h
    cases x
    · simp only [sel]; rw [ih k (by simpa using h)]; rfl
    · cases k with
      | zero => simp at h
      | succ k => simp only [sel]; rw [ih k (by simp at h; omega)]; rfl
theorem sel_some (l : List Bool) (k : Nat) (h : k < cn l) : ∃ i, sel l k = some i ∧ i < l.length ∧ l[i]? = some true ∧ cn (l.take i) = k := by
  induction l generalizing k with
  | nil => simp [cn] at h
  | cons x l ih =>
    rw [cn_cons] at h
    cases x
    · obtain ⟨i, h1, h2, h3, h4⟩ := ih k (by simpa using h)
      exact ⟨i + 1, by simp [sel, h1], by simp; omega, by simpa using h3, by rw [List.take_succ_cons, cn_cons, h4]; simp⟩
    · cases k with
      | zero => exact ⟨0, rfl, by simp, rfl, rfl⟩
      | succ k =>
        obtain ⟨i, h1, h2, h3, h4⟩ := ih k (by simp at h; omega)
        exact ⟨i + 1, by simp [sel, h1], by simp; omega, by simpa using h3, by rw [List.take_succ_cons, cn_cons, h4]; simp; omega⟩
end Go.Proofs.Ytefnpalkkhhkfaa.IX
namespace Go.Proofs.Ytefnpalkkhhkfaa.PC
open Go.RowKit Go.Proofs.YtefnpalkkhhkfaaW.PrintWords Go.Proofs.YtefnpalkkhhkfaaW.PrintLast Go.Proofs.YtefnpalkkhhkfaaW.PrintMore
attribute [local go_sem] max2_int min2_int max_two min_two max_three min_three max_four min_four
set_option linter.unusedVariables false
set_option linter.unusedSimpArgs false
def index_one.f (a0 : Bool) : Option (Int) := if a0 = true then (some 1) else (some 0)
set_option maxHeartbeats 8000000 in
set_option maxRecDepth 100000 in
theorem index_one.calls (a0 : Bool) (r : Int) (w : World) (h : index_one.f a0 = some r) :
    Calls Try.prog 50 #[.bool a0] w fun e w' => e = .returned (.int .i64 r) ∧ Drawn0 w w' := by
  have H : (if a0 = true then (some 1) else (some 0)) = some r := h
  clear h
  by_cases c2 : a0 = true
  · subst c2
    have H1 : (some 1) = some r := by rw [if_pos rfl] at H; exact H
    clear H
    have H := H1
    clear H1
    obtain rfl := Option.some.inj H
    go_enter Try.func50, Try.ntmps50
    go_wp2
    go_ret
    exact ⟨by first | rfl | (simp; done) | (simp [*]; done), by repeat (first | exact Drawn0.refl _ | apply Drawn0.step)⟩
  · replace c2 := Bool.eq_false_iff.mpr c2
    subst c2
    have H1 : (some 0) = some r := by rw [if_neg (show ¬ (false = true) by decide)] at H; exact H
    clear H
    have H := H1
    clear H1
    obtain rfl := Option.some.inj H
    go_enter Try.func50, Try.ntmps50
    go_wp2
    go_ret
    exact ⟨by first | rfl | (simp; done) | (simp [*]; done), by repeat (first | exact Drawn0.refl _ | apply Drawn0.step)⟩
end Go.Proofs.Ytefnpalkkhhkfaa.PC
namespace Go.Proofs.Ytefnpalkkhhkfaa.PC
open Go.RowKit Go.Proofs.Ytefnpalkkhhkfaa.K
set_option linter.unusedVariables false
set_option linter.unusedSimpArgs false
theorem ovB (w : World) (ga gb oa ob la ca lb cb : Nat) (hne : ga ≠ gb) {xa xb : Array Value} (ha : w.heap[ga]? = some (.cells xa 4 (0, 0))) (hb : w.heap[gb]? = some (.cells xb 4 (0, 0))) (hk : xb.size ≠ 0) :
    (callFunc 79 #[.slice (some ⟨ga, oa, none⟩) la ca, .slice (some ⟨gb, ob, none⟩) lb cb]).run Try.prog w = .ok (.value (.bool false)) w := by
  rw [run_callFunc_extern Try.func79 (by kernel_rfl) (by kernel_rfl) (by kernel_rfl) (e := Extern.SlicesOverlaps.overlaps #[40, 40] #[4]) (by kernel_rfl),
    run_overlaps2 w 40 4 4 Try.underlying40 1 (fun _ => by kernel_rfl) ga gb oa ob la ca lb cb hne ha hb hk]
  rfl
set_option maxHeartbeats 4000000 in
set_option maxRecDepth 100000 in
theorem insB_shift (w : World) (g n cap i vb : Nat) (cur : Array Value) (c : List Value) (hg : w.heap[g]? = some (.cells cur 4 (0, 0))) (hv : w.heap[vb]? = some (.cells c.toArray 4 (0, 0))) (hne : vb ≠ g) (hc : c.length = 1)
    (h1c : ∀ v ∈ c, v.oneCell' = true) (h1 : ∀ v ∈ cur.toList.take (n), v.oneCell' = true) (hi : i < n) (hroom : n + 1 ≤ cap) (hcap : cap ≤ maxLen) (hcur : cap ≤ cur.size) :
    Calls Try.prog 72 #[.slice (some ⟨g, 0, none⟩) n cap, .int .i64 i, .slice (some ⟨vb, 0, none⟩) 1 1] w fun e w' =>
      e = .returned (.slice (some ⟨g, 0, none⟩) (n + 1) cap) ∧ ∃ k, w' = (w.drewN k).setRow g (cur.toList.take (i) ++ c ++ (cur.toList.take (n)).drop (i) ++ cur.toList.drop ((n + 1))).toArray := by
  unfold maxLen at hcap
  have hov : ∀ oa ob la ca lb cb, (callFunc 79 #[.slice (some ⟨vb, oa, none⟩) la ca, .slice (some ⟨g, ob, none⟩) lb cb]).run Try.prog w = .ok (.value (.bool false)) w := fun oa ob la ca lb cb => ovB w vb g oa ob la ca lb cb hne hv hg (by omega)
  have hz2 : ¬ ((i : Int) = (n : Int)) := by omega
  have hw1 : IntKind.i64.wrap ((i : Int) + 1) = (i : Int) + 1 := by rw [IntKind.wrap_i64]; omega
  have hw2 : IntKind.i64.wrap ((n : Int) + 1) = (n : Int) + 1 := by rw [IntKind.wrap_i64]; omega
  have hb1 : (0 : Int) ≤ (i : Int) + 1 := by omega
  have hin : i ≤ n := by omega
  have hb2 : ¬ (cap = i + 1) := by omega
  have hb3 : (i : Int) ≤ (n : Int) + 1 := by omega
  have hb4 : ¬ (cap = i) := by omega
  have hsz : (Try.prog.info? 4).map (·.size) = some 1 := by kernel_rfl
  have hcl : cur.toList.length = cur.size := Array.length_toList
  obtain ⟨tl, htl⟩ : ∃ tl, (cur.toList.take (n)).drop (i) = tl := ⟨_, rfl⟩
  have htll : tl.length = (n - i) := by rw [← htl, List.length_drop, List.length_take, hcl]; omega
  obtain ⟨row1, hrow1⟩ : ∃ r, (cur.toList.take ((i + 1)) ++ tl ++ cur.toList.drop ((i + 1) + tl.length)).toArray = r := ⟨_, rfl⟩
  have hcp1 : ∀ ty dc sc, (Builtin.copy_ #[40, 40] ty #[.slice (some ⟨g, (i + 1), none⟩) (n - i) dc, .slice (some ⟨g, i, none⟩) (n + 1 - i) sc]).run Try.prog w.drew = .ok (goInt ((n - i : Nat) : Int)) (w.drew.setRow g row1) := fun ty dc sc => by
    rw [← hrow1]
    refine run_copy_rowK w.drew 40 40 ty 4 g ((i + 1)) (n - i) dc ⟨g, i, none⟩ (n + 1 - i) sc cur 4 tl 1 (n - i) Try.underlying40 hsz hg (by simp only [Nat.min_def]; split <;> omega) (by omega) (fun j v hj => ?_) (by rw [htll]; omega) (fun v hv => ?_)
    · rw [Addr.add_lit, cell_of (w := w.drew) hg]
      rw [← htl, List.getElem?_drop, List.getElem?_take] at hj
      split at hj
      · rw [← hj]; simp
      · cases hj
    · rw [← htl] at hv
      exact h1 v (List.mem_of_mem_drop hv)
  have hg1 : (w.drew.setRow g row1).heap[g]? = some (.cells row1 4 (0, 0)) := setRow_heap w.drew g cur _ 4 _ hg
  have hrl : row1.size = cur.size := by rw [← hrow1]; simp [htll]; omega
  obtain ⟨row2, hrow2⟩ : ∃ r, (row1.toList.take (i) ++ c ++ row1.toList.drop (i + c.length)).toArray = r := ⟨_, rfl⟩
  have hcp2 : ∀ (W : World), W = w.drew.setRow g row1 → ∀ ty dc, (Builtin.copy_ #[40, 40] ty #[.slice (some ⟨g, i, none⟩) (n + 1 - i) dc, .slice (some ⟨vb, 0, none⟩) 1 1]).run Try.prog W = .ok (goInt 1) (W.setRow g row2) := fun W hW ty dc => by
    subst hW
    rw [← hrow2]
    refine run_copy_rowK _ 40 40 ty 4 g (i) (n + 1 - i) dc ⟨vb, 0, none⟩ 1 1 row1 4 c 1 1 Try.underlying40 hsz hg1 (by simp only [Nat.min_def]; split <;> omega) (by omega) (fun j v hj => ?_) (by rw [hrl, hc]; omega) h1c
    have hv1 : (w.drew.setRow g row1).heap[vb]? = some (.cells c.toArray 4 (0, 0)) := by rw [setRow_ne _ _ _ hne]; exact hv
    rw [Addr.add_lit, cell_of hv1, Nat.zero_add]
    simpa using hj
  have hfin : row2 = (cur.toList.take (i) ++ c ++ (cur.toList.take (n)).drop (i) ++ cur.toList.drop ((n + 1))).toArray := by
    rw [← hrow2, ← hrow1, ← htl]
    have hpi := put_in cur.toList c 1 i n hc hin (by rw [hcl]; omega)
    simp only [Nat.mul_one] at hpi
    exact congrArg List.toArray hpi
  have HF := Lib.hid hfin
  clear hfin hrow1 hrow2 htll htl hcl hsz hg1 hrl h1 h1c
  go_enter Try.func72, Try.ntmps72
  go_wp2_with (simp only [hov])
  go_region_law (refine step_copy_run rfl _ _ 40 40 rfl _ _ (by simp [Act.eval, Act.put]) (by simp [Act.eval, Act.put]) (hcp1 _ _ _) ?_)
  go_wp2_with (at_builtin; refine wpList_copy_run _ rfl _ _ 40 40 rfl _ _ rfl rfl (hcp2 _ rfl _ _) ?_)
  go_ret
  exact ⟨rfl, 1, by rw [← HF.out, setRow_setRow]; rfl⟩
set_option maxHeartbeats 4000000 in
set_option maxRecDepth 100000 in
theorem insB_end (w : World) (q : Prop) (v : Value) (n vb : Nat) (xs c : List Value) (h : SRow w 4 1 q v n xs) (hv : w.heap[vb]? = some (.cells c.toArray 4 (0, 0))) (hc : c.length = 1)
    (h1c : ∀ v ∈ c, v.oneCell' = true) (hbytes : (n + 1) * 1 ≤ 140737488355328) :
    Calls Try.prog 72 #[v, .int .i64 n, .slice (some ⟨vb, 0, none⟩) 1 1] w fun e w' => ∃ v', e = .returned v' ∧ Ins w 4 1 q v (n + 1) (xs ++ c) v' w' := by
  obtain ⟨v', w', hr, hI⟩ := app_one (P := Try.prog) w 40 4 (.bool false) 1 1 q v n xs c vb 1 Try.underlying40 info4 rfl (by decide) h hv hc h1c hbytes (by unfold maxLen; omega) 40
  have HI := Lib.hid hI
  obtain ⟨a, cap, rfl, hca⟩ : ∃ a cap, v = .slice a n cap ∧ n ≤ cap := by
    rcases h.2 with ⟨rfl, rfl⟩ | ⟨g, cap, cur, rfl, _, hn, _⟩
    · exact ⟨none, 0, rfl, Nat.le_refl _⟩
    · exact ⟨_, cap, rfl, hn⟩
  have hnn : n ≤ 140737488355328 := by omega
  clear hI h h1c hc hv
  by_cases hcn : cap = n
  · subst hcn
    go_enter Try.func72, Try.ntmps72
    go_wp2_with (at_builtin; refine Lib.wpList_append_run _ rfl _ _ 40 40 rfl _ _ rfl rfl _ _ hr ?_)
    go_ret
    exact ⟨v', rfl, HI.out⟩
  · go_enter Try.func72, Try.ntmps72
    go_wp2_with (at_builtin; refine Lib.wpList_append_run _ rfl _ _ 40 40 rfl _ _ rfl rfl _ _ hr ?_)
    go_ret
    exact ⟨v', rfl, HI.out⟩
set_option maxHeartbeats 4000000 in
set_option maxRecDepth 100000 in
theorem insB_grow (w : World) (g n cap i vb : Nat) (cur : Array Value) (xs c : List Value) (hg : w.heap[g]? = some (.cells cur 4 (0, 0))) (hv : w.heap[vb]? = some (.cells c.toArray 4 (0, 0))) (hc : c.length = 1)
    (h1c : ∀ v ∈ c, v.oneCell' = true) (h1 : ∀ v ∈ xs, v.oneCell' = true) (hi : i < n) (hn : n ≤ cap) (hroom : cap < n + 1) (hbytes : (n + 1) * 1 ≤ 140737488355328) (hcur : cap ≤ cur.size) (hxs : cur.toList.take (n) = xs) :
    Calls Try.prog 72 #[.slice (some ⟨g, 0, none⟩) n cap, .int .i64 i, .slice (some ⟨vb, 0, none⟩) 1 1] w fun e w' =>
      ∃ G row, e = .returned (.slice (some ⟨w.heap.size, 0, none⟩) (n + 1) G) ∧ n + 1 ≤ G ∧ G ≤ maxLen ∧ row.size = G ∧ row.toList.take ((n + 1)) = xs.take (i) ++ c ++ xs.drop (i) ∧
        w'.heap[w.heap.size]? = some (.cells row 4 (0, 0)) ∧ w.grownBy w' none := by
  obtain ⟨i0, hi0, hzz⟩ := Option.map_eq_some_iff.1 info4
  simp only [Prod.mk.injEq] at hzz
  obtain ⟨hz0, hz1, hz2⟩ := hzz
  have hsz : (Try.prog.info? 4).map (·.size) = some 1 := by kernel_rfl
  have hcl : cur.toList.length = cur.size := Array.length_toList
  have hxl : xs.length = n := by rw [← hxs, List.length_take]; omega
  have hgw := lt_of hg
  have hvw := lt_of hv
  have hsrc : ∀ (W : World), (∀ k, k < w.heap.size → W.heap[k]? = w.heap[k]?) → ∀ o j u, (xs.drop o)[j]? = some u → W.cell? ((⟨g, o, none⟩ : Addr).add j) = some u := fun W hW o j u hj => by
    rw [Addr.add_lit, cell_of ((hW g hgw).trans hg)]
    rw [List.getElem?_drop, ← hxs, List.getElem?_take] at hj
    split at hj
    · simpa using hj
    · cases hj
  have hold : (Builtin.firstCells i0.size i (.slice (some ⟨g, 0, none⟩) i cap)).run Try.prog w.drew = .ok (xs.take (i)).toArray w.drew := by
    rw [hz1]
    refine run_firstCells_some w.drew 1 i ⟨g, 0, none⟩ i cap (xs.take (i)) (by rw [List.length_take]; omega) (fun j v hj => ?_)
    rw [List.getElem?_take] at hj
    split at hj
    · exact hsrc w.drew (fun _ _ => rfl) 0 j v (by simpa using hj)
    · cases hj
  have hrz0 := fun ty => Lib.run_append_grow_zeros (P := Try.prog) w 40 3 ty 4 i0 (.bool false) .i64 .i64 Try.underlying40 Try.underlying3 hi0 hz0 (some ⟨g, 0, none⟩) i cap (xs.take (i)) hold (n + 1 - i) (by omega) (by omega) (by omega) (by omega) (by rw [hz2]; omega)
    (by rw [hz2, show i + (n + 1 - i) = n + 1 by omega]; exact growslice_fits hroom hbytes)
  rw [show i + (n + 1 - i) = n + 1 by omega] at hrz0
  have hGn := grownCap_ge w (n + 1) cap 4
  have hGm := grownCap_le_maxLen w (n + 1) cap 4 (by unfold maxLen; omega)
  obtain ⟨G, hG⟩ : ∃ G, grownCap w (n + 1) cap 4 = G := ⟨_, rfl⟩
  rw [hG] at hrz0 hGn hGm
  obtain ⟨Z, hZ⟩ : ∃ Z : List Value, (Builtin.zeroCells (Value.bool false).cells (n + 1 - i) ++ Builtin.zeroCells (Value.bool false).cells (G - (n + 1))).toList = Z := ⟨_, rfl⟩
  have hZl : Z.length = (G - i) := by
    rw [← hZ, Array.length_toList, Array.size_append, size_zeroCells, size_zeroCells]
    have : (Value.bool false).cells.size = 1 := by decide
    rw [this]; omega
  obtain ⟨R0, hR0⟩ : ∃ R : Array Value, (xs.take (i) ++ Z).toArray = R := ⟨_, rfl⟩
  have hrow0 : (xs.take (i)).toArray ++ Builtin.zeroCells (Value.bool false).cells (n + 1 - i) ++ Builtin.zeroCells (Value.bool false).cells (G - (n + 1)) = R0 := by
    rw [← hR0, ← hZ]
    apply Array.ext'
    simp [List.append_assoc]
  rw [hrow0] at hrz0
  obtain ⟨hp1, hp2, hp3⟩ := put_new xs c Z 1 i n (by omega) hc (by omega) (by rw [hZl]; omega)
  simp only [Nat.mul_one] at hp1 hp2 hp3
  have hR0t : R0.toList = xs.take (i) ++ Z := by rw [← hR0]
  rw [← hR0t] at hp1 hp2 hp3
  have hR0s : R0.size = G := by
    rw [← Array.length_toList, hR0t, List.length_append, List.length_take, hZl]; omega
  obtain ⟨R1, hR1⟩ : ∃ R : Array Value, (R0.toList.take (i) ++ c ++ R0.toList.drop (i + c.length)).toArray = R := ⟨_, rfl⟩
  have hR1t : R1.toList = R0.toList.take (i) ++ c ++ R0.toList.drop (i + c.length) := by rw [← hR1]
  rw [← hR1t] at hp1 hp2 hp3
  obtain ⟨R2, hR2⟩ : ∃ R : Array Value, (R1.toList.take ((i + 1)) ++ xs.drop (i) ++ R1.toList.drop ((i + 1) + (xs.drop (i)).length)).toArray = R := ⟨_, rfl⟩
  have hR2t : R2.toList = R1.toList.take ((i + 1)) ++ xs.drop (i) ++ R1.toList.drop ((i + 1) + (xs.drop (i)).length) := by rw [← hR2]
  rw [← hR2t] at hp1 hp3
  have hR1s : R1.size = G := by rw [← Array.length_toList, hp2, Array.length_toList]; exact hR0s
  have hR2s : R2.size = G := by rw [← Array.length_toList, hp1, Array.length_toList]; exact hR0s
  obtain ⟨N, hN⟩ : ∃ N, w.heap.size = N := ⟨_, rfl⟩
  obtain ⟨W0, hW0⟩ : ∃ W, w.drew.alloc (.cells R0 4) = W := ⟨_, rfl⟩
  have hW0g : W0.heap[N]? = some (.cells R0 4 (0, 0)) := by rw [← hW0, ← hN]; exact heap_alloc_new w.drew _
  have hW0o : ∀ k, k < w.heap.size → W0.heap[k]? = w.heap[k]? := fun k hk => by rw [← hW0]; exact heap_alloc_old w.drew _ hk
  have hdl : (xs.drop (i)).length = (n - i) := by rw [List.length_drop, hxl]
  have hcpA : ∀ (W : World), W.heap = W0.heap → ∀ ty dc, (Builtin.copy_ #[40, 40] ty #[.slice (some ⟨N, i, none⟩) (n + 1 - i) dc, .slice (some ⟨vb, 0, none⟩) 1 1]).run Try.prog W = .ok (goInt 1) (W.setRow N R1) := fun W hW ty dc => by
    rw [← hR1]
    refine run_copy_rowK W 40 40 ty 4 N (i) (n + 1 - i) dc ⟨vb, 0, none⟩ 1 1 R0 4 c 1 1 Try.underlying40 hsz (by rw [hW]; exact hW0g) (by simp only [Nat.min_def]; split <;> omega) (by omega) (fun j v hj => ?_) (by rw [hR0s, hc]; omega) h1c
    rw [Addr.add_lit, cell_of (e := 4) (fz := (0, 0)) (by rw [hW]; exact (hW0o vb hvw).trans hv), Nat.zero_add]
    simpa using hj
  have hcpB : ∀ (W : World), W.heap = (W0.setRow N R1).heap → ∀ ty dc sc, (Builtin.copy_ #[40, 40] ty #[.slice (some ⟨N, (i + 1), none⟩) (n - i) dc, .slice (some ⟨g, i, none⟩) (n - i) sc]).run Try.prog W = .ok (goInt ((n - i : Nat) : Int)) (W.setRow N R2) := fun W hW ty dc sc => by
    rw [← hR2]
    refine run_copy_rowK W 40 40 ty 4 N ((i + 1)) (n - i) dc ⟨g, i, none⟩ (n - i) sc R1 4 (xs.drop (i)) 1 (n - i) Try.underlying40 hsz (by rw [hW]; exact setRow_heap W0 N R0 R1 4 _ hW0g) (by simp only [Nat.min_def]; split <;> omega) (by omega) (fun j v hj => ?_) (by rw [hR1s, hdl]; omega)
      (fun v hv => h1 v (List.mem_of_mem_drop hv))
    exact hsrc W (fun k hk => by rw [hW, setRow_ne _ _ _ (by omega)]; exact hW0o k hk) (i) j v hj
  have hW0s : W0.heap.size = N + 1 := by rw [← hW0, ← hN]; simp
  have hW0e : W0.os = w.os ∧ W0.tape = w.tape ∧ W0.output = w.output := by rw [← hW0]; exact ⟨rfl, rfl, rfl⟩
  have hfr : ∀ W : World, W.os = W0.os → W.tape = W0.tape → W.output = W0.output → W.heap = ((W0.setRow N R1).setRow N R2).heap → W.heap[w.heap.size]? = some (.cells R2 4 (0, 0)) ∧ w.grownBy W none := fun W a1 a2 a3 a4 => by
    refine ⟨by rw [hN, a4]; exact setRow_heap _ N R1 R2 4 _ (setRow_heap W0 N R0 R1 4 _ hW0g), a1.trans hW0e.1, a2.trans hW0e.2.1, a3.trans hW0e.2.2, by rw [a4]; simp [hW0s]; omega, fun k hk _ => ?_⟩
    rw [a4, setRow_ne _ _ _ (by omega), setRow_ne _ _ _ (by omega)]
    exact hW0o k hk
  have HF := Lib.hid hfr
  have HP := Lib.hid hp3
  have HG := Lib.hid (show n + 1 ≤ G ∧ G ≤ maxLen ∧ R2.size = G from ⟨hGn, hGm, hR2s⟩)
  have hG63 : G ≤ 9223372036854775807 := by unfold maxLen at hGm; omega
  have hrz : ∀ ty, (Builtin.append_ #[40, 3] ty #[.slice (some ⟨g, 0, none⟩) i cap, .int .i64 ((n : Int) + 1 - (i : Int))]).run Try.prog w = .ok (.slice (some ⟨N, 0, none⟩) (n + 1) G) W0 := fun ty => by
    rw [show (n : Int) + 1 - (i : Int) = ((n + 1 - i : Nat) : Int) by omega, ← hN, ← hW0]
    exact hrz0 ty
  have hz2 : ¬ ((i : Int) = (n : Int)) := by omega
  have hw1 : IntKind.i64.wrap ((i : Int) + 1) = (i : Int) + 1 := by rw [IntKind.wrap_i64]; omega
  have hw2 : IntKind.i64.wrap ((n : Int) + 1) = (n : Int) + 1 := by rw [IntKind.wrap_i64]; omega
  have hb1 : (0 : Int) ≤ (i : Int) + 1 := by omega
  have hin : i ≤ n := by omega
  have hb3 : (i : Int) ≤ (n : Int) := by omega
  have hGi : ¬ (G = i) := by omega
  have hGim : ¬ (G = i + 1) := by omega
  have hci : ¬ (cap = i) := by omega
  have hr3 : (cap : Int) < (n : Int) + 1 := by omega
  clear hfr hW0e hp1 hp2 hp3 hGm hR1t hR2t hR0t hR1 hR2 hR0 hR0s hR1s hR2s hrow0 hrz0 hZ hZl hold hsrc hW0 hW0g hW0o hW0s hG hdl hxs hxl hcl hsz hz0 hz1 hz2 hi0 h1 h1c hg hv hc hgw hvw
  go_enter Try.func72, Try.ntmps72
  go_wp2_with (first
    | (at_builtin; refine Lib.wpList_append_run _ rfl _ _ _ _ rfl _ _ rfl rfl _ _ (hrz _) ?_)
    | (at_builtin; refine wpList_copy_run _ rfl _ _ 40 40 rfl _ _ rfl rfl (hcpA _ rfl _ _) ?_))
  go_region_law (refine step_copy_run rfl _ _ 40 40 rfl _ _ (by simp [Act.eval, Act.put]) (by simp [Act.eval, Act.put]) (hcpB ((W0.setRow N R1).drew) rfl 3 (G - (i + 1)) (cap - i)) ?_)
  go_wp2
  go_ret
  exact ⟨G, R2, by subst hN; rfl, HG.out.1, HG.out.2.1, HG.out.2.2, HP.out, (HF.out ((W0.setRow N R1).drew.setRow N R2) rfl rfl rfl rfl).1, (HF.out ((W0.setRow N R1).drew.setRow N R2) rfl rfl rfl rfl).2⟩
/-- slices.Insert of one element. -/
theorem insB_calls (w : World) (q : Prop) (v : Value) (n i vb : Nat) (xs c : List Value) (h : SRow w 4 1 q v n xs) (hi : i ≤ n) (hv : w.heap[vb]? = some (.cells c.toArray 4 (0, 0))) (hne : v.ownBlock ≠ some vb) (hc : c.length = 1)
    (h1c : ∀ v ∈ c, v.oneCell' = true) (h1 : ∀ v ∈ xs, v.oneCell' = true) (hbytes : (n + 1) * 1 ≤ 140737488355328) :
    Calls Try.prog 72 #[v, .int .i64 i, .slice (some ⟨vb, 0, none⟩) 1 1] w fun e w' => ∃ v', e = .returned v' ∧ Ins w 4 1 q v (n + 1) (xs.take i ++ c ++ xs.drop i) v' w' := by
  have hlen : xs.length = n := by have := h.1; omega
  by_cases hin : i = n
  · subst hin
    have e := insB_end w q v i vb xs c h hv hc h1c hbytes
    rw [List.take_of_length_le (by omega), List.drop_of_length_le (by omega), List.append_nil]
    exact e
  · rcases (srow1.1 h).2 with ⟨rfl, rfl⟩ | ⟨g, cap, cur, rfl, hg, hn, hm, hs, hq, htk⟩
    · omega
    · have hvg : vb ≠ g := fun e => hne (by rw [e]; rfl)
      have hcl : cur.toList.length = cur.size := Array.length_toList
      have hlx : (xs.take i ++ c ++ xs.drop i).length = n + 1 := by
        rw [List.length_append, List.length_append, List.length_take, List.length_drop, hlen, hc]; omega
      by_cases hr : n + 1 ≤ cap
      · refine (insB_shift w g n cap i vb cur c hg hv hvg hc h1c (by rw [htk]; exact h1) (by omega) hr hm hs).mono ?_
        rintro e w' ⟨rfl, k, rfl⟩
        have hsz : (cur.toList.take i ++ c ++ (cur.toList.take n).drop i ++ cur.toList.drop (n + 1)).length = cur.size := by
          simp only [List.length_append, List.length_take, List.length_drop, hcl, hc]; omega
        refine ⟨_, rfl, ⟨srow1.2 ⟨hlx, .inr ⟨g, cap, _, rfl, setRow_heap (w.drewN k) g cur _ 4 _ hg, hr, hm, ?_, ?_, ?_⟩⟩, ⟨rfl, rfl, rfl, by simp, fun k' hk hk' => ?_⟩, .inl rfl, by simp [Value.ownBlock]⟩⟩
        · rw [List.size_toArray, hsz]; exact hs
        · intro hq'; rw [List.size_toArray, hsz]; exact hq hq'
        · have e1 : cur.toList.take i = xs.take i := by rw [← htk, List.take_take, Nat.min_eq_left (by omega)]
          rw [htk, e1]
          exact List.take_left' hlx
        · exact setRow_ne _ _ _ (fun e => hk' (by rw [e]; rfl))
      · refine (insB_grow w g n cap i vb cur xs c hg hv hc h1c h1 (by omega) hn (by omega) hbytes hs htk).mono ?_
        rintro e w' ⟨G, row, rfl, hG1, hG2, hR, hRt, hh, hgr⟩
        exact ⟨_, rfl, ⟨srow1.2 ⟨hlx, .inr ⟨w.heap.size, G, row, rfl, hh, hG1, hG2, Nat.le_of_eq hR.symm, fun _ => hR.symm, hRt⟩⟩, grownBy_none hgr, .inr ⟨_, rfl, Nat.le_refl _⟩, by simp [Value.ownBlock]⟩⟩
end Go.Proofs.Ytefnpalkkhhkfaa.PC
namespace Go.Proofs.Ytefnpalkkhhkfaa.PC
open Go.RowKit Go.Proofs.Ytefnpalkkhhkfaa.K
set_option linter.unusedVariables false
set_option linter.unusedSimpArgs false
theorem info97 : (Try.prog.info? 97).map (fun i => (i.zero, i.size, i.bytes)) = some (some (.pointer none), 1, 8) := by kernel_rfl
theorem ovP (w : World) (ga gb oa ob la ca lb cb : Nat) (hne : ga ≠ gb) {xa xb : Array Value} (ha : w.heap[ga]? = some (.cells xa 97 (0, 0))) (hb : w.heap[gb]? = some (.cells xb 97 (0, 0))) (hk : xb.size ≠ 0) :
    (callFunc 87 #[.slice (some ⟨ga, oa, none⟩) la ca, .slice (some ⟨gb, ob, none⟩) lb cb]).run Try.prog w = .ok (.value (.bool false)) w := by
  rw [run_callFunc_extern Try.func87 (by kernel_rfl) (by kernel_rfl) (by kernel_rfl) (e := Extern.SlicesOverlaps.overlaps #[77, 77] #[4]) (by kernel_rfl),
    run_overlaps2 w 77 4 97 Try.underlying77 1 (fun _ => by kernel_rfl) ga gb oa ob la ca lb cb hne ha hb hk]
  rfl
set_option maxHeartbeats 4000000 in
set_option maxRecDepth 100000 in
theorem insP_shift (w : World) (g n cap i vb : Nat) (cur : Array Value) (c : List Value) (hg : w.heap[g]? = some (.cells cur 97 (0, 0))) (hv : w.heap[vb]? = some (.cells c.toArray 97 (0, 0))) (hne : vb ≠ g) (hc : c.length = 1)
    (h1c : ∀ v ∈ c, v.oneCell' = true) (h1 : ∀ v ∈ cur.toList.take (n), v.oneCell' = true) (hi : i < n) (hroom : n + 1 ≤ cap) (hcap : cap ≤ maxLen) (hcur : cap ≤ cur.size) :
    Calls Try.prog 83 #[.slice (some ⟨g, 0, none⟩) n cap, .int .i64 i, .slice (some ⟨vb, 0, none⟩) 1 1] w fun e w' =>
      e = .returned (.slice (some ⟨g, 0, none⟩) (n + 1) cap) ∧ ∃ k, w' = (w.drewN k).setRow g (cur.toList.take (i) ++ c ++ (cur.toList.take (n)).drop (i) ++ cur.toList.drop ((n + 1))).toArray := by
  unfold maxLen at hcap
  have hov : ∀ oa ob la ca lb cb, (callFunc 87 #[.slice (some ⟨vb, oa, none⟩) la ca, .slice (some ⟨g, ob, none⟩) lb cb]).run Try.prog w = .ok (.value (.bool false)) w := fun oa ob la ca lb cb => ovP w vb g oa ob la ca lb cb hne hv hg (by omega)
  have hz2 : ¬ ((i : Int) = (n : Int)) := by omega
  have hw1 : IntKind.i64.wrap ((i : Int) + 1) = (i : Int) + 1 := by rw [IntKind.wrap_i64]; omega
  have hw2 : IntKind.i64.wrap ((n : Int) + 1) = (n : Int) + 1 := by rw [IntKind.wrap_i64]; omega
  have hb1 : (0 : Int) ≤ (i : Int) + 1 := by omega
  have hin : i ≤ n := by omega
  have hb2 : ¬ (cap = i + 1) := by omega
  have hb3 : (i : Int) ≤ (n : Int) + 1 := by omega
  have hb4 : ¬ (cap = i) := by omega
  have hsz : (Try.prog.info? 97).map (·.size) = some 1 := by kernel_rfl
  have hcl : cur.toList.length = cur.size := Array.length_toList
  obtain ⟨tl, htl⟩ : ∃ tl, (cur.toList.take (n)).drop (i) = tl := ⟨_, rfl⟩
  have htll : tl.length = (n - i) := by rw [← htl, List.length_drop, List.length_take, hcl]; omega
  obtain ⟨row1, hrow1⟩ : ∃ r, (cur.toList.take ((i + 1)) ++ tl ++ cur.toList.drop ((i + 1) + tl.length)).toArray = r := ⟨_, rfl⟩
  have hcp1 : ∀ ty dc sc, (Builtin.copy_ #[77, 77] ty #[.slice (some ⟨g, (i + 1), none⟩) (n - i) dc, .slice (some ⟨g, i, none⟩) (n + 1 - i) sc]).run Try.prog w.drew = .ok (goInt ((n - i : Nat) : Int)) (w.drew.setRow g row1) := fun ty dc sc => by
    rw [← hrow1]
    refine run_copy_rowK w.drew 77 77 ty 97 g ((i + 1)) (n - i) dc ⟨g, i, none⟩ (n + 1 - i) sc cur 97 tl 1 (n - i) Try.underlying77 hsz hg (by simp only [Nat.min_def]; split <;> omega) (by omega) (fun j v hj => ?_) (by rw [htll]; omega) (fun v hv => ?_)
    · rw [Addr.add_lit, cell_of (w := w.drew) hg]
      rw [← htl, List.getElem?_drop, List.getElem?_take] at hj
      split at hj
      · rw [← hj]; simp
      · cases hj
    · rw [← htl] at hv
      exact h1 v (List.mem_of_mem_drop hv)
  have hg1 : (w.drew.setRow g row1).heap[g]? = some (.cells row1 97 (0, 0)) := setRow_heap w.drew g cur _ 97 _ hg
  have hrl : row1.size = cur.size := by rw [← hrow1]; simp [htll]; omega
  obtain ⟨row2, hrow2⟩ : ∃ r, (row1.toList.take (i) ++ c ++ row1.toList.drop (i + c.length)).toArray = r := ⟨_, rfl⟩
  have hcp2 : ∀ (W : World), W = w.drew.setRow g row1 → ∀ ty dc, (Builtin.copy_ #[77, 77] ty #[.slice (some ⟨g, i, none⟩) (n + 1 - i) dc, .slice (some ⟨vb, 0, none⟩) 1 1]).run Try.prog W = .ok (goInt 1) (W.setRow g row2) := fun W hW ty dc => by
    subst hW
    rw [← hrow2]
    refine run_copy_rowK _ 77 77 ty 97 g (i) (n + 1 - i) dc ⟨vb, 0, none⟩ 1 1 row1 97 c 1 1 Try.underlying77 hsz hg1 (by simp only [Nat.min_def]; split <;> omega) (by omega) (fun j v hj => ?_) (by rw [hrl, hc]; omega) h1c
    have hv1 : (w.drew.setRow g row1).heap[vb]? = some (.cells c.toArray 97 (0, 0)) := by rw [setRow_ne _ _ _ hne]; exact hv
    rw [Addr.add_lit, cell_of hv1, Nat.zero_add]
    simpa using hj
  have hfin : row2 = (cur.toList.take (i) ++ c ++ (cur.toList.take (n)).drop (i) ++ cur.toList.drop ((n + 1))).toArray := by
    rw [← hrow2, ← hrow1, ← htl]
    have hpi := put_in cur.toList c 1 i n hc hin (by rw [hcl]; omega)
    simp only [Nat.mul_one] at hpi
    exact congrArg List.toArray hpi
  have HF := Lib.hid hfin
  clear hfin hrow1 hrow2 htll htl hcl hsz hg1 hrl h1 h1c
  go_enter Try.func83, Try.ntmps83
  go_wp2_with (simp only [hov])
  go_region_law (refine step_copy_run rfl _ _ 77 77 rfl _ _ (by simp [Act.eval, Act.put]) (by simp [Act.eval, Act.put]) (hcp1 _ _ _) ?_)
  go_wp2_with (at_builtin; refine wpList_copy_run _ rfl _ _ 77 77 rfl _ _ rfl rfl (hcp2 _ rfl _ _) ?_)
  go_ret
  exact ⟨rfl, 1, by rw [← HF.out, setRow_setRow]; rfl⟩
set_option maxHeartbeats 4000000 in
set_option maxRecDepth 100000 in
theorem insP_end (w : World) (q : Prop) (v : Value) (n vb : Nat) (xs c : List Value) (h : SRow w 97 1 q v n xs) (hv : w.heap[vb]? = some (.cells c.toArray 97 (0, 0))) (hc : c.length = 1)
    (h1c : ∀ v ∈ c, v.oneCell' = true) (hbytes : (n + 1) * 8 ≤ 140737488355328) :
    Calls Try.prog 83 #[v, .int .i64 n, .slice (some ⟨vb, 0, none⟩) 1 1] w fun e w' => ∃ v', e = .returned v' ∧ Ins w 97 1 q v (n + 1) (xs ++ c) v' w' := by
  obtain ⟨v', w', hr, hI⟩ := app_one (P := Try.prog) w 77 97 (.pointer none) 1 8 q v n xs c vb 1 Try.underlying77 info97 rfl (by decide) h hv hc h1c hbytes (by unfold maxLen; omega) 77
  have HI := Lib.hid hI
  obtain ⟨a, cap, rfl, hca⟩ : ∃ a cap, v = .slice a n cap ∧ n ≤ cap := by
    rcases h.2 with ⟨rfl, rfl⟩ | ⟨g, cap, cur, rfl, _, hn, _⟩
    · exact ⟨none, 0, rfl, Nat.le_refl _⟩
    · exact ⟨_, cap, rfl, hn⟩
  have hnn : n ≤ 140737488355328 := by omega
  clear hI h h1c hc hv
  by_cases hcn : cap = n
  · subst hcn
    go_enter Try.func83, Try.ntmps83
    go_wp2_with (at_builtin; refine Lib.wpList_append_run _ rfl _ _ 77 77 rfl _ _ rfl rfl _ _ hr ?_)
    go_ret
    exact ⟨v', rfl, HI.out⟩
  · go_enter Try.func83, Try.ntmps83
    go_wp2_with (at_builtin; refine Lib.wpList_append_run _ rfl _ _ 77 77 rfl _ _ rfl rfl _ _ hr ?_)
    go_ret
    exact ⟨v', rfl, HI.out⟩
set_option maxHeartbeats 4000000 in
set_option maxRecDepth 100000 in
theorem insP_grow (w : World) (g n cap i vb : Nat) (cur : Array Value) (xs c : List Value) (hg : w.heap[g]? = some (.cells cur 97 (0, 0))) (hv : w.heap[vb]? = some (.cells c.toArray 97 (0, 0))) (hc : c.length = 1)
    (h1c : ∀ v ∈ c, v.oneCell' = true) (h1 : ∀ v ∈ xs, v.oneCell' = true) (hi : i < n) (hn : n ≤ cap) (hroom : cap < n + 1) (hbytes : (n + 1) * 8 ≤ 140737488355328) (hcur : cap ≤ cur.size) (hxs : cur.toList.take (n) = xs) :
    Calls Try.prog 83 #[.slice (some ⟨g, 0, none⟩) n cap, .int .i64 i, .slice (some ⟨vb, 0, none⟩) 1 1] w fun e w' =>
      ∃ G row, e = .returned (.slice (some ⟨w.heap.size, 0, none⟩) (n + 1) G) ∧ n + 1 ≤ G ∧ G ≤ maxLen ∧ row.size = G ∧ row.toList.take ((n + 1)) = xs.take (i) ++ c ++ xs.drop (i) ∧
        w'.heap[w.heap.size]? = some (.cells row 97 (0, 0)) ∧ w.grownBy w' none := by
  obtain ⟨i0, hi0, hzz⟩ := Option.map_eq_some_iff.1 info97
  simp only [Prod.mk.injEq] at hzz
  obtain ⟨hz0, hz1, hz2⟩ := hzz
  have hsz : (Try.prog.info? 97).map (·.size) = some 1 := by kernel_rfl
  have hcl : cur.toList.length = cur.size := Array.length_toList
  have hxl : xs.length = n := by rw [← hxs, List.length_take]; omega
  have hgw := lt_of hg
  have hvw := lt_of hv
  have hsrc : ∀ (W : World), (∀ k, k < w.heap.size → W.heap[k]? = w.heap[k]?) → ∀ o j u, (xs.drop o)[j]? = some u → W.cell? ((⟨g, o, none⟩ : Addr).add j) = some u := fun W hW o j u hj => by
    rw [Addr.add_lit, cell_of ((hW g hgw).trans hg)]
    rw [List.getElem?_drop, ← hxs, List.getElem?_take] at hj
    split at hj
    · simpa using hj
    · cases hj
  have hold : (Builtin.firstCells i0.size i (.slice (some ⟨g, 0, none⟩) i cap)).run Try.prog w.drew = .ok (xs.take (i)).toArray w.drew := by
    rw [hz1]
    refine run_firstCells_some w.drew 1 i ⟨g, 0, none⟩ i cap (xs.take (i)) (by rw [List.length_take]; omega) (fun j v hj => ?_)
    rw [List.getElem?_take] at hj
    split at hj
    · exact hsrc w.drew (fun _ _ => rfl) 0 j v (by simpa using hj)
    · cases hj
  have hrz0 := fun ty => Lib.run_append_grow_zeros (P := Try.prog) w 77 3 ty 97 i0 (.pointer none) .i64 .i64 Try.underlying77 Try.underlying3 hi0 hz0 (some ⟨g, 0, none⟩) i cap (xs.take (i)) hold (n + 1 - i) (by omega) (by omega) (by omega) (by omega) (by rw [hz2]; omega)
    (by rw [hz2, show i + (n + 1 - i) = n + 1 by omega]; exact growslice_fits hroom hbytes)
  rw [show i + (n + 1 - i) = n + 1 by omega] at hrz0
  have hGn := grownCap_ge w (n + 1) cap 97
  have hGm := grownCap_le_maxLen w (n + 1) cap 97 (by unfold maxLen; omega)
  obtain ⟨G, hG⟩ : ∃ G, grownCap w (n + 1) cap 97 = G := ⟨_, rfl⟩
  rw [hG] at hrz0 hGn hGm
  obtain ⟨Z, hZ⟩ : ∃ Z : List Value, (Builtin.zeroCells (Value.pointer none).cells (n + 1 - i) ++ Builtin.zeroCells (Value.pointer none).cells (G - (n + 1))).toList = Z := ⟨_, rfl⟩
  have hZl : Z.length = (G - i) := by
    rw [← hZ, Array.length_toList, Array.size_append, size_zeroCells, size_zeroCells]
    have : (Value.pointer none).cells.size = 1 := by decide
    rw [this]; omega
  obtain ⟨R0, hR0⟩ : ∃ R : Array Value, (xs.take (i) ++ Z).toArray = R := ⟨_, rfl⟩
  have hrow0 : (xs.take (i)).toArray ++ Builtin.zeroCells (Value.pointer none).cells (n + 1 - i) ++ Builtin.zeroCells (Value.pointer none).cells (G - (n + 1)) = R0 := by
    rw [← hR0, ← hZ]
    apply Array.ext'
    simp [List.append_assoc]
  rw [hrow0] at hrz0
  obtain ⟨hp1, hp2, hp3⟩ := put_new xs c Z 1 i n (by omega) hc (by omega) (by rw [hZl]; omega)
  simp only [Nat.mul_one] at hp1 hp2 hp3
  have hR0t : R0.toList = xs.take (i) ++ Z := by rw [← hR0]
  rw [← hR0t] at hp1 hp2 hp3
  have hR0s : R0.size = G := by
    rw [← Array.length_toList, hR0t, List.length_append, List.length_take, hZl]; omega
  obtain ⟨R1, hR1⟩ : ∃ R : Array Value, (R0.toList.take (i) ++ c ++ R0.toList.drop (i + c.length)).toArray = R := ⟨_, rfl⟩
  have hR1t : R1.toList = R0.toList.take (i) ++ c ++ R0.toList.drop (i + c.length) := by rw [← hR1]
  rw [← hR1t] at hp1 hp2 hp3
  obtain ⟨R2, hR2⟩ : ∃ R : Array Value, (R1.toList.take ((i + 1)) ++ xs.drop (i) ++ R1.toList.drop ((i + 1) + (xs.drop (i)).length)).toArray = R := ⟨_, rfl⟩
  have hR2t : R2.toList = R1.toList.take ((i + 1)) ++ xs.drop (i) ++ R1.toList.drop ((i + 1) + (xs.drop (i)).length) := by rw [← hR2]
  rw [← hR2t] at hp1 hp3
  have hR1s : R1.size = G := by rw [← Array.length_toList, hp2, Array.length_toList]; exact hR0s
  have hR2s : R2.size = G := by rw [← Array.length_toList, hp1, Array.length_toList]; exact hR0s
  obtain ⟨N, hN⟩ : ∃ N, w.heap.size = N := ⟨_, rfl⟩
  obtain ⟨W0, hW0⟩ : ∃ W, w.drew.alloc (.cells R0 97) = W := ⟨_, rfl⟩
  have hW0g : W0.heap[N]? = some (.cells R0 97 (0, 0)) := by rw [← hW0, ← hN]; exact heap_alloc_new w.drew _
  have hW0o : ∀ k, k < w.heap.size → W0.heap[k]? = w.heap[k]? := fun k hk => by rw [← hW0]; exact heap_alloc_old w.drew _ hk
  have hdl : (xs.drop (i)).length = (n - i) := by rw [List.length_drop, hxl]
  have hcpA : ∀ (W : World), W.heap = W0.heap → ∀ ty dc, (Builtin.copy_ #[77, 77] ty #[.slice (some ⟨N, i, none⟩) (n + 1 - i) dc, .slice (some ⟨vb, 0, none⟩) 1 1]).run Try.prog W = .ok (goInt 1) (W.setRow N R1) := fun W hW ty dc => by
    rw [← hR1]
    refine run_copy_rowK W 77 77 ty 97 N (i) (n + 1 - i) dc ⟨vb, 0, none⟩ 1 1 R0 97 c 1 1 Try.underlying77 hsz (by rw [hW]; exact hW0g) (by simp only [Nat.min_def]; split <;> omega) (by omega) (fun j v hj => ?_) (by rw [hR0s, hc]; omega) h1c
    rw [Addr.add_lit, cell_of (e := 97) (fz := (0, 0)) (by rw [hW]; exact (hW0o vb hvw).trans hv), Nat.zero_add]
    simpa using hj
  have hcpB : ∀ (W : World), W.heap = (W0.setRow N R1).heap → ∀ ty dc sc, (Builtin.copy_ #[77, 77] ty #[.slice (some ⟨N, (i + 1), none⟩) (n - i) dc, .slice (some ⟨g, i, none⟩) (n - i) sc]).run Try.prog W = .ok (goInt ((n - i : Nat) : Int)) (W.setRow N R2) := fun W hW ty dc sc => by
    rw [← hR2]
    refine run_copy_rowK W 77 77 ty 97 N ((i + 1)) (n - i) dc ⟨g, i, none⟩ (n - i) sc R1 97 (xs.drop (i)) 1 (n - i) Try.underlying77 hsz (by rw [hW]; exact setRow_heap W0 N R0 R1 97 _ hW0g) (by simp only [Nat.min_def]; split <;> omega) (by omega) (fun j v hj => ?_) (by rw [hR1s, hdl]; omega)
      (fun v hv => h1 v (List.mem_of_mem_drop hv))
    exact hsrc W (fun k hk => by rw [hW, setRow_ne _ _ _ (by omega)]; exact hW0o k hk) (i) j v hj
  have hW0s : W0.heap.size = N + 1 := by rw [← hW0, ← hN]; simp
  have hW0e : W0.os = w.os ∧ W0.tape = w.tape ∧ W0.output = w.output := by rw [← hW0]; exact ⟨rfl, rfl, rfl⟩
  have hfr : ∀ W : World, W.os = W0.os → W.tape = W0.tape → W.output = W0.output → W.heap = ((W0.setRow N R1).setRow N R2).heap → W.heap[w.heap.size]? = some (.cells R2 97 (0, 0)) ∧ w.grownBy W none := fun W a1 a2 a3 a4 => by
    refine ⟨by rw [hN, a4]; exact setRow_heap _ N R1 R2 97 _ (setRow_heap W0 N R0 R1 97 _ hW0g), a1.trans hW0e.1, a2.trans hW0e.2.1, a3.trans hW0e.2.2, by rw [a4]; simp [hW0s]; omega, fun k hk _ => ?_⟩
    rw [a4, setRow_ne _ _ _ (by omega), setRow_ne _ _ _ (by omega)]
    exact hW0o k hk
  have HF := Lib.hid hfr
  have HP := Lib.hid hp3
  have HG := Lib.hid (show n + 1 ≤ G ∧ G ≤ maxLen ∧ R2.size = G from ⟨hGn, hGm, hR2s⟩)
  have hG63 : G ≤ 9223372036854775807 := by unfold maxLen at hGm; omega
  have hrz : ∀ ty, (Builtin.append_ #[77, 3] ty #[.slice (some ⟨g, 0, none⟩) i cap, .int .i64 ((n : Int) + 1 - (i : Int))]).run Try.prog w = .ok (.slice (some ⟨N, 0, none⟩) (n + 1) G) W0 := fun ty => by
    rw [show (n : Int) + 1 - (i : Int) = ((n + 1 - i : Nat) : Int) by omega, ← hN, ← hW0]
    exact hrz0 ty
  have hz2 : ¬ ((i : Int) = (n : Int)) := by omega
  have hw1 : IntKind.i64.wrap ((i : Int) + 1) = (i : Int) + 1 := by rw [IntKind.wrap_i64]; omega
  have hw2 : IntKind.i64.wrap ((n : Int) + 1) = (n : Int) + 1 := by rw [IntKind.wrap_i64]; omega
  have hb1 : (0 : Int) ≤ (i : Int) + 1 := by omega
  have hin : i ≤ n := by omega
  have hb3 : (i : Int) ≤ (n : Int) := by omega
  have hGi : ¬ (G = i) := by omega
  have hGim : ¬ (G = i + 1) := by omega
  have hci : ¬ (cap = i) := by omega
  have hr3 : (cap : Int) < (n : Int) + 1 := by omega
  clear hfr hW0e hp1 hp2 hp3 hGm hR1t hR2t hR0t hR1 hR2 hR0 hR0s hR1s hR2s hrow0 hrz0 hZ hZl hold hsrc hW0 hW0g hW0o hW0s hG hdl hxs hxl hcl hsz hz0 hz1 hz2 hi0 h1 h1c hg hv hc hgw hvw
  go_enter Try.func83, Try.ntmps83
  go_wp2_with (first
    | (at_builtin; refine Lib.wpList_append_run _ rfl _ _ _ _ rfl _ _ rfl rfl _ _ (hrz _) ?_)
    | (at_builtin; refine wpList_copy_run _ rfl _ _ 77 77 rfl _ _ rfl rfl (hcpA _ rfl _ _) ?_))
  go_region_law (refine step_copy_run rfl _ _ 77 77 rfl _ _ (by simp [Act.eval, Act.put]) (by simp [Act.eval, Act.put]) (hcpB ((W0.setRow N R1).drew) rfl 3 (G - (i + 1)) (cap - i)) ?_)
  go_wp2
  go_ret
  exact ⟨G, R2, by subst hN; rfl, HG.out.1, HG.out.2.1, HG.out.2.2, HP.out, (HF.out ((W0.setRow N R1).drew.setRow N R2) rfl rfl rfl rfl).1, (HF.out ((W0.setRow N R1).drew.setRow N R2) rfl rfl rfl rfl).2⟩
/-- slices.Insert of one element. -/
theorem insP_calls (w : World) (q : Prop) (v : Value) (n i vb : Nat) (xs c : List Value) (h : SRow w 97 1 q v n xs) (hi : i ≤ n) (hv : w.heap[vb]? = some (.cells c.toArray 97 (0, 0))) (hne : v.ownBlock ≠ some vb) (hc : c.length = 1)
    (h1c : ∀ v ∈ c, v.oneCell' = true) (h1 : ∀ v ∈ xs, v.oneCell' = true) (hbytes : (n + 1) * 8 ≤ 140737488355328) :
    Calls Try.prog 83 #[v, .int .i64 i, .slice (some ⟨vb, 0, none⟩) 1 1] w fun e w' => ∃ v', e = .returned v' ∧ Ins w 97 1 q v (n + 1) (xs.take i ++ c ++ xs.drop i) v' w' := by
  have hlen : xs.length = n := by have := h.1; omega
  by_cases hin : i = n
  · subst hin
    have e := insP_end w q v i vb xs c h hv hc h1c hbytes
    rw [List.take_of_length_le (by omega), List.drop_of_length_le (by omega), List.append_nil]
    exact e
  · rcases (srow1.1 h).2 with ⟨rfl, rfl⟩ | ⟨g, cap, cur, rfl, hg, hn, hm, hs, hq, htk⟩
    · omega
    · have hvg : vb ≠ g := fun e => hne (by rw [e]; rfl)
      have hcl : cur.toList.length = cur.size := Array.length_toList
      have hlx : (xs.take i ++ c ++ xs.drop i).length = n + 1 := by
        rw [List.length_append, List.length_append, List.length_take, List.length_drop, hlen, hc]; omega
      by_cases hr : n + 1 ≤ cap
      · refine (insP_shift w g n cap i vb cur c hg hv hvg hc h1c (by rw [htk]; exact h1) (by omega) hr hm hs).mono ?_
        rintro e w' ⟨rfl, k, rfl⟩
        have hsz : (cur.toList.take i ++ c ++ (cur.toList.take n).drop i ++ cur.toList.drop (n + 1)).length = cur.size := by
          simp only [List.length_append, List.length_take, List.length_drop, hcl, hc]; omega
        refine ⟨_, rfl, ⟨srow1.2 ⟨hlx, .inr ⟨g, cap, _, rfl, setRow_heap (w.drewN k) g cur _ 97 _ hg, hr, hm, ?_, ?_, ?_⟩⟩, ⟨rfl, rfl, rfl, by simp, fun k' hk hk' => ?_⟩, .inl rfl, by simp [Value.ownBlock]⟩⟩
        · rw [List.size_toArray, hsz]; exact hs
        · intro hq'; rw [List.size_toArray, hsz]; exact hq hq'
        · have e1 : cur.toList.take i = xs.take i := by rw [← htk, List.take_take, Nat.min_eq_left (by omega)]
          rw [htk, e1]
          exact List.take_left' hlx
        · exact setRow_ne _ _ _ (fun e => hk' (by rw [e]; rfl))
      · refine (insP_grow w g n cap i vb cur xs c hg hv hc h1c h1 (by omega) hn (by omega) hbytes hs htk).mono ?_
        rintro e w' ⟨G, row, rfl, hG1, hG2, hR, hRt, hh, hgr⟩
        exact ⟨_, rfl, ⟨srow1.2 ⟨hlx, .inr ⟨w.heap.size, G, row, rfl, hh, hG1, hG2, Nat.le_of_eq hR.symm, fun _ => hR.symm, hRt⟩⟩, grownBy_none hgr, .inr ⟨_, rfl, Nat.le_refl _⟩, by simp [Value.ownBlock]⟩⟩
end Go.Proofs.Ytefnpalkkhhkfaa.PC
namespace Go.Proofs.Ytefnpalkkhhkfaa.PC
open Go.RowKit Go.Proofs.YtefnpalkkhhkfaaW.PrintWords Go.Proofs.YtefnpalkkhhkfaaW.PrintLast Go.Proofs.YtefnpalkkhhkfaaW.PrintMore Go.Proofs.Ytefnpalkkhhkfaa.K Go.Proofs.Ytefnpalkkhhkfaa.IX
attribute [local go_sem] max2_int min2_int max_two min_two max_three min_three max_four min_four
set_option linter.unusedVariables false
set_option linter.unusedSimpArgs false
/-- A block of marks in memory. -/
def BlkR (w : World) (x : Blk) : Prop :=
  w.heap[x.b]? = some (.cells #[x.v, .int .i64 (cn x.ms : Int)] 99 (0, 0)) ∧ SRow w 4 1 False x.v x.ms.length (x.ms.map Value.bool)
def ptrV (x : Blk) : Value := .pointer (some ⟨x.b, 0, none⟩)
def fpB (L : List Blk) : List Nat := L.flatMap fun x => x.b :: ob x.v
/-- An index in memory: its own block, its row of blocks. -/
structure IxR (w : World) (p : Nat) (lv : Value) (L : List Blk) : Prop where
  head : w.heap[p]? = some (.cells #[.int .i64 ((marks L).length : Int), .int .i64 (cn (marks L) : Int), lv] 79 (0, 0))
  row : SRow w 97 1 False lv L.length (L.map ptrV)
  blk : ∀ x ∈ L, BlkR w x
  nd : (fpB L).Nodup
  ne : L ≠ []
def fpI (p : Nat) (lv : Value) (L : List Blk) : List Nat := p :: (ob lv ++ fpB L)
/-- An index in memory, of these marks; the blocks that it takes. -/
def Ix (w : World) (F : List Nat) (p : Nat) (ms : List Bool) : Prop := ∃ lv L, IxR w p lv L ∧ marks L = ms ∧ F = fpI p lv L ∧ L.length ≤ ms.length + 1
theorem mem_fpB {L : List Blk} {k : Nat} : k ∈ fpB L ↔ ∃ x ∈ L, k = x.b ∨ k ∈ ob x.v := by
  unfold fpB
  rw [List.mem_flatMap]
  simp only [List.mem_cons]
theorem IxR.keep {w w' : World} {p : Nat} {lv : Value} {L : List Blk} (h : IxR w p lv L) (hk : ∀ k ∈ fpI p lv L, w'.heap[k]? = w.heap[k]?) : IxR w' p lv L := by
  refine ⟨(hk p (by simp [fpI])).trans h.head, h.row.keep fun g hg => hk g (by simp [fpI, hg]), fun x hx => ?_, h.nd, h.ne⟩
  have hb := h.blk x hx
  exact ⟨(hk x.b (by simp only [fpI, List.mem_cons, List.mem_append, mem_fpB]; exact .inr (.inr ⟨x, hx, .inl rfl⟩))).trans hb.1,
    hb.2.keep fun g hg => hk g (by simp only [fpI, List.mem_cons, List.mem_append, mem_fpB]; exact .inr (.inr ⟨x, hx, .inr hg⟩))⟩
theorem IxR.lt {w : World} {p : Nat} {lv : Value} {L : List Blk} (h : IxR w p lv L) : ∀ k ∈ fpI p lv L, k < w.heap.size := by
  intro k hk
  simp only [fpI, List.mem_cons, List.mem_append, mem_fpB] at hk
  rcases hk with rfl | hk | ⟨x, hx, rfl | hk⟩
  · exact lt_of h.head
  · exact (h.row.ob_lt k hk).1
  · exact lt_of (h.blk x hx).1
  · exact ((h.blk x hx).2.ob_lt k hk).1
theorem Ix.keep {w w' : World} {F : List Nat} {p : Nat} {ms : List Bool} (h : Ix w F p ms) (hk : ∀ k ∈ F, w'.heap[k]? = w.heap[k]?) : Ix w' F p ms := by
  obtain ⟨lv, L, h1, h2, rfl, h4⟩ := h
  exact ⟨lv, L, h1.keep hk, h2, rfl, h4⟩
theorem Ix.lt {w : World} {F : List Nat} {p : Nat} {ms : List Bool} (h : Ix w F p ms) : ∀ k ∈ F, k < w.heap.size := by
  obtain ⟨lv, L, h1, h2, rfl, h4⟩ := h
  exact h1.lt
theorem Ix.fr {w w' : World} {F G : List Nat} {p : Nat} {ms : List Bool} (h : Ix w F p ms) (hf : Fr G w w') (hd : ∀ k ∈ F, k ∉ G) : Ix w' F p ms := h.keep fun k hk => hf.block k (h.lt k hk) (hd k hk)
theorem Ix.below {w w' : World} {F : List Nat} {p : Nat} {ms : List Bool} (h : Ix w F p ms) (hb : Below w.heap.size w w') : Ix w' F p ms := h.keep fun k hk => hb.block k (h.lt k hk)
/-- What the walk reads of an index' head, and of a block. -/
theorem IxR.head_cells {w : World} {p : Nat} {lv : Value} {L : List Blk} (h : IxR w p lv L) : ∃ g cap, lv = .slice (some ⟨g, 0, none⟩) L.length cap ∧ L.length ≤ cap ∧
    w.cell? ⟨p, 0, none⟩ = some (.int .i64 ((marks L).length : Int)) ∧ w.cell? ⟨p, 1, none⟩ = some (.int .i64 (cn (marks L) : Int)) ∧ w.cell? ⟨p, 2, none⟩ = some (.slice (some ⟨g, 0, none⟩) L.length cap) ∧
    ∀ i x, L[i]? = some x → w.cell? ⟨g, i, none⟩ = some (.pointer (some ⟨x.b, 0, none⟩)) := by
  obtain ⟨x, hx⟩ : ∃ x, L[0]? = some x := by
    have := h.ne
    cases L with
    | nil => exact absurd rfl this
    | cons x L => exact ⟨x, rfl⟩
  obtain ⟨g, cap, e, hc, _⟩ := h.row.cell1 (i := 0) (u := ptrV x) (by simp [hx])
  refine ⟨g, cap, e, hc, by rw [cell_of h.head]; rfl, by rw [cell_of h.head]; rfl, by rw [cell_of h.head, e]; rfl, fun i y hy => ?_⟩
  obtain ⟨g', cap', e', _, hcell⟩ := h.row.cell1 (i := i) (u := ptrV y) (by simp [hy])
  rw [e] at e'
  injection e' with e1 e2 e3
  injection e1 with e1
  injection e1 with e1
  subst e1
  exact hcell
theorem BlkR.cells {w : World} {x : Blk} (h : BlkR w x) : ∃ A cap, x.v = .slice A x.ms.length cap ∧ x.ms.length ≤ cap ∧ w.cell? ⟨x.b, 0, none⟩ = some (.slice A x.ms.length cap) ∧ w.cell? ⟨x.b, 1, none⟩ = some (.int .i64 (cn x.ms : Int)) := by
  obtain ⟨A, cap, e, hc, _⟩ := h.2.form
  exact ⟨A, cap, e, hc, by rw [cell_of h.1, e]; rfl, by rw [cell_of h.1]; rfl⟩
theorem BlkR.mark {w : World} {x : Blk} (h : BlkR w x) {i : Nat} {u : Bool} (hu : x.ms[i]? = some u) : ∃ g cap, x.v = .slice (some ⟨g, 0, none⟩) x.ms.length cap ∧ x.ms.length ≤ cap ∧ w.cell? ⟨x.b, 0, none⟩ = some (.slice (some ⟨g, 0, none⟩) x.ms.length cap) ∧
    w.cell? ⟨x.b, 1, none⟩ = some (.int .i64 (cn x.ms : Int)) ∧ w.cell? ⟨g, i, none⟩ = some (.bool u) := by
  obtain ⟨g, cap, e, hc, hcell⟩ := h.2.cell1 (i := i) (u := .bool u) (by simp [hu])
  exact ⟨g, cap, e, hc, by rw [cell_of h.1, e]; rfl, by rw [cell_of h.1]; rfl, hcell⟩
/-- What find tells. -/
def FindPost (w : World) (L : List Blk) (at_ : Nat) (en : Bool) (e : Ending) (w' : World) : Prop :=
  ∃ pre x post k, L = pre ++ x :: post ∧ at_ = (marks pre).length + k ∧ (k < x.ms.length ∨ (en = true ∧ k = x.ms.length)) ∧ e = .returned (.tuple #[.int .i64 (pre.length : Int), .int .i64 (k : Int), .int .i64 (cn (marks pre) : Int)]) ∧ ∃ n, w' = w.drewN n
set_option maxHeartbeats 4000000 in
set_option maxRecDepth 100000 in
theorem find_calls (w : World) (p : Nat) (lv : Value) (L : List Blk) (at_ : Nat) (en : Bool) (h : IxR w p lv L) (hs : (marks L).length ≤ 1000000) (hL : L.length ≤ 1000001) (hat : at_ < (marks L).length ∨ (en = true ∧ at_ = (marks L).length)) :
    Calls Try.prog 59 #[.pointer (some ⟨p, 0, none⟩), .int .i64 (at_ : Int), .bool en] w (FindPost w L at_ en) := by
  obtain ⟨g, cap, rfl, hcap, h0, h1, h2, hrow⟩ := h.head_cells
  have HR := Lib.hid h
  have HROW := Lib.hid hrow
  have HAT := Lib.hid hat
  have HS := Lib.hid hs
  clear h hrow hat h0 h1
  have hat2 : at_ ≤ 1000000 := by have := HAT.out; have := HS.out; omega
  clear hs
  go_enter Try.func59, Try.ntmps59
  go_wp2
  go_loopw [1, 9, 17] (fun v1 v9 v17 w' => ∃ (i a s n : Nat), v1 = .int .i64 (a : Int) ∧ v9 = .int .i64 (s : Int) ∧ v17 = .int .i64 (i : Int) ∧ i ≤ L.length ∧ a ≤ 1000000 ∧ s ≤ 1000000 ∧ Aside0 (at_ = (marks (L.take i)).length + a ∧ s = cn (marks (L.take i)) ∧ (en = true → 0 < i → 0 < a)) ∧ Aside0 (w' = w.drewN n)) (fun _ _ v17 _ => L.length - (intOf v17).toNat)
  case atStart => exact ⟨0, at_, 0, 0, rfl, rfl, rfl, by omega, by omega, by omega, ⟨by simp [marks], by simp [marks, cn], fun _ h => by omega⟩, ⟨rfl⟩⟩
  case round =>
    obtain ⟨i, a, s, n, rfl, rfl, rfl, hi, ha, hsb, HI, HW⟩ := hrel
    obtain rfl := HW.out
    by_cases hlt : i < L.length
    · have hx : L[i]? = some L[i] := List.getElem?_eq_getElem hlt
      have hptr := HROW.out i _ hx
      have hb := HR.out.blk L[i] (List.getElem_mem hlt)
      obtain ⟨A, c, hv, hc, hc0, hc1⟩ := hb.cells
      have hsp := split_at L i hlt
      have hmt := marks_take_succ L i hlt
      have hlen := marks_len_take L (i + 1)
      have hcn := cn_le (marks (L.take (i + 1)))
      have hi1 := HS.out
      rw [hmt, List.length_append] at hlen
      rw [hmt, cn_app] at hcn
      obtain ⟨x, hxe⟩ : ∃ x, L[i] = x := ⟨_, rfl⟩
      rw [hxe] at hptr hb hv hc hc0 hc1 hsp hmt hlen hcn
      have hms : x.ms.length ≤ 1000000 := by omega
      have hcx := cn_le x.ms
      have hcx2 : s + cn x.ms ≤ 1000000 := by
        have e2 := HI.out.2.1
        have := cn_le (marks (L.take i))
        omega
      have HSP := Lib.hid hsp
      have HMT := Lib.hid hmt
      have HX := Lib.hid hxe
      have HCC := Lib.hid (And.intro hc (And.intro hb hx))
      clear hx hb hv hsp hmt hlen hcn hi1 hxe hcap
      obtain ⟨ln, hln⟩ : ∃ ln, x.ms.length = ln := ⟨_, rfl⟩
      obtain ⟨cx, hcxe⟩ : ∃ cx, cn x.ms = cx := ⟨_, rfl⟩
      rw [hln] at hc hc0 hms hcx
      rw [hcxe] at hc1 hcx hcx2
      have HLN := Lib.hid hln
      have HCX := Lib.hid hcxe
      clear hln hcxe hc
      have fin : (a < ln ∨ (en = true ∧ a = ln)) → FindPost w L at_ en (.returned (.tuple #[.int .i64 (i : Int), .int .i64 (a : Int), .int .i64 (s : Int)])) (w.drewN n) := by
        intro hk
        have hl : (L.take i).length = i := by rw [List.length_take]; omega
        exact ⟨L.take i, x, L.drop (i + 1), a, HSP.out, HI.out.1, by rw [HLN.out]; exact hk, by rw [hl, HI.out.2.1], n, rfl⟩
      have HFIN := Lib.hid fin
      clear fin
      by_cases hk : a < ln
      · go_wp2
        go_ret3
        exact HFIN.out (.inl hk)
      · cases en with
        | true =>
          by_cases hk2 : a = ln
          · subst hk2
            go_wp2
            go_ret3
            exact HFIN.out (.inr (by simp))
          · have hk3 : ((a : Int) == (ln : Int)) = false := by simp; omega
            have hw1 : IntKind.i64.wrap ((a : Int) - (ln : Int)) = (a : Int) - (ln : Int) := by rw [IntKind.wrap_i64]; omega
            have hw2 : IntKind.i64.wrap ((s : Int) + (cx : Int)) = (s : Int) + (cx : Int) := by rw [IntKind.wrap_i64]; omega
            go_wp2
            go_quiet (fail)
            go_wp2
            go_roundw
            case rel => exact ⟨i + 1, a - ln, s + cx, n + nq, by rw [show ((a - ln : Nat) : Int) = (a : Int) - (ln : Int) by omega], by go_num, by go_num, by omega, by omega, by omega, ⟨by rw [HMT.out, List.length_append, HLN.out]; have := HI.out.1; omega, by rw [HMT.out, cn_app, HCX.out, ← HI.out.2.1], fun _ _ => by omega⟩, ⟨by simp⟩⟩
            case measure => simp [intOf]; omega
        | false =>
          have hk3 : ln ≤ a := by omega
          have hw1 : IntKind.i64.wrap ((a : Int) - (ln : Int)) = (a : Int) - (ln : Int) := by rw [IntKind.wrap_i64]; omega
          have hw2 : IntKind.i64.wrap ((s : Int) + (cx : Int)) = (s : Int) + (cx : Int) := by rw [IntKind.wrap_i64]; omega
          go_wp2
          go_quiet (fail)
          go_wp2
          go_roundw
          case rel => exact ⟨i + 1, a - ln, s + cx, n + nq, by rw [show ((a - ln : Nat) : Int) = (a : Int) - (ln : Int) by omega], by go_num, by go_num, by omega, by omega, by omega, ⟨by rw [HMT.out, List.length_append, HLN.out]; have := HI.out.1; omega, by rw [HMT.out, cn_app, HCX.out, ← HI.out.2.1], fun h => by cases h⟩, ⟨by simp⟩⟩
          case measure => simp [intOf]; omega
    · exfalso
      obtain rfl : i = L.length := by omega
      have h1 := HI.out.1
      rw [List.take_length] at h1
      rcases HAT.out with h | ⟨h, h2⟩
      · omega
      · have hne := HR.out.ne
        have : 0 < L.length := List.length_pos_iff.2 hne
        have := HI.out.2.2 h this
        omega
end Go.Proofs.Ytefnpalkkhhkfaa.PC
namespace Go.Proofs.Ytefnpalkkhhkfaa.PC
open Go.RowKit Go.Proofs.YtefnpalkkhhkfaaW.PrintWords Go.Proofs.YtefnpalkkhhkfaaW.PrintLast Go.Proofs.YtefnpalkkhhkfaaW.PrintMore Go.Proofs.Ytefnpalkkhhkfaa.K Go.Proofs.Ytefnpalkkhhkfaa.IX
attribute [local go_sem] max2_int min2_int max_two min_two max_three min_three max_four min_four
set_option linter.unusedVariables false
set_option linter.unusedSimpArgs false
def oneI (b : Bool) : Int := if b = true then 1 else 0
theorem oneI_b (b : Bool) : 0 ≤ oneI b ∧ oneI b ≤ 1 := by unfold oneI; split <;> omega
theorem one_calls (b : Bool) (w : World) : Calls Try.prog 50 #[.bool b] w fun e w' => e = .returned (.int .i64 (oneI b)) ∧ w = w' := by
  cases b
  · go_enter Try.func50, Try.ntmps50
    go_wp2
    go_ret
    exact ⟨rfl, rfl⟩
  · go_enter Try.func50, Try.ntmps50
    go_wp2
    go_ret
    exact ⟨rfl, rfl⟩
def rankS (ms : List Bool) (a : Int) : Int := cn (ms.take a.toNat)
def selS (ms : List Bool) (k : Int) : Int × Bool := if 0 ≤ k then (match sel ms k.toNat with | some i => ((i : Int), true) | none => (0, false)) else (0, false)
theorem count_calls (w : World) (F : List Nat) (p : Nat) (ms : List Bool) (h : Ix w F p ms) : Calls Try.prog 34 #[.pointer (some ⟨p, 0, none⟩)] w fun e w' => e = .returned (.int .i64 (cn ms : Int)) ∧ w = w' := by
  obtain ⟨lv, L, hR, rfl, _, _⟩ := h
  obtain ⟨g, cap, _, hcap, h0, h1, h2, hrow⟩ := hR.head_cells
  clear hrow hR
  go_enter Try.func34, Try.ntmps34
  go_wp2
  go_ret
  exact ⟨rfl, rfl⟩
/-- The block that find tells, with what the walk reads there. -/
theorem found {w : World} {p : Nat} {lv : Value} {L pre post : List Blk} {x : Blk} (h : IxR w p lv L) (hL : L = pre ++ x :: post) : L[pre.length]? = some x ∧ BlkR w x := by
  constructor
  · rw [hL]; simp
  · exact h.blk x (by rw [hL]; simp)
theorem getD_found (pre post : List Blk) (x : Blk) (k : Nat) (h : k < x.ms.length) : (marks (pre ++ x :: post))[(marks pre).length + k]? = x.ms[k]? := by
  rw [marks_app, marks_cons, List.getElem?_append_right (by omega), Nat.add_sub_cancel_left, List.getElem?_append_left h]
theorem take_found (pre post : List Blk) (x : Blk) (k : Nat) (h : k ≤ x.ms.length) : (marks (pre ++ x :: post)).take ((marks pre).length + k) = marks pre ++ x.ms.take k := by
  rw [marks_app, marks_cons, List.take_append, List.take_of_length_le (by omega), Nat.add_sub_cancel_left, List.take_append_of_le_length h]
theorem cn_take_end (ms : List Bool) (a : Int) (h : (ms.length : Int) ≤ a) : rankS ms a = cn ms := by
  unfold rankS
  rw [List.take_of_length_le (by omega)]
set_option maxHeartbeats 4000000 in
set_option maxRecDepth 100000 in
theorem rank_calls (w : World) (F : List Nat) (p : Nat) (ms : List Bool) (a : Int) (h : Ix w F p ms) (hs : ms.length ≤ 1000000) : Calls Try.prog 48 #[.pointer (some ⟨p, 0, none⟩), .int .i64 a] w fun e w' => e = .returned (.int .i64 (rankS ms a)) ∧ ∃ n, w' = w.drewN n := by
  obtain ⟨lv, L, hR, rfl, _, hLn⟩ := h
  obtain ⟨g, cap, _, hcap, h0, h1, h2, hrow⟩ := hR.head_cells
  by_cases hend : ((marks L).length : Int) ≤ a ∨ (marks L).length = 0
  · have hv : rankS (marks L) a = (cn (marks L) : Int) := by
      rcases hend with h | h
      · exact cn_take_end _ _ h
      · have : marks L = [] := List.eq_nil_of_length_eq_zero h
        rw [this]; simp [rankS, cn]
    rw [hv]
    clear hrow hR hv hLn
    generalize cn (marks L) = c at *
    generalize (marks L).length = tot at *
    by_cases h3 : a < 0
    · have h4 : tot = 0 := by omega
      subst h4
      clear hend
      go_enter Try.func48, Try.ntmps48
      go_wp2
      go_ret
      exact ⟨rfl, 0, rfl⟩
    · have h4 : (tot : Int) ≤ a := by omega
      clear hend
      by_cases h5 : a = tot
      · subst h5
        go_enter Try.func48, Try.ntmps48
        go_wp2
        go_ret
        exact ⟨rfl, 0, rfl⟩
      · have h6 : (tot : Int) < a := by omega
        go_enter Try.func48, Try.ntmps48
        go_wp2
        go_ret
        exact ⟨rfl, 0, rfl⟩
  · obtain ⟨n, hn, hlt⟩ : ∃ n : Nat, (n : Int) = max a 0 ∧ n < (marks L).length := ⟨(max a 0).toNat, by omega, by omega⟩
    have hv : rankS (marks L) a = (cn ((marks L).take n) : Int) := by
      unfold rankS
      rw [show a.toNat = n by omega]
    rw [hv]
    have hf := find_calls w p lv L n false hR hs (by omega) (.inl (by omega))
    have HROW := Lib.hid hrow
    have HR := Lib.hid hR
    have HF := Lib.hid hf
    have hm1 : (if a < 0 then 0 else a) = (n : Int) := by split <;> omega
    have hm2 : (if 0 < a then a else 0) = (n : Int) := by split <;> omega
    obtain ⟨tot, htot⟩ : ∃ t, (marks L).length = t := ⟨_, rfl⟩
    have hm3 : (if (n : Int) < tot then (n : Int) else tot) = n := by split <;> omega
    have hm4 : (if (tot : Int) < n then (tot : Int) else n) = n := by split <;> omega
    rw [htot] at h0 hlt
    have HT := Lib.hid htot
    obtain ⟨LL, hLL⟩ : ∃ t, L.length = t := ⟨_, rfl⟩
    rw [hLL] at h2 hcap
    have HLL := Lib.hid hLL
    have hlt2 : n ≤ 1000000 := by omega
    have HN := Lib.hid hn
    clear hrow hR hf htot hLL hLn hv hend hn
    go_enter Try.func48, Try.ntmps48
    go_wp2_with (go_at_call 59; refine HF.out.mono ?_; rintro e w' ⟨pre, x, post, k, hL, hat, hk, rfl, nd, rfl⟩; obtain ⟨hx, hb⟩ := found HR.out hL; replace hk : k < x.ms.length := hk.elim id (fun h => by cases h.1); obtain ⟨g2, c2, hxv, hc2, hc0, hc1, hm⟩ := hb.mark (List.getElem?_eq_getElem hk); have hptr := HROW.out _ _ hx; have hplt : pre.length < LL := (by rw [← HLL.out, hL]; simp); have hv : cn ((marks L).take n) = cn (marks pre) + cn (x.ms.take k) := (by rw [hat, hL, take_found _ _ _ _ (Nat.le_of_lt hk), cn_app]); have hkc : k ≤ c2 := (by omega); have hk6 : k ≤ 1000000 := (by omega); have hcb := cn_le (marks pre); have hcb2 : (marks pre).length ≤ 1000000 := (by omega); have HV := Lib.hid hv; have HB := Lib.hid (And.intro hb (And.intro hxv hk)); clear hL hat hx hb hv hm hxv; obtain ⟨cp, hcp⟩ : ∃ c, cn (marks pre) = c := ⟨_, rfl⟩; rw [hcp] at hcb; have HCP := Lib.hid hcp; have hcb3 : cp ≤ 1000000 := (by omega); clear hcp hcb hcb2; generalize pre.length = i at *)
    go_loopw [7, 50] (fun v7 v50 w' => ∃ (j s m : Nat), v7 = .int .i64 (s : Int) ∧ v50 = .int .i64 (j : Int) ∧ j ≤ k ∧ s ≤ 2000000 ∧ Aside0 (s = cp + cn (x.ms.take j)) ∧ Aside0 (w' = w.drewN m)) (fun _ v50 _ => k - (intOf v50).toNat)
    case atStart => exact ⟨0, cp, nd, by rw [HCP.out], rfl, by omega, by omega, ⟨by simp [cn]⟩, ⟨rfl⟩⟩
    case round =>
      obtain ⟨j, s, m, rfl, rfl, hj, hsb, HI, HW⟩ := hrel
      obtain rfl := HW.out
      by_cases hlt : j < k
      · have hjl : j < x.ms.length := by have := HB.out.2.2; omega
        obtain ⟨g3, c3, e3, _, _, _, hm⟩ := HB.out.1.mark (List.getElem?_eq_getElem hjl)
        obtain rfl : g2 = g3 := by
          have e := HB.out.2.1.symm.trans e3
          injection e with e1 _ _
          injection e1 with e1
          injection e1 with e1
        have hct := cn_take_succ x.ms j hjl
        have hcl := cn_le (x.ms.take (j + 1))
        rw [List.length_take] at hcl
        obtain ⟨u, hu⟩ : ∃ u, x.ms[j] = u := ⟨_, rfl⟩
        rw [hu] at hm hct
        have hob := oneI_b u
        have hoe : oneI u = ((if u = true then 1 else 0 : Nat) : Int) := by unfold oneI; split <;> rfl
        have hsm : s + cn (x.ms.take (j + 1)) ≤ 2000000 + s := by omega
        have hs2 : cp + cn (x.ms.take (j + 1)) ≤ 2000000 := by omega
        have HCT := Lib.hid hct
        have HS2 := Lib.hid hs2
        have HOE := Lib.hid hoe
        clear hct hcl hu hsm hs2 hoe e3
        have hw2 : IntKind.i64.wrap ((s : Int) + oneI u) = (s : Int) + oneI u := by rw [IntKind.wrap_i64]; omega
        go_wp2_with (go_at_call 50; refine (one_calls u _).mono ?_; rintro e w' ⟨rfl, rfl⟩)
        go_roundw
        case rel => exact ⟨j + 1, cp + cn (x.ms.take (j + 1)), m, by rw [HCT.out, HI.out]; have := HOE.out; congr 1; rw [this]; push_cast; omega, by go_num, by omega, HS2.out, ⟨rfl⟩, ⟨rfl⟩⟩
        case measure => simp [intOf]; omega
      · obtain rfl : j = k := by omega
        go_wp2
        go_ret
        exact ⟨by rw [HV.out, HCP.out, HI.out]; rfl, m, rfl⟩
theorem sel_drop (ms : List Bool) (j k : Nat) (h : j < ms.length) : sel (ms.drop j) k = if ms[j] = true ∧ k = 0 then some 0 else (sel (ms.drop (j + 1)) (if ms[j] = true then k - 1 else k)).map (· + 1) := by
  rw [List.drop_eq_getElem_cons h]
  cases hm : ms[j]
  · simp [sel]
  · cases k with
    | zero => simp [sel]
    | succ k => simp [sel]
theorem cn_drop (ms : List Bool) (j : Nat) (h : j < ms.length) : cn (ms.drop j) = (if ms[j] = true then 1 else 0) + cn (ms.drop (j + 1)) := by
  rw [List.drop_eq_getElem_cons h, cn_cons]
def SelPost (ms : List Bool) (k : Nat) (w : World) (e : Ending) (w' : World) : Prop := ∃ i, sel ms k = some i ∧ e = .returned (.tuple #[.int .i64 (i : Int), .bool true]) ∧ ∃ n, w' = w.drewN n
theorem marks_drop (L : List Blk) (i : Nat) (h : i < L.length) : marks (L.drop i) = L[i].ms ++ marks (L.drop (i + 1)) := by
  rw [List.drop_eq_getElem_cons h, marks_cons]
set_option maxHeartbeats 4000000 in
set_option maxRecDepth 100000 in
theorem sel_walk (w : World) (p : Nat) (lv : Value) (L : List Blk) (K : Nat) (hR : IxR w p lv L) (hs : (marks L).length ≤ 1000000) (hLn : L.length ≤ 1000001) (hK : K < cn (marks L)) :
    Calls Try.prog 35 #[.pointer (some ⟨p, 0, none⟩), .int .i64 (K : Int)] w (SelPost (marks L) K w) := by
  obtain ⟨g, cap, _, hcap, h0, h1, h2, hrow⟩ := hR.head_cells
  have hcl := cn_le (marks L)
  have HROW := Lib.hid hrow
  have HR := Lib.hid hR
  obtain ⟨tot, htot⟩ : ∃ t, cn (marks L) = t := ⟨_, rfl⟩
  rw [htot] at h1 hK hcl
  have hK2 : K ≤ 1000000 := by omega
  have HT := Lib.hid htot
  have HS := Lib.hid hs
  clear hrow hR htot h0 hs hcl
  have hd1 : decide ((K : Int) < 0) = false := by simp
  have hd2 : decide (tot ≤ K) = false := by simpa using hK
  go_enter Try.func35, Try.ntmps35
  go_wp2
  go_loopw [1, 6, 27] (fun v1 v6 v27 w' => ∃ (i k a n : Nat), v1 = .int .i64 (k : Int) ∧ v6 = .int .i64 (a : Int) ∧ v27 = .int .i64 (i : Int) ∧ i ≤ L.length ∧ k ≤ 1000000 ∧ a ≤ 1000000 ∧ Aside0 (a = (marks (L.take i)).length ∧ k < cn (marks (L.drop i)) ∧ sel (marks L) K = (sel (marks (L.drop i)) k).map (· + a)) ∧ Aside0 (w' = w.drewN n)) (fun _ _ v27 _ => L.length - (intOf v27).toNat)
  case atStart => exact ⟨0, K, 0, 0, rfl, rfl, rfl, by omega, by omega, by omega, ⟨by simp [marks], by rw [List.drop_zero, HT.out]; exact hK, by rw [List.drop_zero]; simp⟩, ⟨rfl⟩⟩
  case round =>
    obtain ⟨i, k, a, n, rfl, rfl, rfl, hi, hk6, ha6, HI, HW⟩ := hrel
    obtain rfl := HW.out
    by_cases hlt : i < L.length
    · have hx : L[i]? = some L[i] := List.getElem?_eq_getElem hlt
      have hptr := HROW.out i _ hx
      have hb := HR.out.blk L[i] (List.getElem_mem hlt)
      obtain ⟨A, c, hv, hc, hc0, hc1⟩ := hb.cells
      have hmd := marks_drop L i hlt
      have hmt := marks_take_succ L i hlt
      have hlen := marks_len_take L (i + 1)
      have hsl := HS.out
      rw [hmt, List.length_append] at hlen
      obtain ⟨x, hxe⟩ : ∃ x, L[i] = x := ⟨_, rfl⟩
      rw [hxe] at hptr hb hv hc hc0 hc1 hmd hmt hlen
      obtain ⟨hI1, hI2, hI3⟩ := HI.out
      rw [hmd, cn_app] at hI2
      rw [hmd, sel_app] at hI3
      have hxl : a + x.ms.length ≤ 1000000 := by omega
      obtain ⟨cx, hcx⟩ : ∃ c, cn x.ms = c := ⟨_, rfl⟩
      obtain ⟨ln, hln⟩ : ∃ ln, x.ms.length = ln := ⟨_, rfl⟩
      have hcl := cn_le x.ms
      rw [hcx] at hI2 hI3 hc1 hcl
      rw [hln] at hI3 hc0 hc hxl hcl
      have hm : ∀ j u, x.ms[j]? = some u → ∃ g2, A = some ⟨g2, 0, none⟩ ∧ w.cell? ⟨g2, j, none⟩ = some (.bool u) := by
        intro j u hu
        obtain ⟨g2, c2, e2, _, _, _, hcell⟩ := hb.mark hu
        rw [hv] at e2
        injection e2 with e2 _ _
        exact ⟨g2, e2, hcell⟩
      have HM := Lib.hid hm
      have HLN := Lib.hid hln
      have HCX := Lib.hid hcx
      have HMT := Lib.hid hmt
      have HI1 := Lib.hid hI1
      have HI2 := Lib.hid hI2
      clear hx hb hv hmd hmt hlen hsl hm hln hcx hI1 HI hI2
      by_cases hkc : cx ≤ k
      · rw [if_neg (by omega)] at hI3
        have HI3 := Lib.hid hI3
        clear hI3
        have hw1 : IntKind.i64.wrap ((k : Int) - (cx : Int)) = (k : Int) - (cx : Int) := by rw [IntKind.wrap_i64]; omega
        have hw2 : IntKind.i64.wrap ((a : Int) + (ln : Int)) = (a : Int) + (ln : Int) := by rw [IntKind.wrap_i64]; omega
        go_wp2
        go_quiet (fail)
        go_wp2
        go_roundw
        case rel => exact ⟨i + 1, k - cx, a + ln, n + nq, by rw [show ((k - cx : Nat) : Int) = (k : Int) - (cx : Int) by omega], by go_num, by go_num, by omega, by omega, by omega, ⟨by rw [HMT.out, List.length_append, HLN.out, ← HI1.out], by have := HI2.out; omega, by rw [HI3.out, Option.map_map]; congr 1; funext z; simp; omega⟩, ⟨by simp⟩⟩
        case measure => simp [intOf]; omega
      · rw [if_pos (by omega)] at hI3
        have HI3 := Lib.hid hI3
        have HI2' := Lib.hid (show k < cn x.ms by rw [HCX.out]; omega)
        clear hI3
        go_wp2
        go_loopw [1, 55] (fun v1 v55 w' => ∃ (j k2 : Nat), v1 = .int .i64 (k2 : Int) ∧ v55 = .int .i64 (j : Int) ∧ j ≤ ln ∧ k2 ≤ 1000000 ∧ Aside0 (k2 < cn (x.ms.drop j) ∧ sel x.ms k = (sel (x.ms.drop j) k2).map (· + j)) ∧ Aside0 (w' = w.drewN n)) (fun _ v55 _ => ln - (intOf v55).toNat)
        case atStart => exact ⟨0, k, rfl, rfl, by omega, by omega, ⟨by rw [List.drop_zero]; exact HI2'.out, by rw [List.drop_zero]; simp⟩, ⟨rfl⟩⟩
        case round =>
          obtain ⟨j, k2, rfl, rfl, hj, hk26, HJ, HW2⟩ := hrel
          obtain rfl := HW2.out
          by_cases hlt2 : j < ln
          · have hjl : j < x.ms.length := by rw [HLN.out]; exact hlt2
            obtain ⟨g2, rfl, hm⟩ := HM.out j _ (List.getElem?_eq_getElem hjl)
            obtain ⟨hJ1, hJ2⟩ := HJ.out
            rw [cn_drop x.ms j hjl] at hJ1
            rw [sel_drop x.ms j k2 hjl] at hJ2
            obtain ⟨u, hu⟩ : ∃ u, x.ms[j] = u := ⟨_, rfl⟩
            rw [hu] at hm hJ1 hJ2
            clear hu HJ hjl
            cases u with
            | true =>
              by_cases hk0 : k2 = 0
              · subst hk0
                have hv : sel (marks L) K = some (a + j) := by
                  rw [HI3.out, hJ2]; simp; omega
                have HV := Lib.hid hv
                have hw2 : IntKind.i64.wrap ((a : Int) + (j : Int)) = (a : Int) + (j : Int) := by rw [IntKind.wrap_i64]; omega
                clear hJ1 hJ2 hv
                go_wp2
                go_ret2
                exact ⟨a + j, HV.out, by push_cast; rfl, n, rfl⟩
              · have hk1 : ((k2 : Int) == 0) = false := by simp; omega
                simp only [true_and, if_neg hk0, if_true] at hJ1 hJ2
                have HJ1 := Lib.hid hJ1
                have HJ2 := Lib.hid hJ2
                clear hJ1 hJ2
                have hw2 : IntKind.i64.wrap ((k2 : Int) - oneI true) = (k2 : Int) - 1 := by rw [IntKind.wrap_i64]; unfold oneI; simp; omega
                go_wp2_with (go_at_call 50; refine (one_calls true _).mono ?_; rintro e w' ⟨rfl, rfl⟩)
                go_roundw
                case rel => exact ⟨j + 1, k2 - 1, by rw [show ((k2 - 1 : Nat) : Int) = (k2 : Int) - 1 by omega], by go_num, by omega, by omega, ⟨by have := HJ1.out; omega, by rw [HJ2.out, Option.map_map]; congr 1; funext z; simp; omega⟩, ⟨by trivial⟩⟩
                case measure => simp [intOf]; omega
            | false =>
              simp only [Bool.false_eq_true, false_and, if_false, Nat.zero_add] at hJ1 hJ2
              have HJ1 := Lib.hid hJ1
              have HJ2 := Lib.hid hJ2
              clear hJ1 hJ2
              have hw2 : IntKind.i64.wrap ((k2 : Int) - oneI false) = (k2 : Int) := by rw [IntKind.wrap_i64]; unfold oneI; simp; omega
              go_wp2_with (go_at_call 50; refine (one_calls false _).mono ?_; rintro e w' ⟨rfl, rfl⟩)
              go_roundw
              case rel => exact ⟨j + 1, k2, rfl, by go_num, by omega, by omega, ⟨HJ1.out, by rw [HJ2.out, Option.map_map]; congr 1; funext z; simp; omega⟩, ⟨by trivial⟩⟩
              case measure => simp [intOf]; omega
          · exfalso
            have h3 := HJ.out.1
            rw [List.drop_of_length_le (by rw [HLN.out]; omega)] at h3
            simp [cn] at h3
    · exfalso
      have h3 := HI.out.2.1
      rw [List.drop_of_length_le (by omega)] at h3
      simp [cn, marks] at h3
theorem select_calls (w : World) (F : List Nat) (p : Nat) (ms : List Bool) (a : Int) (h : Ix w F p ms) (hs : ms.length ≤ 1000000) : Calls Try.prog 35 #[.pointer (some ⟨p, 0, none⟩), .int .i64 a] w fun e w' => e = .returned (.tuple #[.int .i64 (selS ms a).1, .bool (selS ms a).2]) ∧ ∃ n, w' = w.drewN n := by
  obtain ⟨lv, L, hR, rfl, _, hLn⟩ := h
  by_cases hin : 0 ≤ a ∧ a < (cn (marks L) : Int)
  · obtain ⟨n, rfl⟩ : ∃ n : Nat, a = n := ⟨a.toNat, by omega⟩
    refine (sel_walk w p lv L n hR hs (by omega) (by omega)).mono ?_
    rintro e w' ⟨i, h1, rfl, h2⟩
    refine ⟨?_, h2⟩
    unfold selS
    rw [if_pos (by omega), Int.toNat_natCast, h1]
  · have hv : selS (marks L) a = (0, false) := by
      unfold selS
      by_cases h3 : 0 ≤ a
      · rw [if_pos h3, sel_none _ _ (by omega)]
      · rw [if_neg h3]
    rw [hv]
    obtain ⟨g, cap, _, hcap, h0, h1, h2, hrow⟩ := hR.head_cells
    clear hrow hR hv hLn hs
    generalize cn (marks L) = tot at *
    by_cases h3 : a < 0
    · clear hin
      go_enter Try.func35, Try.ntmps35
      go_wp2
      go_ret2
      exact ⟨rfl, 0, rfl⟩
    · have h4 : (tot : Int) ≤ a := by omega
      clear hin
      go_enter Try.func35, Try.ntmps35
      go_wp2
      go_ret2
      exact ⟨rfl, 0, rfl⟩
end Go.Proofs.Ytefnpalkkhhkfaa.PC
