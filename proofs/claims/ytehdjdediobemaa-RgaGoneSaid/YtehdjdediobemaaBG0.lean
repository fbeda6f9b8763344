/- A part of the proof of rgaGone_holds: its texts, one behind the other, as far as the proof stands on them. (Lines of its texts on the printed words and functions began as lines that a program of the kit had written for this statement.) -/
import Derived.ArgAppend
import Derived.Below
import Derived.BigQuiet
import Derived.BigRegion
import Derived.ChangeMaps4
import Derived.ChangeMaps5
import Derived.Deep.AppendLies
import Derived.Deep.CutBlock
import Derived.Deep.CutRange
import Derived.Deep.DeepCutAuto
import Derived.Deep.DrawnRows
import Derived.Deep.Draws
import Derived.Deep.LoopGhost
import Derived.Deep.OwnRows
import Derived.Deep.QuietTactic
import Derived.Deep.RegionHeld3
import Derived.Deep.RegionLaw
import Derived.Deep.RegionWith
import Derived.KernelRfl
import Derived.Laws.BitsLemmas
import Derived.Laws.BytesArg
import Derived.Laws.CopyRow
import Derived.Laws.Cover4
import Derived.Laws.Externs
import Derived.Laws.IdiomCopy
import Derived.Laws.MakeOwn
import Derived.Laws.NewBlocks
import Derived.Laws.OwnMore
import Derived.Laws.Rows
import Derived.Laws.Slices
import Derived.Laws.StructEq
import Derived.Lib.AppendStr
import Derived.Lib.AppendZeros
import Derived.Lib.AppendZerosOnto
import Derived.Lib.ConvBytes
import Derived.Lib.Hide
import Derived.Lib.JoinLaws
import Derived.Lib.Overlaps
import Derived.Lib.Walk
import Derived.MapKept
import Derived.Maps.AppendAt
import Derived.OrdersHeld
import Derived.OwnWalk
import Derived.RegionTactic
import Derived.RowKit
import Derived.RowKit3
import Derived.StillTail
import Derived.StillTailTactics
import Derived.Tactics
import Derived.Test.YtehdjdediobemaaProg
import Derived.WalkKit
import Derived.WalkSpells
import Derived.WideLaws
import Derived.Test.YtehdjdediobemaaBK0
namespace Go.Proofs.Ytehdjdediobemaa.PC
open Go.RowKit Go.Proofs.YtehdjdediobemaaW.PrintWords Go.Proofs.Ytehdjdediobemaa.K Go.Proofs.Ytehdjdediobemaa.IX Go.Proofs.Ytehdjdediobemaa.I
set_option linter.unusedVariables false
set_option linter.unusedSimpArgs false
def ascX : List S75 → Prop
  | [] => True
  | [_] => True
  | a :: b :: l => a.f0.f0 < b.f0.f0 ∧ ascX (b :: l)
/-- The text: others, what the one has typed, others. m bounds all counters. -/
structure TypesI (T : TS) (n : Nat) (m : Int) (ref : S31) (P A Q : List S75) : Prop where
  inv : ∃ F, Inv T F
  l : T.l = P ++ A ++ Q
  p : ∀ e ∈ P, e.f0.f1 = 65536
  q : ∀ e ∈ Q, e.f0.f1 = 65536
  a : ∀ e ∈ A, e.f0.f1 = 0
  asc : ascX A
  ref : (A = [] ∧ ref = ⟨0, 0⟩) ∨ ∃ A' e, A = A' ++ [e] ∧ e.f0 = ref
  alive : ∀ e ∈ T.l, e.f2 = true
  low : ∀ e ∈ T.l, e.f0.f0 ≤ m
  seq : I.sq (ens T.v) 0 = n
  last : T.last 0 ≤ m ∧ T.last 65536 ≤ m
  cnt : A.length = n
  seqb : 0 ≤ I.sq (ens T.v) 65536 ∧ I.sq (ens T.v) 65536 ≤ m
theorem TypesI.mono {T : TS} {n : Nat} {m m' : Int} {ref : S31} {P A Q : List S75} (h : TypesI T n m ref P A Q) (hm : m ≤ m') : TypesI T n m' ref P A Q :=
  ⟨h.inv, h.l, h.p, h.q, h.a, h.asc, h.ref, h.alive, fun e he => Int.le_trans (h.low e he) hm, h.seq, ⟨Int.le_trans h.last.1 hm, Int.le_trans h.last.2 hm⟩, h.cnt, ⟨h.seqb.1, Int.le_trans h.seqb.2 hm⟩⟩
end Go.Proofs.Ytehdjdediobemaa.PC
namespace Go.Proofs.Ytehdjdediobemaa.PC
open Go.RowKit Go.Proofs.YtehdjdediobemaaW.PrintWords Go.Proofs.YtehdjdediobemaaW.PrintLast Go.Proofs.YtehdjdediobemaaW.PrintMore Go.Proofs.Ytehdjdediobemaa.K Go.Proofs.Ytehdjdediobemaa.IX Go.Proofs.Ytehdjdediobemaa.I
set_option linter.unusedVariables false
set_option linter.unusedSimpArgs false
theorem vis_nm {w0 w : World} {p n : Nat} {T : TS} {B : As} {a : List Int} (b : Asn B) (h : St w0 w (sep (isTx p T) B)) (hl : T.l.length ≤ 100000) (ha : visS T.l = a) (hn : a.length = n) : Calls Try.prog 17 #[.pointer (some ⟨p, 0, none⟩)] w fun e w' => ∃ A c, e = .returned (.slice A n c) ∧ Below w.heap.size w w' ∧ St w0 w' (sep (isRow (Kd.int .i32) 21 (.slice A n c) a) (sep (isTx p T) B)) := by
  obtain ⟨F, ⟨FA, FB, h1, h2, rfl, hd⟩, hb, hn2⟩ := id h
  refine (vis_calls w FA p T h1 (by omega)).mono ?_
  rintro e w' ⟨v, rfl, hr, hb2⟩
  rw [ha] at hr
  obtain ⟨A, c, rfl⟩ := Kd.R_slice hr
  rw [hn] at hr ⊢
  exact ⟨A, c, rfl, hb2, St.row rfl h (asn_sep (asn_tx p T) b) hb2 hr⟩
theorem same01_nm {w0 w1 w0' w2 W : World} {B B' : As} {A A' : Option Addr} {n c c' : Nat} {xs : List Int} (h1 : St w0 w1 (sep (isRow (Kd.int .i32) 21 (.slice A n c) xs) B)) (b1 : Below w1.heap.size w1 W) (h2 : St w0' w2 (sep (isRow (Kd.int .i32) 21 (.slice A' n c') xs) B')) (b2 : Below w2.heap.size w2 W) (hl : n ≤ 100000) : Calls Try.prog 16 #[.slice A n c, .slice A' n c'] W fun e w' => e = .returned (.bool true) ∧ Below W.heap.size W w' := by
  obtain ⟨e1, k1, r1⟩ := h1.later b1
  obtain ⟨e2, k2, r2⟩ := h2.later b2
  have := same01_is r1 (c := c) (by omega) r2 (d := c') (by omega) (by omega)
  rw [e1] at this
  refine this.mono ?_
  rintro e w' ⟨he, m, rfl⟩
  exact ⟨he, pw_below_drewN (Below.refl _ _) m⟩
/-- One cell of a block, written anew. -/
theorem St.set1 {w0 w : World} {b t : Nat} {cur : Array Value} {B : As} (hB : Asn B) (i : Nat) (u : Value) (h : St w0 w (sep (isBlk b (.cells cur t (0, 0))) B)) : St w0 (w.setCell ⟨b, i, none⟩ u) (sep (isBlk b (.cells (cur.setIfInBounds i u) t (0, 0))) B) := by
  obtain ⟨F, ⟨FA, FB, ⟨h1, rfl⟩, h2, rfl, hd⟩, hb, hn⟩ := h
  refine St.upd (A := isBlk b (.cells cur t (0, 0))) (F' := [b]) hB (fun k m => hn k (List.mem_append_left _ m)) h2 hd hb (fun k m => hn k (by simp [m])) (Fr.of_set (F := [b]) w ⟨b, i, none⟩ u (by simp)) ⟨?_, rfl⟩ (fun k hk => .inl hk)
  exact heap_set w b i u h1
def opC (o : S34) : Obj := .cells #[.int .i64 o.f0.f0, .int .i64 o.f0.f1, .int .i64 o.f1, .bool o.f2, .int .i64 o.f3.f0, .int .i64 o.f3.f1, .int .i32 o.f4] 34 (0, 0)
theorem St.op_cells {w0 w : World} {b : Nat} {o : S34} {B : As} (h : St w0 w (sep (isBlk b (opC o)) B)) : w.cell? ⟨b, 0, none⟩ = some (.int .i64 o.f0.f0) ∧ w.cell? ⟨b, 1, none⟩ = some (.int .i64 o.f0.f1) ∧ w.cell? ⟨b, 2, none⟩ = some (.int .i64 o.f1) ∧ w.cell? ⟨b, 3, none⟩ = some (.bool o.f2) ∧ w.cell? ⟨b, 4, none⟩ = some (.int .i64 o.f3.f0) ∧ w.cell? ⟨b, 5, none⟩ = some (.int .i64 o.f3.f1) ∧ w.cell? ⟨b, 6, none⟩ = some (.int .i32 o.f4) := by
  have hb := h.blk
  exact ⟨(cell_of hb 0).trans rfl, (cell_of hb 1).trans rfl, (cell_of hb 2).trans rfl, (cell_of hb 3).trans rfl, (cell_of hb 4).trans rfl, (cell_of hb 5).trans rfl, (cell_of hb 6).trans rfl⟩
/-- The operations of a row of the call's own, cell by cell. -/
theorem St.op_row {w0 w : World} {A : Option Addr} {n c : Nat} {L : List S34} {B : As} (h : St w0 w (sep (isRow k34 34 (.slice A n c) L) B)) (i : Nat) (hi : i < L.length) : ∃ ad, A = some ad ∧ w.cell? (ad.add (i * 7)) = some (.int .i64 L[i].f0.f0) ∧ w.cell? ⟨(ad.add (i * 7)).block, (ad.add (i * 7)).off + 1, none⟩ = some (.int .i64 L[i].f0.f1) ∧ w.cell? ⟨(ad.add (i * 7)).block, (ad.add (i * 7)).off + 2, none⟩ = some (.int .i64 L[i].f1) ∧ w.cell? ⟨(ad.add (i * 7)).block, (ad.add (i * 7)).off + 3, none⟩ = some (.bool L[i].f2) ∧ w.cell? ⟨(ad.add (i * 7)).block, (ad.add (i * 7)).off + 4, none⟩ = some (.int .i64 L[i].f3.f0) ∧ w.cell? ⟨(ad.add (i * 7)).block, (ad.add (i * 7)).off + 5, none⟩ = some (.int .i64 L[i].f3.f1) ∧ w.cell? ⟨(ad.add (i * 7)).block, (ad.add (i * 7)).off + 6, none⟩ = some (.int .i32 L[i].f4) := by
  obtain ⟨e1, k1, r1⟩ := h.later (Below.refl _ _)
  exact cell_op r1 (Below.refl _ w) i hi
theorem bits16 (x : Int) : 0 ≤ Go.bits .and .i64 x 65535 ∧ Go.bits .and .i64 x 65535 ≤ 65535 := by
  have hb : (65535 : Nat) % 2 ^ IntKind.i64.bits = 65535 := by decide
  have h1 : (BitVec.ofInt IntKind.i64.bits x).toNat &&& 65535 ≤ 65535 := Nat.and_le_right
  have e : Go.bits .and .i64 x 65535 = (((BitVec.ofInt IntKind.i64.bits x).toNat &&& 65535 : Nat) : Int) := by
    rw [show (65535 : Int) = ((65535 : Nat) : Int) from rfl]
    simp only [Go.bits, BitVec.ofInt_natCast, BitVec.toNat_and, BitVec.toNat_ofNat, hb]
    rw [IntKind.wrap_i64]
    omega
  rw [e]
  omega
theorem lits_row {α : Type} {d : Kd α} {fl : α → List Value} (hf : Flat d fl) (e : Nat) (W : World) (xs : List α) (hn : 0 < xs.length) (hm : xs.length ≤ 1000) : d.R e (W.alloc (.cells (xs.flatMap fl).toArray e)) W.heap.size (fun _ => True) (.slice (some ⟨W.heap.size, 0, none⟩) xs.length xs.length) xs := by
  have h := World.ownsRow_lit (base := W.heap.size) (e := e) (size := d.sz) W (xs.flatMap fl).toArray xs.length (Nat.le_refl _) (by unfold maxLen; omega) (by simp [flat_len hf.len])
  have h2 : (W.alloc (.cells (xs.flatMap fl).toArray e)).ownsRow W.heap.size e d.sz (.slice (some ⟨W.heap.size, 0, none⟩) xs.length xs.length) xs.length (xs.flatMap fl) := by simpa using h
  exact hf.R h2
theorem lits_st {α : Type} {d : Kd α} {fl : α → List Value} (hf : Flat d fl) (e : Nat) {w0 W : World} {B : As} (b : Asn B) (h : St w0 W B) (xs : List α) (hn : 0 < xs.length) (hm : xs.length ≤ 1000) : St w0 (W.alloc (.cells (xs.flatMap fl).toArray e)) (sep (isRow d e (.slice (some ⟨W.heap.size, 0, none⟩) xs.length xs.length) xs) B) :=
  St.row hf.E h b ((Below.refl _ W).alloc (Nat.le_refl _) _) (lits_row hf e W xs hn hm)
def SI (B C : As) : Prop := ∀ w F, B w F → ∃ F', C w F' ∧ ∀ k, k ∈ F' ↔ k ∈ F
theorem SI.trans {A B C : As} (h : SI A B) (k : SI B C) : SI A C := fun w F x => by
  obtain ⟨F1, y, e1⟩ := h w F x
  obtain ⟨F2, z, e2⟩ := k w F1 y
  exact ⟨F2, z, fun j => (e2 j).trans (e1 j)⟩
theorem SI.turn (A B C : As) : SI (sep A (sep B C)) (sep B (sep A C)) := fun w F ⟨FA, _, h1, ⟨FB, FC, h2, h3, rfl, hd⟩, e, hd2⟩ => by
  refine ⟨FB ++ (FA ++ FC), ⟨FB, FA ++ FC, h2, ⟨FA, FC, h1, h3, rfl, fun k m m2 => hd2 k m (by simp [m2])⟩, rfl, fun k m m2 => ?_⟩, fun k => ?_⟩
  · rcases List.mem_append.1 m2 with q | q
    · exact hd2 k q (by simp [m])
    · exact hd k m q
  · rw [e]
    simp only [List.mem_append]
    constructor
    · rintro (q | q | q) <;> simp [q]
    · rintro (q | q | q) <;> simp [q]
theorem SI.in1 {A B C : As} (h : SI B C) : SI (sep A B) (sep A C) := fun w F ⟨FA, FB, h1, h2, e, hd⟩ => by
  obtain ⟨F2, k1, k2⟩ := h w FB h2
  exact ⟨FA ++ F2, ⟨FA, F2, h1, k1, rfl, fun k m m2 => hd k m ((k2 k).1 m2)⟩, fun k => by rw [e, List.mem_append, List.mem_append, k2 k]⟩
theorem SI.drop (A B : As) : ∀ w0 w, St w0 w (sep A B) → St w0 w B := fun w0 w h => h.snd
theorem St.si {w0 w : World} {A B : As} (h : St w0 w A) (s : SI A B) : St w0 w B := by
  obtain ⟨F, h1, h2, h3⟩ := h
  obtain ⟨F', k1, k2⟩ := s w F h1
  exact ⟨F', k1, h2, fun k hk => h3 k ((k2 k).1 hk)⟩
/-- The third, the fourth, .. comes first. -/
theorem St.third {w0 w : World} {A B C D : As} (h : St w0 w (sep A (sep B (sep C D)))) : St w0 w (sep C (sep A (sep B D))) := h.si ((SI.in1 (SI.turn _ _ _)).trans (SI.turn _ _ _))
theorem St.fourth {w0 w : World} {A B C D E : As} (h : St w0 w (sep A (sep B (sep C (sep D E))))) : St w0 w (sep D (sep A (sep B (sep C E)))) := h.si ((SI.in1 ((SI.in1 (SI.turn _ _ _)).trans (SI.turn _ _ _))).trans (SI.turn _ _ _))
theorem St.fifth {w0 w : World} {A B C D E X : As} (h : St w0 w (sep A (sep B (sep C (sep D (sep E X)))))) : St w0 w (sep E (sep A (sep B (sep C (sep D X))))) := h.si ((SI.in1 ((SI.in1 ((SI.in1 (SI.turn _ _ _)).trans (SI.turn _ _ _))).trans (SI.turn _ _ _))).trans (SI.turn _ _ _))
/-- The first comes third, fourth, .. -/
theorem St.to3 {w0 w : World} {A B C D : As} (h : St w0 w (sep A (sep B (sep C D)))) : St w0 w (sep B (sep C (sep A D))) := h.si ((SI.turn _ _ _).trans (SI.in1 (SI.turn _ _ _)))
theorem St.to4 {w0 w : World} {A B C D E : As} (h : St w0 w (sep A (sep B (sep C (sep D E))))) : St w0 w (sep B (sep C (sep D (sep A E)))) := h.si ((SI.turn _ _ _).trans (SI.in1 ((SI.turn _ _ _).trans (SI.in1 (SI.turn _ _ _)))))
end Go.Proofs.Ytehdjdediobemaa.PC
namespace Go.Proofs.Ytehdjdediobemaa.PC
open Go.RowKit Go.Proofs.YtehdjdediobemaaW.PrintWords Go.Proofs.Ytehdjdediobemaa.K Go.Proofs.Ytehdjdediobemaa.IX Go.Proofs.Ytehdjdediobemaa.I
set_option linter.unusedVariables false
set_option linter.unusedSimpArgs false
def gOne (t : Int) (x : S31) (a : Int) : S34 := ⟨⟨t + 1, a⟩, 1, false, x, 0⟩
def gMore (t : Int) (x : S31) (c : Int) : S34 := ⟨⟨t + 1, 4194301⟩, 1, true, x, c⟩
theorem known_zero {L : List S34} {a : Int} (hn : ∀ x ∈ L, x.f0.f1 ≠ a) : knownR L a = (0, 0) := by
  induction L using snoc_ind with
  | h0 => rfl
  | h1 L x ih =>
    rw [knownR_snoc, knStep_other (hn x (by simp)), ih (fun y hy => hn y (by simp [hy]))]
theorem topR_le (L : List S34) : ∀ x ∈ L, x.f0.f0 ≤ topR L := by
  induction L using snoc_ind with
  | h0 => intro x h; cases h
  | h1 L x ih =>
    intro y hy
    rw [topR_snoc]
    rcases List.mem_append.1 hy with h | h
    · have := ih y h; omega
    · obtain rfl : y = x := by simpa using h
      omega
theorem take_ok {T : TS} {F : Fo} (h : Inv T F) {o : S34} (hr : rightS o) (hs : o.f1 = 1) (ha : ∀ y ∈ T.ops, y.f0.f1 ≠ o.f0.f1) (hx : o.f3 ∈ T.l.map (·.f0)) : refS T o = none := by
  have hk := known_zero ha
  have h1 : knownS T o = 0 := by unfold knownS; rw [h.sq, hk]
  have h2 : T.last o.f0.f1 = 0 := by rw [h.last, hk]
  have h3 := (place_iff _ _).2 hx
  have h4 : 1 ≤ o.f0.f0 := hr.1.1
  unfold refS
  rw [if_neg (fun k => k hr), h1, h2, if_neg (by omega), if_neg (by omega), if_neg (by omega)]
theorem gone_ins (l : List S75) (i : Nat) (o : S34) (h : i < l.length) : goneS (insT l (i + 1) o) i = insT (goneS l i) (i + 1) o := by
  induction l generalizing i with
  | nil => cases h
  | cons e l ih =>
    cases i with
    | zero => rfl
    | succ i =>
      have := ih i (by simpa using h)
      have e1 : insT (e :: l) (i + 1 + 1) o = e :: insT l (i + 1) o := rfl
      have e2 : goneS (e :: l) (i + 1) = e :: goneS l i := rfl
      have e3 : insT (e :: goneS l i) (i + 1 + 1) o = e :: insT (goneS l i) (i + 1) o := rfl
      have e4 : goneS (e :: insT l (i + 1) o) (i + 1) = e :: goneS (insT l (i + 1) o) i := rfl
      rw [e1, e2, e3, e4, this]
theorem take_gone {T : TS} {o : S34} {i : Nat} (hi : o.f2 = false) (hp : placeS T.l o.f3 = i) : (takeS T o).l = goneS T.l i := by
  unfold takeS
  rw [if_neg (by rw [hi]; decide), hp]
  rfl
theorem take_ins {T : TS} {o : S34} {i : Nat} (hi : o.f2 = true) (hp : placeS T.l o.f3 = i) (hg : ∀ e ∈ T.l, ¬ LTi o.f0 e.f0) : (takeS T o).l = insT T.l (i + 1) o := by
  have e : (placeS T.l o.f3 + 1).toNat = i + 1 := by rw [hp]; omega
  have e2 : skT T.l (i + 1) o = i + 1 := by
    unfold skT
    cases hd : T.l.drop (i + 1) with
    | nil => rfl
    | cons y t =>
      have hy : y ∈ T.l := List.drop_subset (i + 1) T.l (by rw [hd]; simp)
      have : lessI o.f0 y.f0 = false := (lessI_no _ _).2 (hg y hy)
      simp only [skipS]
      rw [if_neg (by rw [this]; decide)]
  unfold takeS
  rw [if_pos hi, e, e2]
theorem ids_top {T : TS} {F : Fo} (h : Inv T F) : ∀ e ∈ T.l, idP e.f0.f0 e.f0.f1 ∧ e.f0.f0 ≤ T.top := by
  intro e he
  have hm : e.f0 ∈ F.ids := by rw [← h.lids]; exact List.mem_map.2 ⟨e, he, rfl⟩
  obtain ⟨y, hy, e2⟩ := List.mem_map.1 hm
  have hy2 := ((h.mem y).1 hy).1
  have h3 := (h.right y hy2).1
  have h4 := topR_le T.ops y hy2
  rw [← h.top] at h4
  rw [e2] at h3 h4
  exact ⟨h3, h4⟩
structure GoneL (T : TS) (x : S31) (c : Int) (T1 T2 T3 U1 U2 U3 : TS) : Prop where
  a1 : putT T (gOne T.top x 4194303) = ((true, 0), T1)
  a2 : putT T1 (gOne T.top x 4194302) = ((true, 0), T2)
  a3 : putT T2 (gMore T.top x c) = ((true, 0), T3)
  b1 : putT T (gMore T.top x c) = ((true, 0), U1)
  b2 : putT U1 (gOne T.top x 4194302) = ((true, 0), U2)
  b3 : putT U2 (gOne T.top x 4194303) = ((true, 0), U3)
  i1 : ∃ F, Inv T1 F
  i2 : ∃ F, Inv T2 F
  i3 : ∃ F, Inv T3 F
  j1 : ∃ F, Inv U1 F
  j2 : ∃ F, Inv U2 F
  j3 : ∃ F, Inv U3 F
  n3 : T3.ops.length = T.ops.length + 3
  m3 : U3.ops.length = T.ops.length + 3
  same : T3.l = U3.l
  dead : aliveS T3.l x = false
  live : aliveS T3.l ⟨T.top + 1, 4194301⟩ = true
theorem put_take {T : TS} {o : S34} (h : refS T o = none) : putT T o = ((true, 0), takeS T o) := by unfold putT; rw [h]
theorem gone_law {T : TS} {F : Fo} (h : Inv T F) {x : S31} {c : Int} (hc : chP c) (ht : T.top < 4294967295) (ha : ∀ y ∈ T.ops, y.f0.f1 < 4194301) (hx : x ∈ T.l.map (·.f0)) :
    GoneL T x c (takeS T (gOne T.top x 4194303)) (takeS (takeS T (gOne T.top x 4194303)) (gOne T.top x 4194302)) (takeS (takeS (takeS T (gOne T.top x 4194303)) (gOne T.top x 4194302)) (gMore T.top x c)) (takeS T (gMore T.top x c)) (takeS (takeS T (gMore T.top x c)) (gOne T.top x 4194302)) (takeS (takeS (takeS T (gMore T.top x c)) (gOne T.top x 4194302)) (gOne T.top x 4194303)) := by
  obtain ⟨o1, e1⟩ : ∃ o, gOne T.top x 4194303 = o := ⟨_, rfl⟩
  obtain ⟨o2, e2⟩ : ∃ o, gOne T.top x 4194302 = o := ⟨_, rfl⟩
  obtain ⟨o3, e3⟩ : ∃ o, gMore T.top x c = o := ⟨_, rfl⟩
  obtain ⟨e, he, hxe⟩ := List.mem_map.1 hx
  obtain ⟨hid, htop⟩ := ids_top h e he
  rw [hxe] at hid htop
  have hid' := hid
  obtain ⟨q1, q2, q3, q4⟩ := hid'
  have r1 : rightS o1 := by rw [← e1]; exact ⟨⟨by show 1 ≤ T.top + 1; omega, by show T.top + 1 ≤ 4294967295; omega, by show (0 : Int) ≤ 4194303; decide, by show (4194303 : Int) ≤ 4194303; decide⟩, by show (1 : Int) ≤ 1; decide, by show (1 : Int) ≤ 4294967295; decide, by show x.f0 < T.top + 1; omega, .inr ⟨rfl, hid, rfl⟩⟩
  have r2 : rightS o2 := by rw [← e2]; exact ⟨⟨by show 1 ≤ T.top + 1; omega, by show T.top + 1 ≤ 4294967295; omega, by show (0 : Int) ≤ 4194302; decide, by show (4194302 : Int) ≤ 4194303; decide⟩, by show (1 : Int) ≤ 1; decide, by show (1 : Int) ≤ 4294967295; decide, by show x.f0 < T.top + 1; omega, .inr ⟨rfl, hid, rfl⟩⟩
  have r3 : rightS o3 := by rw [← e3]; exact ⟨⟨by show 1 ≤ T.top + 1; omega, by show T.top + 1 ≤ 4294967295; omega, by show (0 : Int) ≤ 4194301; decide, by show (4194301 : Int) ≤ 4194303; decide⟩, by show (1 : Int) ≤ 1; decide, by show (1 : Int) ≤ 4294967295; decide, by show x.f0 < T.top + 1; omega, .inl ⟨rfl, .inl hid, hc⟩⟩
  have f1 : o1.f2 = false := by rw [← e1]; rfl
  have f2 : o2.f2 = false := by rw [← e2]; rfl
  have f3 : o3.f2 = true := by rw [← e3]; rfl
  have g1 : o1.f3 = x := by rw [← e1]; rfl
  have g2 : o2.f3 = x := by rw [← e2]; rfl
  have g3 : o3.f3 = x := by rw [← e3]; rfl
  have s1 : o1.f1 = 1 := by rw [← e1]; rfl
  have s2 : o2.f1 = 1 := by rw [← e2]; rfl
  have s3 : o3.f1 = 1 := by rw [← e3]; rfl
  have a1 : o1.f0.f1 = 4194303 := by rw [← e1]; rfl
  have a2 : o2.f0.f1 = 4194302 := by rw [← e2]; rfl
  have a3 : o3.f0.f1 = 4194301 := by rw [← e3]; rfl
  have c3 : o3.f0.f0 = T.top + 1 := by rw [← e3]; rfl
  have id3 : (⟨T.top + 1, 4194301⟩ : S31) = o3.f0 := by rw [← e3]; rfl
  rw [e1, e2, e3]
  have ops : ∀ (U : TS) (o : S34), (takeS U o).ops = U.ops ++ [o] := fun _ _ => rfl
  obtain ⟨i, hi, hxi⟩ : ∃ i, ∃ hi : i < T.l.length, T.l[i].f0 = x := by
    obtain ⟨i, hi, e⟩ := List.getElem_of_mem hx
    rw [List.length_map] at hi
    exact ⟨i, hi, by rw [← e, List.getElem_map]⟩
  have hnd : (T.l.map (·.f0)).Nodup := by rw [h.lids]; exact h.nodup
  have hp : placeS T.l x = i := by rw [← hxi]; exact place_nth _ hnd i hi
  have hgl : (goneS T.l i).length = T.l.length := goneS_len _ _
  have hgt : ∀ e ∈ T.l, ¬ LTi o3.f0 e.f0 := fun e he => by
    have := (ids_top h e he).2
    unfold LTi
    omega
  have memg : ∀ l : List S75, ∀ i : Nat, (goneS l i).map (·.f0) = l.map (·.f0) := fun l i => by
    by_cases hl : i < l.length
    · exact gone_ids l i hl
    · unfold goneS; rw [List.modify_eq_self (by omega)]
  -- a
  have A1 : refS T o1 = none := take_ok h r1 s1 (fun y hy => by have := ha y hy; omega) (by rw [g1]; exact hx)
  have L1 : (takeS T o1).l = goneS T.l i := take_gone f1 (by rw [g1]; exact hp)
  obtain ⟨F1, I1⟩ := inv_take h A1
  have A2 : refS (takeS T o1) o2 = none := take_ok I1 r2 s2 (fun y hy => by
    rw [ops, List.mem_append, List.mem_singleton] at hy
    rcases hy with hy | rfl
    · have := ha y hy; omega
    · omega) (by rw [g2, L1, memg]; exact hx)
  have L2 : (takeS (takeS T o1) o2).l = goneS (goneS T.l i) i := by
    rw [take_gone (i := i) f2 (by rw [g2, L1, place_gone _ _ hi]; exact hp), L1]
  obtain ⟨F2, I2⟩ := inv_take I1 A2
  have A3 : refS (takeS (takeS T o1) o2) o3 = none := take_ok I2 r3 s3 (fun y hy => by
    rw [ops, ops, List.mem_append, List.mem_append, List.mem_singleton, List.mem_singleton] at hy
    rcases hy with (hy | rfl) | rfl
    · have := ha y hy; omega
    · omega
    · omega) (by rw [g3, L2, memg, memg]; exact hx)
  have mg : ∀ e ∈ goneS (goneS T.l i) i, ¬ LTi o3.f0 e.f0 := fun e he => by
    have : e.f0 ∈ T.l.map (·.f0) := by rw [← memg T.l i, ← memg (goneS T.l i) i]; exact List.mem_map.2 ⟨e, he, rfl⟩
    obtain ⟨e2, he2, e3⟩ := List.mem_map.1 this
    rw [← e3]
    exact hgt e2 he2
  have L3 : (takeS (takeS (takeS T o1) o2) o3).l = insT (goneS (goneS T.l i) i) (i + 1) o3 := by
    rw [take_ins (i := i) f3 (by rw [g3, L2, place_gone _ _ (by omega), place_gone _ _ hi]; exact hp) (by rw [L2]; exact mg), L2]
  obtain ⟨F3, I3⟩ := inv_take I2 A3
  -- b
  have B1 : refS T o3 = none := take_ok h r3 s3 (fun y hy => by have := ha y hy; omega) (by rw [g3]; exact hx)
  have M1 : (takeS T o3).l = insT T.l (i + 1) o3 := take_ins f3 (by rw [g3]; exact hp) hgt
  obtain ⟨G1, J1⟩ := inv_take h B1
  have hxm : x ∈ (insT T.l (i + 1) o3).map (·.f0) := by
    rw [← List.take_append_drop (i + 1) T.l, List.map_append, List.mem_append] at hx
    unfold insT
    rw [List.map_append, List.map_append, List.mem_append, List.mem_append]
    rcases hx with k | k
    · exact .inl (.inl k)
    · exact .inr k
  have pM : placeS (insT T.l (i + 1) o3) x = i := by
    have h1 : T.l.take (i + 1) ++ T.l.drop (i + 1) = T.l := List.take_append_drop _ _
    have h2 := place_pre (T.l.take (i + 1)) ([elOf o3] ++ T.l.drop (i + 1)) (T.l.drop (i + 1)) x (by rw [h1]; omega) (by rw [h1, List.length_take]; omega)
    have e2 : insT T.l (i + 1) o3 = T.l.take (i + 1) ++ ([elOf o3] ++ T.l.drop (i + 1)) := by unfold insT; rw [List.append_assoc]
    rw [e2, h2, h1]
    exact hp
  have hil : i < (insT T.l (i + 1) o3).length := by rw [insT_len _ _ _ (by omega)]; omega
  have B2 : refS (takeS T o3) o2 = none := take_ok J1 r2 s2 (fun y hy => by
    rw [ops, List.mem_append, List.mem_singleton] at hy
    rcases hy with hy | rfl
    · have := ha y hy; omega
    · omega) (by rw [g2, M1]; exact hxm)
  have M2 : (takeS (takeS T o3) o2).l = goneS (insT T.l (i + 1) o3) i := by
    rw [take_gone (i := i) f2 (by rw [g2, M1]; exact pM), M1]
  obtain ⟨G2, J2⟩ := inv_take J1 B2
  have B3 : refS (takeS (takeS T o3) o2) o1 = none := take_ok J2 r1 s1 (fun y hy => by
    rw [ops, ops, List.mem_append, List.mem_append, List.mem_singleton, List.mem_singleton] at hy
    rcases hy with (hy | rfl) | rfl
    · have := ha y hy; omega
    · omega
    · omega) (by rw [g1, M2, memg]; exact hxm)
  have M3 : (takeS (takeS (takeS T o3) o2) o1).l = goneS (goneS (insT T.l (i + 1) o3) i) i := by
    rw [take_gone (i := i) f1 (by rw [g1, M2, place_gone _ _ hil]; exact pM), M2]
  obtain ⟨G3, J3⟩ := inv_take J2 B3
  have hsame : (takeS (takeS (takeS T o1) o2) o3).l = (takeS (takeS (takeS T o3) o2) o1).l := by
    rw [L3, M3, gone_ins _ _ _ hi, gone_ins _ _ _ (by omega)]
  refine ⟨by rw [e1]; exact put_take A1, by rw [e2]; exact put_take A2, by rw [e3]; exact put_take A3, by rw [e3]; exact put_take B1, by rw [e2]; exact put_take B2, by rw [e1]; exact put_take B3, ⟨_, I1⟩, ⟨_, I2⟩, ⟨_, I3⟩, ⟨_, J1⟩, ⟨_, J2⟩, ⟨_, J3⟩, ?_, ?_, hsame, ?_, ?_⟩
  · rw [ops, ops, ops]; simp
  · rw [ops, ops, ops]; simp
  · have hl2 : i < (takeS (takeS T o3) o2).l.length := by rw [M2, goneS_len]; exact hil
    have hnd2 : ((takeS (takeS T o3) o2).l.map (·.f0)).Nodup := by rw [J2.lids]; exact J2.nodup
    have hx2 : (takeS (takeS T o3) o2).l[i].f0 = x := by
      have hp2 : placeS (takeS (takeS T o3) o2).l x = i := by rw [M2, place_gone _ _ hil]; exact pM
      obtain ⟨y, h1, h2⟩ := placeS_some _ x (by rw [hp2]; omega)
      rw [hp2] at h1
      have h1 : (takeS (takeS T o3) o2).l[i]? = some y := h1
      rw [List.getElem?_eq_getElem hl2] at h1
      injection h1 with h1
      rw [h1]; exact h2
    have := gone_dead _ hnd2 i hl2
    rw [hx2] at this
    rw [hsame, M3, ← M2]
    exact this
  · rw [id3, L3]
    refine ins_live _ _ _ (by rw [goneS_len, goneS_len]; omega) ?_
    have := (I2.fresh (refS_none A3).2.2.2).1
    rw [← I2.lids, L2] at this
    exact this
end Go.Proofs.Ytehdjdediobemaa.PC
namespace Go.Proofs.Ytehdjdediobemaa.PC
open Go.RowKit Go.Proofs.YtehdjdediobemaaW.PrintWords Go.Proofs.YtehdjdediobemaaW.PrintLast Go.Proofs.YtehdjdediobemaaW.PrintMore Go.Proofs.Ytehdjdediobemaa.K Go.Proofs.Ytehdjdediobemaa.IX Go.Proofs.Ytehdjdediobemaa.I
attribute [local go_sem] max2_int min2_int max_two min_two max_three min_three max_four min_four
attribute [local go_sem high] eqA31
set_option linter.unusedVariables false
set_option linter.unusedSimpArgs false
/-- What a Put of the next one of a right row answers, whatever else lies beside. -/
theorem good_putB {L : List S34} (hg : Good L) (hl : L.length ≤ 1000) (k : Nat) (hk : k < L.length) {w0 w : World} {p : Nat} {B : As} (b : Asn B) (h : St w0 w (sep (isTx p (TSof (L.take k))) B)) :
    Calls Try.prog 14 #[.pointer (some ⟨p, 0, none⟩), opV L[k]] w fun e w' => e = .returned (.tuple #[.bool true, .int .i64 0]) ∧ St w0 w' (sep (isTx p (TSof (L.take (k + 1)))) B) := by
  obtain ⟨⟨F, hi⟩, ho⟩ := good_inv _ (good_take hg k)
  exact put_named (good_step hg k hk) hi (by rw [ho, List.length_take]; omega) b h
theorem topR_bounds (L : List S34) (h : ∀ x ∈ L, rightS x) : 0 ≤ topR L ∧ topR L ≤ 4294967295 := by
  induction L using snoc_ind with
  | h0 => exact ⟨Int.le_refl _, by decide⟩
  | h1 L x ih =>
    have h1 := ih fun y hy => h y (by simp [hy])
    have h2 := (h x (by simp)).1
    have h3 := h2.2.1
    rw [topR_snoc]
    omega
theorem addr_add0 (b m : Nat) : (⟨b, 0, none⟩ : Addr).add m = ⟨b, m, none⟩ := by
  unfold Addr.add
  split
  · rename_i h; rw [h]
  · simp
/-- Four texts, one behind the other. -/
def four (a b c d : TS) : Nat → TS
  | 0 => a
  | 1 => b
  | 2 => c
  | _ => d
structure Three (s : Nat → TS) (os : List S34) : Prop where
  len : os.length = 3
  put : ∀ j (h : j < os.length), putT (s j) os[j] = ((true, 0), s (j + 1))
  inv : ∀ j, j < 3 → ∃ F, Inv (s j) F
  ops : ∀ j, j < 3 → (s j).ops.length ≤ 1000
theorem len_of {T T' : TS} {o : S34} {r : Bool × Int} (h : putT T o = (r, T')) : T'.ops.length ≤ T.ops.length + 1 := by
  have := putT_len T o
  rw [h] at this
  exact this
theorem three_a {T : TS} {x : S31} {c : Int} {T1 T2 T3 U1 U2 U3 : TS} (G : GoneL T x c T1 T2 T3 U1 U2 U3) (hI : ∃ F, Inv T F) (hl : T.ops.length ≤ 500) : Three (four T T1 T2 T3) [gOne T.top x 4194303, gOne T.top x 4194302, gMore T.top x c] := by
  have l1 := len_of G.a1
  have l2 := len_of G.a2
  refine ⟨rfl, fun j h => ?_, fun j h => ?_, fun j h => ?_⟩
  · match j, h with
    | 0, _ => exact G.a1
    | 1, _ => exact G.a2
    | 2, _ => exact G.a3
  · match j, h with
    | 0, _ => exact hI
    | 1, _ => exact G.i1
    | 2, _ => exact G.i2
  · match j, h with
    | 0, _ => show T.ops.length ≤ 1000; omega
    | 1, _ => show T1.ops.length ≤ 1000; omega
    | 2, _ => show T2.ops.length ≤ 1000; omega
theorem three_b {T : TS} {x : S31} {c : Int} {T1 T2 T3 U1 U2 U3 : TS} (G : GoneL T x c T1 T2 T3 U1 U2 U3) (hI : ∃ F, Inv T F) (hl : T.ops.length ≤ 500) : Three (four T U1 U2 U3) [gMore T.top x c, gOne T.top x 4194302, gOne T.top x 4194303] := by
  have l1 := len_of G.b1
  have l2 := len_of G.b2
  refine ⟨rfl, fun j h => ?_, fun j h => ?_, fun j h => ?_⟩
  · match j, h with
    | 0, _ => exact G.b1
    | 1, _ => exact G.b2
    | 2, _ => exact G.b3
  · match j, h with
    | 0, _ => exact hI
    | 1, _ => exact G.j1
    | 2, _ => exact G.j2
  · match j, h with
    | 0, _ => show T.ops.length ≤ 1000; omega
    | 1, _ => show U1.ops.length ≤ 1000; omega
    | 2, _ => show U2.ops.length ≤ 1000; omega
theorem three_put {s : Nat → TS} {os : List S34} (h3 : Three s os) (j : Nat) (h : j < os.length) {w0 w : World} {p : Nat} {B : As} (b : Asn B) (hS : St w0 w (sep (isTx p (s j)) B)) : Calls Try.prog 14 #[.pointer (some ⟨p, 0, none⟩), opV os[j]] w fun e w' => e = .returned (.tuple #[.bool true, .int .i64 0]) ∧ St w0 w' (sep (isTx p (s (j + 1))) B) := by
  have hl := h3.len
  obtain ⟨F, hF⟩ := h3.inv j (by omega)
  exact put_named (h3.put j h) hF (h3.ops j (by omega)) b hS
set_option maxHeartbeats 8000000 in
set_option maxRecDepth 100000 in
theorem rgone_row (A : Option Addr) (cap : Nat) (l : List S34) (which : Int) (ch : Int) (w : World) (hr : Kd.C k34 w A l.length l) (hc : l.length ≤ cap) (hy : l.length * 56 ≤ 140737488351232) (hg : ∀ y ∈ l, True) (hw1 : (Lit.int .i64 which).wf = true) (hw2 : (Lit.int .i32 ch).wf = true) :
    Calls Try.prog 7 #[.slice A l.length cap, .int .i64 which, .int .i32 ch] w fun e w' => e = .returned (.bool true) ∧ Below w.heap.size w w' := by
  have HSH := Lib.hid (shown14_calls w)
  have hl20 : (rightL (l.take 20)).length ≤ 20 := Nat.le_trans (rightL_len _) (by rw [List.length_take]; omega)
  have KR := Lib.hid (show ∀ W B, Asn B → St w W B → Calls Try.prog 18 #[.slice A l.length cap, .int .i64 20] W fun e w' => ∃ A' n c', e = .returned (.slice A' n c') ∧ (rightL (l.take 20)).length = n ∧ St w w' (sep (isRow k34 34 (.slice A' n c') (rightL (l.take 20))) B) from fun W B b h => (right14_st b h A cap l 20 hr hc (by omega) (by omega)).mono fun e w' ⟨A', n, c', h1, h2, h3⟩ => ⟨A', n, c', h1, h2.symm, h3⟩)
  have HG := Lib.hid (good_right (l.take 20))
  generalize rightL (l.take 20) = L at *
  obtain ⟨len, hlen⟩ : ∃ len, l.length = len := ⟨_, rfl⟩
  rw [hlen] at KR hc hy ⊢
  obtain ⟨n, hn⟩ : ∃ n, L.length = n := ⟨_, rfl⟩
  rw [hn] at KR hl20
  have HNL := Lib.hid hn
  have HSZ := Lib.hid (fun W => size_is W ch)
  have hsp := sizS_pos ch
  have hs0 := sizS_nonneg ch
  generalize sizS ch = sz at HSZ hsp hs0
  clear hr hg hn hlen hw1 hw2
  by_cases hchp : chP ch
  · have hs1 : (sz == 0) = false := by have := hsp.2 hchp; simp; omega
    clear hsp hs0
    go_enter Try.func7, Try.ntmps7
    go_wp2_with (first
      | (go_at_call 11; refine HSH.out.mono ?_; rintro e w1 ⟨rfl, hb⟩; have HS := Lib.hid ((St.emp w).below asn_emp hb); clear hb)
      | (go_at_call 12; with_reducible refine (new_st asn_emp HS.out).mono ?_; rintro e w2 ⟨p, rfl, hS⟩; have HS2 := Lib.hid hS; clear hS)
      | (go_at_call 12; with_reducible refine (new_st (asn_sep (asn_tx _ _) asn_emp) HS2.out).mono ?_; rintro e w3 ⟨q, rfl, hS⟩; have HS3 := Lib.hid hS.turn; clear hS)
      | (go_at_call 13; refine (HSZ.out _).mono ?_; rintro e w4 ⟨rfl, nq, rfl⟩; have HS4 := Lib.hid (HS3.out.drewN (asn_sep (asn_tx _ _) (asn_sep (asn_tx _ _) asn_emp)) nq))
      | (go_at_call 18; with_reducible refine (KR.out _ _ (asn_sep (asn_tx _ _) (asn_sep (asn_tx _ _) asn_emp)) HS4.out).mono ?_; rintro e w5 ⟨A5, n5, c5, rfl, hn5, hS⟩; subst hn5; have HS5 := Lib.hid (hS.to3); clear hS))
    have AR := Lib.hid (asn_sep (asn_row k34 34 (.slice A5 n c5) L) asn_emp)
    have HROW := Lib.hid (fun W C D (h : St w W (sep C (sep D (sep (isRow k34 34 (.slice A5 n c5) L) emp)))) => h.snd.snd.op_row)
    go_loopg [11] n (fun kq v11 wr => ∃ (i : Nat), v11 = .int .i64 (i : Int) ∧ Aside0 (kq + i = n ∧ St w wr (sep (isTx p (TSof (L.take i))) (sep (isTx q (TSof (L.take i))) (sep (isRow k34 34 (.slice A5 n c5) L) emp)))))
    case atStart => exact ⟨0, rfl, by omega, HS5.out⟩
    case round =>
      obtain ⟨i, rfl, HI⟩ := hrel
      have hki := HI.out.1
      have hS := HI.out.2
      by_cases hlt : i < n
      · have hil : i < L.length := by rw [HNL.out]; exact hlt
        obtain ⟨ad, rfl, -⟩ := HROW.out _ _ _ hS i hil
        have HC := Lib.hid (fun W C D (h : St w W (sep C (sep D (sep (isRow k34 34 (.slice (some ad) n c5) L) emp)))) => show W.cell? (ad.add (i * 7)) = some (.int .i64 L[i].f0.f0) ∧ W.cell? ⟨(ad.add (i * 7)).block, (ad.add (i * 7)).off + 1, none⟩ = some (.int .i64 L[i].f0.f1) ∧ W.cell? ⟨(ad.add (i * 7)).block, (ad.add (i * 7)).off + 2, none⟩ = some (.int .i64 L[i].f1) ∧ W.cell? ⟨(ad.add (i * 7)).block, (ad.add (i * 7)).off + 3, none⟩ = some (.bool L[i].f2) ∧ W.cell? ⟨(ad.add (i * 7)).block, (ad.add (i * 7)).off + 4, none⟩ = some (.int .i64 L[i].f3.f0) ∧ W.cell? ⟨(ad.add (i * 7)).block, (ad.add (i * 7)).off + 5, none⟩ = some (.int .i64 L[i].f3.f1) ∧ W.cell? ⟨(ad.add (i * 7)).block, (ad.add (i * 7)).off + 6, none⟩ = some (.int .i32 L[i].f4) from by
          obtain ⟨ad2, e2, c⟩ := HROW.out _ _ _ h i hil
          injection e2 with e2
          subst e2
          exact c)
        have K1 := Lib.hid (fun W p B (b : Asn B) (h : St w W (sep (isTx p (TSof (L.take i))) B)) => good_putB HG.out (by rw [HNL.out]; omega) i hil b h)
        obtain ⟨c0, c1, c2, c3, c4, c5', c6⟩ := HC.out _ _ _ hS
        have hd1 : decide (i < n) = true := by simpa using hlt
        generalize L[i] = o at c0 c1 c2 c3 c4 c5' c6 K1 HC
        unfold opV at K1
        obtain ⟨⟨o0, o1⟩, o2, o3, ⟨o4, o5⟩, o6⟩ := o
        simp only at c0 c1 c2 c3 c4 c5' c6 HC
        have HS0 := Lib.hid hS
        clear hS HI
        go_wp2_with (first
          | (go_at_call 14; with_reducible refine (K1.out _ p _ (asn_sep (asn_tx _ _) AR.out) HS0.out).mono ?_; rintro e w6 ⟨rfl, hS6⟩; have HS6 := Lib.hid hS6.turn; clear hS6 c0 c1 c2 c3 c4 c5' c6; obtain ⟨c0, c1, c2, c3, c4, c5', c6⟩ := HC.out _ _ _ HS6.out)
          | (go_at_call 14; with_reducible refine (K1.out _ q _ (asn_sep (asn_tx _ _) AR.out) HS6.out).mono ?_; rintro e w7 ⟨rfl, hS7⟩; have HS7 := Lib.hid hS7.turn; clear hS7))
        go_roundg (n - (i + 1))
        case measure => omega
        case rel => exact ⟨i + 1, by go_num, by omega, HS7.out⟩
      · obtain rfl : i = n := by omega
        have hd1 : decide (i < i) = false := by simp
        rw [show L.take i = L from List.take_of_length_le (by rw [HNL.out]; exact Nat.le_refl _)] at hS
        obtain ⟨⟨Fo', hI⟩, hops⟩ := good_inv L HG.out
        have hll := hI.ll
        have hol : (TSof L).ops.length = i := by rw [hops]; exact HNL.out
        obtain ⟨na, hna⟩ : ∃ na, ((TSof L).l.map (·.f0)).length = na := ⟨_, rfl⟩
        have hna9 : na ≤ i := by rw [List.length_map] at hna; omega
        have hna2 : na ≤ 20 := by omega
        have KA := Lib.hid (fun W (h : St w W (sep (isTx p (TSof L)) (sep (isTx q (TSof L)) (sep (isRow k34 34 (.slice A5 i c5) L) emp)))) => all_nm (asn_sep (asn_tx _ _) AR.out) h (by omega) rfl hna)
        have KL := Lib.hid (show ∀ x ∈ (TSof L).l.map (·.f0), (TSof L).top < 4294967295 → (∀ y ∈ L, y.f0.f1 < 4194301) → GoneL (TSof L) x ch _ _ _ _ _ _ from fun x hx ht ha => gone_law hI hchp ht (by rw [hops]; exact ha) hx)
        have HNA := Lib.hid hna
        have HINV := Lib.hid (show ∃ F, Inv (TSof L) F from ⟨_, hI⟩)
        have HOL := Lib.hid hol
        have htop : 0 ≤ (TSof L).top ∧ (TSof L).top ≤ 4294967295 := by rw [hI.top]; exact topR_bounds _ hI.right
        generalize (TSof L).l.map (·.f0) = ids at KA KL HNA
        generalize TSof L = T at *
        have HS0 := Lib.hid hS
        clear hS HI hI hops hll hol hna
        by_cases hz : na = 0
        · subst hz
          go_wp2_with (go_at_call 24; with_reducible refine (KA.out _ HS0.out).mono ?_; rintro e w6 ⟨A6, c6, rfl, hb6, hS6⟩; have HB6 := Lib.hid hS6.bel; clear hS6 hb6)
          go_ret
          exact ⟨rfl, HB6.out⟩
        · have hzz : ((na : Int) == 0) = false := by simp; omega
          obtain ⟨x1, hx1⟩ : ∃ y, Go.bits .and .i64 which 65535 = y := ⟨_, rfl⟩
          have hb1 := bits16 which
          rw [hx1] at hb1
          have hp1 := Int.emod_nonneg x1 (show (na : Int) ≠ 0 by omega)
          have hp2 := Int.emod_lt_of_pos x1 (show (0 : Int) < (na : Int) by omega)
          obtain ⟨k, hk⟩ : ∃ k : Nat, x1 % (na : Int) = (k : Int) := ⟨(x1 % (na : Int)).toNat, by omega⟩
          have hkn : k < na := by omega
          have hki2 : k < ids.length := by rw [HNA.out]; exact hkn
          have HIX := Lib.hid (fun W A6 c6 (h : St w W (sep (isRow k31 31 (.slice A6 na c6) ids) (sep (isTx p T) (sep (isTx q T) (sep (isRow k34 34 (.slice A5 i c5) L) emp))))) => show ∃ ad, A6 = some ad ∧ W.cell? (ad.add (k * 2)) = some (.int .i64 ids[k].f0) ∧ W.cell? ⟨(ad.add (k * 2)).block, (ad.add (k * 2)).off + 1, none⟩ = some (.int .i64 ids[k].f1) from cell_id (h.later (Below.refl _ _)).2.2 (Below.refl _ _) k hki2)
          have GL := Lib.hid (KL.out ids[k] (List.getElem_mem hki2))
          generalize ids[k] = x at HIX GL
          obtain ⟨y0, y1⟩ := x
          simp only at HIX
          go_wp2_with (go_at_call 24; with_reducible refine (KA.out _ HS0.out).mono ?_; rintro e w6 ⟨A6, c6, rfl, hb6, hS6⟩; have HS6 := Lib.hid hS6; clear hS6 hb6; obtain ⟨ad6, rfl, g0, g1⟩ := HIX.out _ _ _ HS6.out)
          obtain ⟨t, ht⟩ : ∃ t, T.top = t := ⟨_, rfl⟩
          have KT := Lib.hid (fun W B (h : St w W (sep (isTx p T) B)) => top_st h)
          rw [ht] at KT GL htop
          have hwt : IntKind.i64.wrap (t + 1) = t + 1 := by rw [IntKind.wrap_i64]; omega
          obtain ⟨xb, hxb⟩ : ∃ xb, w6.heap.size = xb := ⟨_, rfl⟩
          have HS7 := Lib.hid (show St w (w6.alloc (.cells #[.int .i64 y0, .int .i64 y1] 31 (0, 0))) (sep (isTx p T) (sep (isTx q T) (sep (isRow k34 34 (.slice A5 i c5) L) (sep (isBlk xb (.cells #[.int .i64 y0, .int .i64 y1] 31 (0, 0))) emp)))) from hxb ▸ (HS6.out.snd.mkblk (asn_sep (asn_tx _ _) (asn_sep (asn_tx _ _) AR.out)) (.cells #[.int .i64 y0, .int .i64 y1] 31 (0, 0))).to4)
          rw [hxb]
          generalize w6.alloc (.cells #[.int .i64 y0, .int .i64 y1] 31 (0, 0)) = w7 at HS7 ⊢
          have HTT := Lib.hid ht
          clear ht hb1 hp1 hp2 hk hx1 hxb g0 g1 hlt hki
          go_wp2_with (go_at_call 26; with_reducible refine (KT.out _ _ HS7.out).mono ?_; rintro e w8 ⟨rfl, rfl⟩)
          have AX := Lib.hid (show Asn (sep (isTx p T) (sep (isTx q T) (sep (isRow k34 34 (.slice A5 i c5) L) (sep (isBlk xb (.cells #[.int .i64 y0, .int .i64 y1] 31 (0, 0))) emp)))) from asn_sep (asn_tx _ _) (asn_sep (asn_tx _ _) (asn_sep (asn_row _ _ _ _) (asn_sep (asn_blk _ _) asn_emp))))
          have HXC := Lib.hid (fun W (h : St w W (sep (isTx p T) (sep (isTx q T) (sep (isRow k34 34 (.slice A5 i c5) L) (sep (isBlk xb (.cells #[.int .i64 y0, .int .i64 y1] 31 (0, 0))) emp))))) => show W.cell? ⟨xb, 0, none⟩ = some (.int .i64 y0) ∧ W.cell? ⟨xb, 1, none⟩ = some (.int .i64 y1) from ⟨(cell_of h.snd.snd.snd.blk 0).trans rfl, (cell_of h.snd.snd.snd.blk 1).trans rfl⟩)
          -- regions 17 to 19
          have HXd := Lib.hid (HS7.out.drew (AX.out))
          have HXA := Lib.hid (HXd.out.mkblk (AX.out) (.cells #[.int .i64 0, .int .i64 0, .int .i64 0, .bool false, .int .i64 0, .int .i64 0, .int .i32 0] 34 (0, 0)))
          have AXA := Lib.hid (asn_sep (asn_blk w7.drew.heap.size (.cells #[.int .i64 0, .int .i64 0, .int .i64 0, .bool false, .int .i64 0, .int .i64 0, .int .i32 0] 34 (0, 0))) (AX.out))
          have HZC := Lib.hid (fun W (h : St w W (sep (isBlk w7.drew.heap.size (.cells #[.int .i64 0, .int .i64 0, .int .i64 0, .bool false, .int .i64 0, .int .i64 0, .int .i32 0] 34 (0, 0))) (sep (isTx p T) (sep (isTx q T) (sep (isRow k34 34 (.slice A5 i c5) L) (sep (isBlk xb (.cells #[.int .i64 y0, .int .i64 y1] 31 (0, 0))) emp)))))) => show W.cell? ⟨w7.heap.size, 0, none⟩ = some (.int .i64 0) ∧ W.cell? ⟨w7.heap.size, 1, none⟩ = some (.int .i64 0) ∧ W.cell? ⟨w7.heap.size, 2, none⟩ = some (.int .i64 0) ∧ W.cell? ⟨w7.heap.size, 3, none⟩ = some (.bool false) ∧ W.cell? ⟨w7.heap.size, 4, none⟩ = some (.int .i64 0) ∧ W.cell? ⟨w7.heap.size, 5, none⟩ = some (.int .i64 0) ∧ W.cell? ⟨w7.heap.size, 6, none⟩ = some (.int .i32 0) ∧ ∀ o, W.frozen? ⟨w7.heap.size, o, none⟩ = false from ⟨(cell_of h.blk 0).trans rfl, (cell_of h.blk 1).trans rfl, (cell_of h.blk 2).trans rfl, (cell_of h.blk 3).trans rfl, (cell_of h.blk 4).trans rfl, (cell_of h.blk 5).trans rfl, (cell_of h.blk 6).trans rfl, free_of h.blk⟩)
          go_cut [15] from 81 to 85 (fun v15 wx => ∃ r, v15 = .pointer (some ⟨r, 0, none⟩) ∧ Aside0 (St w wx (sep (isBlk r (opC (gOne t ⟨y0, y1⟩ 4194303))) (sep (isTx p T) (sep (isTx q T) (sep (isRow k34 34 (.slice A5 i c5) L) (sep (isBlk xb (.cells #[.int .i64 y0, .int .i64 y1] 31 (0, 0))) emp)))))))
          · refine startZ (z := 6) (S := (fun W => W.cell? ⟨xb, 0, none⟩ = some (.int .i64 y0) ∧ W.cell? ⟨xb, 1, none⟩ = some (.int .i64 y1))) (by kernel_rfl) ?_
            show ZG _ _ _ _ _ _ 7 _ _ _
            refine takeW (i := 0) (v := ?_) rfl (by kernel_rfl) (by kernel_rfl) (by kernel_rfl) (by decide) (fun _ _ _ h => h) rfl (by exact HXC.out _ HXd.out) ?_ ?_
            rotate_left
            · intro wq; go_simp; try (with_reducible rfl)
            try simp only [Act.put, List.setIfInBounds_toArray, List.set_cons_zero, List.set_cons_succ]
            refine takeW (i := 1) (v := ?_) rfl (by kernel_rfl) (by kernel_rfl) (by kernel_rfl) (by decide) (fun _ _ _ h => h) rfl (by exact HXC.out _ HXd.out) ?_ ?_
            rotate_left
            · intro wq; go_simp; try (with_reducible rfl)
            try simp only [Act.put, List.setIfInBounds_toArray, List.set_cons_zero, List.set_cons_succ]
            refine takeZ (i := 3) (f0 := 6) (v := ?_) rfl (by kernel_rfl) (by kernel_rfl) (by kernel_rfl) (by decide) (by kernel_rfl) (fun _ _ _ h => h) rfl (by exact HXC.out _ HXd.out) ?_ ?_
            rotate_left
            · intro wq hSw; (try dsimp only at hSw); go_split_ands; go_simp; try (with_reducible rfl)
            try simp only [Act.put, List.setIfInBounds_toArray, List.set_cons_zero, List.set_cons_succ]
            refine twoZ (i := 2) (j := 5) rfl rfl (by kernel_rfl) rfl rfl (fun K hK => ?_) (fun K hK => ?_)
            · go_simp
              go_at_call 15
              refine (id_is _ _ _).mono ?_
              rintro e w8 ⟨rfl, hb⟩
              have HX8 := Lib.hid (HXd.out.below (AX.out) hb)
              clear hb
              try go_simp
              refine hK _ _ (by exact HXC.out _ HX8.out) ?_
              clear hK K
              try simp only [Act.put, List.setIfInBounds_toArray, List.set_cons_zero, List.set_cons_succ]
              refine takeW (i := 4) (v := ?_) rfl (by kernel_rfl) (by kernel_rfl) (by kernel_rfl) (by decide) (fun _ _ _ h => h) rfl (by exact HXC.out _ HX8.out) ?_ ?_
              rotate_left
              · intro wq; go_simp; try (with_reducible rfl)
              try simp only [Act.put, List.setIfInBounds_toArray, List.set_cons_zero, List.set_cons_succ]
              refine oneZ (i := 5) rfl (by kernel_rfl) rfl (fun K hK => ?_)
              go_simp
              refine hK _ _ (by exact HXC.out _ (HX8.out.mkblk (AX.out) (.cells #[.int .i64 0, .int .i64 0, .int .i64 0, .bool false, .int .i64 0, .int .i64 0, .int .i32 0] 34 (0, 0))).snd) ?_
              clear hK K
              try simp only [Act.put, List.setIfInBounds_toArray, List.set_cons_zero, List.set_cons_succ]
              refine seqZ (l := _ :: _) rfl rfl (by kernel_rfl) (by decide) ?_
              go_wp2
              go_meet
              exact ⟨_, rfl, ⟨HX8.out.mkblk (AX.out) _⟩⟩
            · go_simp
              refine hK _ _ (by exact HXC.out _ HXA.out.snd) ?_
              clear hK K
              try simp only [Act.put, List.setIfInBounds_toArray, List.set_cons_zero, List.set_cons_succ]
              refine oneZ (i := 2) rfl (by kernel_rfl) rfl (fun K hK => ?_)
              go_simp
              go_at_call 15
              refine (id_is _ _ _).mono ?_
              rintro e w9 ⟨rfl, hb⟩
              have HX9 := Lib.hid (HXA.out.below AXA.out hb)
              clear hb
              try go_simp
              refine hK _ _ (by exact HXC.out _ HX9.out.snd) ?_
              clear hK K
              try simp only [Act.put, List.setIfInBounds_toArray, List.set_cons_zero, List.set_cons_succ]
              refine takeW (i := 4) (v := ?_) rfl (by kernel_rfl) (by kernel_rfl) (by kernel_rfl) (by decide) (fun _ _ _ h => h) rfl (by exact HXC.out _ HX9.out.snd) ?_ ?_
              rotate_left
              · intro wq; go_simp; try (with_reducible rfl)
              try simp only [Act.put, List.setIfInBounds_toArray, List.set_cons_zero, List.set_cons_succ]
              refine seqZ (l := _ :: _) rfl rfl (by kernel_rfl) (by decide) ?_
              obtain ⟨z0, z1, z2, z3, z4, z5, z6, zf⟩ := HZC.out _ HX9.out
              go_wp2
              go_meet
              exact ⟨_, rfl, ⟨(((((((HX9.out.set1 (AX.out) 0 _).set1 (AX.out) 1 _).set1 (AX.out) 2 _).set1 (AX.out) 3 _).set1 (AX.out) 4 _).set1 (AX.out) 5 _).set1 (AX.out) 6 _)⟩⟩
          obtain ⟨W17, rfl⟩ : ∃ W : World, W = wc := ⟨_, rfl⟩
          obtain ⟨r17, rfl, hcut2⟩ := hcut
          have HS17 := Lib.hid hcut2.out
          clear HXd HXA AXA HZC hcut2
          go_wp2
          clear HS7
          have AX17 := Lib.hid (show Asn (sep (isBlk r17 (opC (gOne t ⟨y0, y1⟩ 4194303))) (sep (isTx p T) (sep (isTx q T) (sep (isRow k34 34 (.slice A5 i c5) L) (sep (isBlk xb (.cells #[.int .i64 y0, .int .i64 y1] 31 (0, 0))) emp))))) from asn_sep (asn_blk _ _) AX.out)
          have HXd := Lib.hid (HS17.out.drew (AX17.out))
          have HXA := Lib.hid (HXd.out.mkblk (AX17.out) (.cells #[.int .i64 0, .int .i64 0, .int .i64 0, .bool false, .int .i64 0, .int .i64 0, .int .i32 0] 34 (0, 0)))
          have AXA := Lib.hid (asn_sep (asn_blk W17.drew.heap.size (.cells #[.int .i64 0, .int .i64 0, .int .i64 0, .bool false, .int .i64 0, .int .i64 0, .int .i32 0] 34 (0, 0))) (AX17.out))
          have HZC := Lib.hid (fun W (h : St w W (sep (isBlk W17.drew.heap.size (.cells #[.int .i64 0, .int .i64 0, .int .i64 0, .bool false, .int .i64 0, .int .i64 0, .int .i32 0] 34 (0, 0))) (sep (isBlk r17 (opC (gOne t ⟨y0, y1⟩ 4194303))) (sep (isTx p T) (sep (isTx q T) (sep (isRow k34 34 (.slice A5 i c5) L) (sep (isBlk xb (.cells #[.int .i64 y0, .int .i64 y1] 31 (0, 0))) emp))))))) => show W.cell? ⟨W17.heap.size, 0, none⟩ = some (.int .i64 0) ∧ W.cell? ⟨W17.heap.size, 1, none⟩ = some (.int .i64 0) ∧ W.cell? ⟨W17.heap.size, 2, none⟩ = some (.int .i64 0) ∧ W.cell? ⟨W17.heap.size, 3, none⟩ = some (.bool false) ∧ W.cell? ⟨W17.heap.size, 4, none⟩ = some (.int .i64 0) ∧ W.cell? ⟨W17.heap.size, 5, none⟩ = some (.int .i64 0) ∧ W.cell? ⟨W17.heap.size, 6, none⟩ = some (.int .i32 0) ∧ ∀ o, W.frozen? ⟨W17.heap.size, o, none⟩ = false from ⟨(cell_of h.blk 0).trans rfl, (cell_of h.blk 1).trans rfl, (cell_of h.blk 2).trans rfl, (cell_of h.blk 3).trans rfl, (cell_of h.blk 4).trans rfl, (cell_of h.blk 5).trans rfl, (cell_of h.blk 6).trans rfl, free_of h.blk⟩)
          go_cut [16] from 86 to 90 (fun v16 wx => ∃ r, v16 = .pointer (some ⟨r, 0, none⟩) ∧ Aside0 (St w wx (sep (isBlk r (opC (gOne t ⟨y0, y1⟩ 4194302))) (sep (isBlk r17 (opC (gOne t ⟨y0, y1⟩ 4194303))) (sep (isTx p T) (sep (isTx q T) (sep (isRow k34 34 (.slice A5 i c5) L) (sep (isBlk xb (.cells #[.int .i64 y0, .int .i64 y1] 31 (0, 0))) emp))))))))
          · refine startZ (z := 6) (S := (fun W => W.cell? ⟨xb, 0, none⟩ = some (.int .i64 y0) ∧ W.cell? ⟨xb, 1, none⟩ = some (.int .i64 y1))) (by kernel_rfl) ?_
            show ZG _ _ _ _ _ _ 7 _ _ _
            refine takeW (i := 0) (v := ?_) rfl (by kernel_rfl) (by kernel_rfl) (by kernel_rfl) (by decide) (fun _ _ _ h => h) rfl (by exact HXC.out _ HXd.out.snd) ?_ ?_
            rotate_left
            · intro wq; go_simp; try (with_reducible rfl)
            try simp only [Act.put, List.setIfInBounds_toArray, List.set_cons_zero, List.set_cons_succ]
            refine takeW (i := 1) (v := ?_) rfl (by kernel_rfl) (by kernel_rfl) (by kernel_rfl) (by decide) (fun _ _ _ h => h) rfl (by exact HXC.out _ HXd.out.snd) ?_ ?_
            rotate_left
            · intro wq; go_simp; try (with_reducible rfl)
            try simp only [Act.put, List.setIfInBounds_toArray, List.set_cons_zero, List.set_cons_succ]
            refine takeZ (i := 3) (f0 := 6) (v := ?_) rfl (by kernel_rfl) (by kernel_rfl) (by kernel_rfl) (by decide) (by kernel_rfl) (fun _ _ _ h => h) rfl (by exact HXC.out _ HXd.out.snd) ?_ ?_
            rotate_left
            · intro wq hSw; (try dsimp only at hSw); go_split_ands; go_simp; try (with_reducible rfl)
            try simp only [Act.put, List.setIfInBounds_toArray, List.set_cons_zero, List.set_cons_succ]
            refine twoZ (i := 2) (j := 5) rfl rfl (by kernel_rfl) rfl rfl (fun K hK => ?_) (fun K hK => ?_)
            · go_simp
              go_at_call 15
              refine (id_is _ _ _).mono ?_
              rintro e w8 ⟨rfl, hb⟩
              have HX8 := Lib.hid (HXd.out.below (AX17.out) hb)
              clear hb
              try go_simp
              refine hK _ _ (by exact HXC.out _ HX8.out.snd) ?_
              clear hK K
              try simp only [Act.put, List.setIfInBounds_toArray, List.set_cons_zero, List.set_cons_succ]
              refine takeW (i := 4) (v := ?_) rfl (by kernel_rfl) (by kernel_rfl) (by kernel_rfl) (by decide) (fun _ _ _ h => h) rfl (by exact HXC.out _ HX8.out.snd) ?_ ?_
              rotate_left
              · intro wq; go_simp; try (with_reducible rfl)
              try simp only [Act.put, List.setIfInBounds_toArray, List.set_cons_zero, List.set_cons_succ]
              refine oneZ (i := 5) rfl (by kernel_rfl) rfl (fun K hK => ?_)
              go_simp
              refine hK _ _ (by exact HXC.out _ (HX8.out.mkblk (AX17.out) (.cells #[.int .i64 0, .int .i64 0, .int .i64 0, .bool false, .int .i64 0, .int .i64 0, .int .i32 0] 34 (0, 0))).snd.snd) ?_
              clear hK K
              try simp only [Act.put, List.setIfInBounds_toArray, List.set_cons_zero, List.set_cons_succ]
              refine seqZ (l := _ :: _) rfl rfl (by kernel_rfl) (by decide) ?_
              go_wp2
              go_meet
              exact ⟨_, rfl, ⟨HX8.out.mkblk (AX17.out) _⟩⟩
            · go_simp
              refine hK _ _ (by exact HXC.out _ HXA.out.snd.snd) ?_
              clear hK K
              try simp only [Act.put, List.setIfInBounds_toArray, List.set_cons_zero, List.set_cons_succ]
              refine oneZ (i := 2) rfl (by kernel_rfl) rfl (fun K hK => ?_)
              go_simp
              go_at_call 15
              refine (id_is _ _ _).mono ?_
              rintro e w9 ⟨rfl, hb⟩
              have HX9 := Lib.hid (HXA.out.below AXA.out hb)
              clear hb
              try go_simp
              refine hK _ _ (by exact HXC.out _ HX9.out.snd.snd) ?_
              clear hK K
              try simp only [Act.put, List.setIfInBounds_toArray, List.set_cons_zero, List.set_cons_succ]
              refine takeW (i := 4) (v := ?_) rfl (by kernel_rfl) (by kernel_rfl) (by kernel_rfl) (by decide) (fun _ _ _ h => h) rfl (by exact HXC.out _ HX9.out.snd.snd) ?_ ?_
              rotate_left
              · intro wq; go_simp; try (with_reducible rfl)
              try simp only [Act.put, List.setIfInBounds_toArray, List.set_cons_zero, List.set_cons_succ]
              refine seqZ (l := _ :: _) rfl rfl (by kernel_rfl) (by decide) ?_
              obtain ⟨z0, z1, z2, z3, z4, z5, z6, zf⟩ := HZC.out _ HX9.out
              go_wp2
              go_meet
              exact ⟨_, rfl, ⟨(((((((HX9.out.set1 (AX17.out) 0 _).set1 (AX17.out) 1 _).set1 (AX17.out) 2 _).set1 (AX17.out) 3 _).set1 (AX17.out) 4 _).set1 (AX17.out) 5 _).set1 (AX17.out) 6 _)⟩⟩
          obtain ⟨W18, rfl⟩ : ∃ W : World, W = wc := ⟨_, rfl⟩
          obtain ⟨r18, rfl, hcut2⟩ := hcut
          have HS18 := Lib.hid hcut2.out
          clear HXd HXA AXA HZC hcut2
          go_wp2
          clear HS17
          have AX18 := Lib.hid (show Asn (sep (isBlk r18 (opC (gOne t ⟨y0, y1⟩ 4194302))) (sep (isBlk r17 (opC (gOne t ⟨y0, y1⟩ 4194303))) (sep (isTx p T) (sep (isTx q T) (sep (isRow k34 34 (.slice A5 i c5) L) (sep (isBlk xb (.cells #[.int .i64 y0, .int .i64 y1] 31 (0, 0))) emp)))))) from asn_sep (asn_blk _ _) AX17.out)
          have HXd := Lib.hid (HS18.out.drew (AX18.out))
          have HXA := Lib.hid (HXd.out.mkblk (AX18.out) (.cells #[.int .i64 0, .int .i64 0, .int .i64 0, .bool false, .int .i64 0, .int .i64 0, .int .i32 0] 34 (0, 0)))
          have AXA := Lib.hid (asn_sep (asn_blk W18.drew.heap.size (.cells #[.int .i64 0, .int .i64 0, .int .i64 0, .bool false, .int .i64 0, .int .i64 0, .int .i32 0] 34 (0, 0))) (AX18.out))
          have HZC := Lib.hid (fun W (h : St w W (sep (isBlk W18.drew.heap.size (.cells #[.int .i64 0, .int .i64 0, .int .i64 0, .bool false, .int .i64 0, .int .i64 0, .int .i32 0] 34 (0, 0))) (sep (isBlk r18 (opC (gOne t ⟨y0, y1⟩ 4194302))) (sep (isBlk r17 (opC (gOne t ⟨y0, y1⟩ 4194303))) (sep (isTx p T) (sep (isTx q T) (sep (isRow k34 34 (.slice A5 i c5) L) (sep (isBlk xb (.cells #[.int .i64 y0, .int .i64 y1] 31 (0, 0))) emp)))))))) => show W.cell? ⟨W18.heap.size, 0, none⟩ = some (.int .i64 0) ∧ W.cell? ⟨W18.heap.size, 1, none⟩ = some (.int .i64 0) ∧ W.cell? ⟨W18.heap.size, 2, none⟩ = some (.int .i64 0) ∧ W.cell? ⟨W18.heap.size, 3, none⟩ = some (.bool false) ∧ W.cell? ⟨W18.heap.size, 4, none⟩ = some (.int .i64 0) ∧ W.cell? ⟨W18.heap.size, 5, none⟩ = some (.int .i64 0) ∧ W.cell? ⟨W18.heap.size, 6, none⟩ = some (.int .i32 0) ∧ ∀ o, W.frozen? ⟨W18.heap.size, o, none⟩ = false from ⟨(cell_of h.blk 0).trans rfl, (cell_of h.blk 1).trans rfl, (cell_of h.blk 2).trans rfl, (cell_of h.blk 3).trans rfl, (cell_of h.blk 4).trans rfl, (cell_of h.blk 5).trans rfl, (cell_of h.blk 6).trans rfl, free_of h.blk⟩)
          go_cut [17] from 91 to 96 (fun v17 wx => ∃ r, v17 = .pointer (some ⟨r, 0, none⟩) ∧ Aside0 (St w wx (sep (isBlk r (opC (gMore t ⟨y0, y1⟩ ch))) (sep (isBlk r18 (opC (gOne t ⟨y0, y1⟩ 4194302))) (sep (isBlk r17 (opC (gOne t ⟨y0, y1⟩ 4194303))) (sep (isTx p T) (sep (isTx q T) (sep (isRow k34 34 (.slice A5 i c5) L) (sep (isBlk xb (.cells #[.int .i64 y0, .int .i64 y1] 31 (0, 0))) emp)))))))))
          · refine startZ (z := 7) (S := (fun W => W.cell? ⟨xb, 0, none⟩ = some (.int .i64 y0) ∧ W.cell? ⟨xb, 1, none⟩ = some (.int .i64 y1))) (by kernel_rfl) ?_
            show ZG _ _ _ _ _ _ 8 _ _ _
            refine takeW (i := 0) (v := ?_) rfl (by kernel_rfl) (by kernel_rfl) (by kernel_rfl) (by decide) (fun _ _ _ h => h) rfl (by exact HXC.out _ HXd.out.snd.snd) ?_ ?_
            rotate_left
            · intro wq; go_simp; try (with_reducible rfl)
            try simp only [Act.put, List.setIfInBounds_toArray, List.set_cons_zero, List.set_cons_succ]
            refine takeW (i := 1) (v := ?_) rfl (by kernel_rfl) (by kernel_rfl) (by kernel_rfl) (by decide) (fun _ _ _ h => h) rfl (by exact HXC.out _ HXd.out.snd.snd) ?_ ?_
            rotate_left
            · intro wq; go_simp; try (with_reducible rfl)
            try simp only [Act.put, List.setIfInBounds_toArray, List.set_cons_zero, List.set_cons_succ]
            refine takeZ (i := 3) (f0 := 6) (v := ?_) rfl (by kernel_rfl) (by kernel_rfl) (by kernel_rfl) (by decide) (by kernel_rfl) (fun _ _ _ h => h) rfl (by exact HXC.out _ HXd.out.snd.snd) ?_ ?_
            rotate_left
            · intro wq hSw; (try dsimp only at hSw); go_split_ands; go_simp; try (with_reducible rfl)
            try simp only [Act.put, List.setIfInBounds_toArray, List.set_cons_zero, List.set_cons_succ]
            refine takeW (i := 4) (v := ?_) rfl (by kernel_rfl) (by kernel_rfl) (by kernel_rfl) (by decide) (fun _ _ _ h => h) rfl (by exact HXC.out _ HXd.out.snd.snd) ?_ ?_
            rotate_left
            · intro wq; go_simp; try (with_reducible rfl)
            try simp only [Act.put, List.setIfInBounds_toArray, List.set_cons_zero, List.set_cons_succ]
            refine twoZ (i := 2) (j := 6) rfl rfl (by kernel_rfl) rfl rfl (fun K hK => ?_) (fun K hK => ?_)
            · go_simp
              go_at_call 15
              refine (id_is _ _ _).mono ?_
              rintro e w8 ⟨rfl, hb⟩
              have HX8 := Lib.hid (HXd.out.below (AX18.out) hb)
              clear hb
              try go_simp
              refine hK _ _ (by exact HXC.out _ HX8.out.snd.snd) ?_
              clear hK K
              try simp only [Act.put, List.setIfInBounds_toArray, List.set_cons_zero, List.set_cons_succ]
              refine takeW (i := 5) (v := ?_) rfl (by kernel_rfl) (by kernel_rfl) (by kernel_rfl) (by decide) (fun _ _ _ h => h) rfl (by exact HXC.out _ HX8.out.snd.snd) ?_ ?_
              rotate_left
              · intro wq; go_simp; try (with_reducible rfl)
              try simp only [Act.put, List.setIfInBounds_toArray, List.set_cons_zero, List.set_cons_succ]
              refine oneZ (i := 6) rfl (by kernel_rfl) rfl (fun K hK => ?_)
              go_simp
              refine hK _ _ (by exact HXC.out _ (HX8.out.mkblk (AX18.out) (.cells #[.int .i64 0, .int .i64 0, .int .i64 0, .bool false, .int .i64 0, .int .i64 0, .int .i32 0] 34 (0, 0))).snd.snd.snd) ?_
              clear hK K
              try simp only [Act.put, List.setIfInBounds_toArray, List.set_cons_zero, List.set_cons_succ]
              refine seqZ (l := _ :: _) rfl rfl (by kernel_rfl) (by decide) ?_
              go_wp2
              go_meet
              exact ⟨_, rfl, ⟨HX8.out.mkblk (AX18.out) _⟩⟩
            · go_simp
              refine hK _ _ (by exact HXC.out _ HXA.out.snd.snd.snd) ?_
              clear hK K
              try simp only [Act.put, List.setIfInBounds_toArray, List.set_cons_zero, List.set_cons_succ]
              refine oneZ (i := 2) rfl (by kernel_rfl) rfl (fun K hK => ?_)
              go_simp
              go_at_call 15
              refine (id_is _ _ _).mono ?_
              rintro e w9 ⟨rfl, hb⟩
              have HX9 := Lib.hid (HXA.out.below AXA.out hb)
              clear hb
              try go_simp
              refine hK _ _ (by exact HXC.out _ HX9.out.snd.snd.snd) ?_
              clear hK K
              try simp only [Act.put, List.setIfInBounds_toArray, List.set_cons_zero, List.set_cons_succ]
              refine takeW (i := 5) (v := ?_) rfl (by kernel_rfl) (by kernel_rfl) (by kernel_rfl) (by decide) (fun _ _ _ h => h) rfl (by exact HXC.out _ HX9.out.snd.snd.snd) ?_ ?_
              rotate_left
              · intro wq; go_simp; try (with_reducible rfl)
              try simp only [Act.put, List.setIfInBounds_toArray, List.set_cons_zero, List.set_cons_succ]
              refine seqZ (l := _ :: _) rfl rfl (by kernel_rfl) (by decide) ?_
              obtain ⟨z0, z1, z2, z3, z4, z5, z6, zf⟩ := HZC.out _ HX9.out
              go_wp2
              go_meet
              exact ⟨_, rfl, ⟨(((((((HX9.out.set1 (AX18.out) 0 _).set1 (AX18.out) 1 _).set1 (AX18.out) 2 _).set1 (AX18.out) 3 _).set1 (AX18.out) 4 _).set1 (AX18.out) 5 _).set1 (AX18.out) 6 _)⟩⟩
          obtain ⟨W19, rfl⟩ : ∃ W : World, W = wc := ⟨_, rfl⟩
          obtain ⟨r19, rfl, hcut2⟩ := hcut
          have HS19 := Lib.hid hcut2.out
          clear HXd HXA AXA HZC hcut2
          -- behind them
          obtain ⟨R, hR⟩ : ∃ R, R = (sep (isBlk r19 (opC (gMore t ⟨y0, y1⟩ ch))) (sep (isBlk r18 (opC (gOne t ⟨y0, y1⟩ 4194302))) (sep (isBlk r17 (opC (gOne t ⟨y0, y1⟩ 4194303))) (sep (isRow k34 34 (.slice A5 i c5) L) (sep (isBlk xb (.cells #[.int .i64 y0, .int .i64 y1] 31 (0, 0))) emp))))) := ⟨_, rfl⟩
          have ASR := Lib.hid (show Asn R from hR ▸ asn_sep (asn_blk _ _) (asn_sep (asn_blk _ _) (asn_sep (asn_blk _ _) (asn_sep (asn_row _ _ _ _) (asn_sep (asn_blk _ _) asn_emp)))))
          have HSR := Lib.hid (show St w W19 (sep (isTx p T) (sep (isTx q T) R)) from hR ▸ HS19.out.fourth.fifth.turn)
          have HB3 := Lib.hid (fun W C D (h : St w W (sep C (sep D R))) => show W.cell? ⟨r19, 0, none⟩ = some (.int .i64 (t + 1)) ∧ W.cell? ⟨r19, 1, none⟩ = some (.int .i64 4194301) ∧ W.cell? ⟨r19, 2, none⟩ = some (.int .i64 1) ∧ W.cell? ⟨r19, 3, none⟩ = some (.bool true) ∧ W.cell? ⟨r19, 4, none⟩ = some (.int .i64 y0) ∧ W.cell? ⟨r19, 5, none⟩ = some (.int .i64 y1) ∧ W.cell? ⟨r19, 6, none⟩ = some (.int .i32 ch) from (hR ▸ h : St w W (sep C (sep D _))).snd.snd.op_cells)
          have HB2 := Lib.hid (fun W C D (h : St w W (sep C (sep D R))) => show W.cell? ⟨r18, 0, none⟩ = some (.int .i64 (t + 1)) ∧ W.cell? ⟨r18, 1, none⟩ = some (.int .i64 4194302) ∧ W.cell? ⟨r18, 2, none⟩ = some (.int .i64 1) ∧ W.cell? ⟨r18, 3, none⟩ = some (.bool false) ∧ W.cell? ⟨r18, 4, none⟩ = some (.int .i64 y0) ∧ W.cell? ⟨r18, 5, none⟩ = some (.int .i64 y1) ∧ W.cell? ⟨r18, 6, none⟩ = some (.int .i32 0) from (hR ▸ h : St w W (sep C (sep D _))).snd.snd.snd.op_cells)
          have HB1 := Lib.hid (fun W C D (h : St w W (sep C (sep D R))) => show W.cell? ⟨r17, 0, none⟩ = some (.int .i64 (t + 1)) ∧ W.cell? ⟨r17, 1, none⟩ = some (.int .i64 4194303) ∧ W.cell? ⟨r17, 2, none⟩ = some (.int .i64 1) ∧ W.cell? ⟨r17, 3, none⟩ = some (.bool false) ∧ W.cell? ⟨r17, 4, none⟩ = some (.int .i64 y0) ∧ W.cell? ⟨r17, 5, none⟩ = some (.int .i64 y1) ∧ W.cell? ⟨r17, 6, none⟩ = some (.int .i32 0) from (hR ▸ h : St w W (sep C (sep D _))).snd.snd.snd.snd.op_cells)
          have HBX := Lib.hid (fun W C D (h : St w W (sep C (sep D R))) => show W.cell? ⟨xb, 0, none⟩ = some (.int .i64 y0) ∧ W.cell? ⟨xb, 1, none⟩ = some (.int .i64 y1) from ⟨(cell_of (hR ▸ h : St w W (sep C (sep D _))).snd.snd.snd.snd.snd.snd.blk 0).trans rfl, (cell_of (hR ▸ h : St w W (sep C (sep D _))).snd.snd.snd.snd.snd.snd.blk 1).trans rfl⟩)
          have HBR := Lib.hid (fun W C D (h : St w W (sep C (sep D R))) => (hR ▸ h : St w W (sep C (sep D _))).snd.snd.snd.snd.snd.op_row)
          clear HS19 hR
          have HNAI := Lib.hid (show 0 < i by omega)
          go_wp2
          go_loopg [18] i (fun kq v18 wr => ∃ (j : Nat), v18 = .int .i64 (j : Int) ∧ Aside0 (kq + j = i ∧ St w wr (sep (isTx p T) (sep (isTx q T) R)) ∧ (∀ m (h : m < L.length), m < j → L[m].f0.f1 < 4194301) ∧ (0 < j → t < 4294967295)))
          case atStart => exact ⟨0, rfl, by omega, HSR.out, fun m _ h => by omega, fun h => by omega⟩
          case round =>
            obtain ⟨j, rfl, HJ⟩ := hrel
            have hkj := HJ.out.1
            have HSJ := Lib.hid HJ.out.2.1
            by_cases hjt : j < i
            · have hjl : j < L.length := by rw [HNL.out]; exact hjt
              obtain ⟨ad, rfl, -, c1, -⟩ := HBR.out _ _ _ HSJ.out j hjl
              have hd3 : decide (j < i) = true := by simpa using hjt
              have HAU := Lib.hid (show ∀ a : Int, a = L[j].f0.f1 → a < 4194301 → t < 4294967295 → (∀ m (h : m < L.length), m < j + 1 → L[m].f0.f1 < 4194301) from fun a e h1 _ m h hm => by
                by_cases hmj : m = j
                · subst hmj; omega
                · exact HJ.out.2.2.1 m h (by omega))
              obtain ⟨au, hau⟩ : ∃ au, L[j].f0.f1 = au := ⟨_, rfl⟩
              rw [hau] at c1
              have HAE := Lib.hid hau.symm
              clear hau HJ
              by_cases h1 : au < 4194301
              · have hd4 : decide (4194301 ≤ au) = false := by simp; omega
                by_cases h2 : t < 4294967295
                · have hd5 : decide (4294967295 ≤ t) = false := by simp; omega
                  go_wp2
                  go_roundg (i - (j + 1))
                  case measure => omega
                  case rel => exact ⟨j + 1, by go_num, by omega, HSJ.out, HAU.out au HAE.out h1 h2, fun _ => h2⟩
                · have hd5 : decide (4294967295 ≤ t) = true := by simp; omega
                  go_wp2
                  go_ret
                  exact ⟨rfl, HSJ.out.bel⟩
              · have hd4 : decide (4194301 ≤ au) = true := by simp; omega
                go_wp2
                go_ret
                exact ⟨rfl, HSJ.out.bel⟩
            · obtain rfl : j = i := by omega
              have hd3 : decide (j < j) = false := by simp
              have GG := Lib.hid (GL.out (HJ.out.2.2.2 HNAI.out) (fun y hy => by
                obtain ⟨m, hm, e⟩ := List.getElem_of_mem hy
                rw [← e]
                exact HJ.out.2.2.1 m hm (by rw [← HNL.out]; exact hm)))
              obtain ⟨T1, T2, T3, U1, U2, U3, GX⟩ : ∃ T1 T2 T3 U1 U2 U3, GoneL T ⟨y0, y1⟩ ch T1 T2 T3 U1 U2 U3 := ⟨_, _, _, _, _, _, GG.out⟩
              have htt := HTT.out
              have hol := HOL.out
              have H3A := three_a GX HINV.out (by omega)
              have H3B := three_b GX HINV.out (by omega)
              rw [htt] at H3A H3B
              have hdead := GX.dead
              have hlive := GX.live
              rw [htt] at hlive
              have HDEAD := Lib.hid hdead
              have HLIVE := Lib.hid hlive
              have HSAME := Lib.hid GX.same
              have HL3 := Lib.hid (show T3.l.length ≤ 1000 from by obtain ⟨F, hF⟩ := GX.i3; have := hF.ll; have := GX.n3; omega)
              have HLU := Lib.hid (show U3.l.length ≤ 1000 from by obtain ⟨F, hF⟩ := GX.j3; have := hF.ll; have := GX.m3; omega)
              obtain ⟨c0, c1, c2, c3, c4, c5', c6⟩ := HB1.out _ _ _ HSJ.out
              obtain ⟨d0, d1, d2, d3, d4, d5', d6⟩ := HB2.out _ _ _ HSJ.out
              obtain ⟨e0, e1, e2, e3, e4, e5', e6⟩ := HB3.out _ _ _ HSJ.out
              obtain ⟨ab, hab⟩ : ∃ ab, wr.heap.size = ab := ⟨_, rfl⟩
              have HS2A := Lib.hid (fun OA (e : OA = [gOne t ⟨y0, y1⟩ 4194303, gOne t ⟨y0, y1⟩ 4194302, gMore t ⟨y0, y1⟩ ch]) => show St w (wr.alloc (.cells #[.int .i64 (t + 1), .int .i64 4194303, .int .i64 1, .bool false, .int .i64 y0, .int .i64 y1, .int .i32 0, .int .i64 (t + 1), .int .i64 4194302, .int .i64 1, .bool false, .int .i64 y0, .int .i64 y1, .int .i32 0, .int .i64 (t + 1), .int .i64 4194301, .int .i64 1, .bool true, .int .i64 y0, .int .i64 y1, .int .i32 ch] 34 (0, 0))) (sep (isTx p T) (sep (isTx q T) (sep (isRow k34 34 (.slice (some ⟨ab, 0, none⟩) 3 3) OA) R))) from by
                subst e
                rw [← hab]
                exact (lits_st flat_Op 34 (asn_sep (asn_tx _ _) (asn_sep (asn_tx _ _) ASR.out)) HSJ.out [gOne t ⟨y0, y1⟩ 4194303, gOne t ⟨y0, y1⟩ 4194302, gMore t ⟨y0, y1⟩ ch] (Nat.zero_lt_succ _) (show 3 ≤ 1000 by decide)).to3)
              obtain ⟨OA, hOA⟩ : ∃ OA, OA = [gOne t ⟨y0, y1⟩ 4194303, gOne t ⟨y0, y1⟩ 4194302, gMore t ⟨y0, y1⟩ ch] := ⟨_, rfl⟩
              obtain ⟨OB, hOB⟩ : ∃ OB, OB = [gMore t ⟨y0, y1⟩ ch, gOne t ⟨y0, y1⟩ 4194302, gOne t ⟨y0, y1⟩ 4194303] := ⟨_, rfl⟩
              have HS20 := Lib.hid (HS2A.out OA hOA)
              rw [← hOA] at H3A
              rw [← hOB] at H3B
              have HA3 := Lib.hid H3A
              have HB33 := Lib.hid H3B
              have HOB := Lib.hid hOB
              have AA3 := Lib.hid (show Asn (sep (isTx q T) (sep (isRow k34 34 (.slice (some ⟨ab, 0, none⟩) 3 3) OA) R)) from asn_sep (asn_tx _ _) (asn_sep (asn_row _ _ _ _) ASR.out))
              clear HS2A H3A H3B hOA hOB htt hol hdead hlive GX GG GL HJ KL HINV
              go_wp2
              try rw [hab]
              clear hab
              go_loopg [119] 3 (fun kq v119 wr => ∃ (j : Nat), v119 = .int .i64 (j : Int) ∧ Aside0 (kq + j = 3 ∧ St w wr (sep (isTx p (four T T1 T2 T3 j)) (sep (isTx q T) (sep (isRow k34 34 (.slice (some ⟨ab, 0, none⟩) 3 3) OA) R)))))
              case atStart => exact ⟨0, rfl, by omega, HS20.out⟩
              case round =>
                obtain ⟨m, rfl, HM⟩ := hrel
                have hkm := HM.out.1
                have HSM := Lib.hid HM.out.2
                clear HM
                by_cases hmt : m < 3
                · have hml : m < OA.length := by rw [HA3.out.len]; exact hmt
                  have hd6 : decide ((m : Int) < 3) = true := by simp; omega
                  obtain ⟨ad3, e3, c0, c1, c2, c3, c4, c5', c6⟩ := HSM.out.snd.snd.op_row m hml
                  injection e3 with e3
                  subst e3
                  have KP := Lib.hid (fun W B (b : Asn B) (h : St w W (sep (isTx p (four T T1 T2 T3 m)) B)) => three_put HA3.out m hml b h)
                  generalize OA[m] = o at c0 c1 c2 c3 c4 c5' c6 KP
                  unfold opV at KP
                  obtain ⟨⟨o0, o1⟩, o2, o3, ⟨o4, o5⟩, o6⟩ := o
                  simp only [addr_add0] at c0 c1 c2 c3 c4 c5' c6
                  have HSN := Lib.hid ((HSM.out.mkblk (asn_sep (asn_tx _ _) AA3.out) (.cells #[.int .i64 o0, .int .i64 o1, .int .i64 o2, .bool o3, .int .i64 o4, .int .i64 o5, .int .i32 o6] 34 (0, 0))).turn)
                  go_wp2_with (go_at_call 14; with_reducible refine (KP.out _ _ (asn_sep (asn_blk _ _) AA3.out) HSN.out).mono ?_; rintro e w9 ⟨rfl, hS9⟩; have HS9 := Lib.hid hS9.turn.snd; clear hS9)
                  go_roundg (3 - (m + 1))
                  case measure => omega
                  case rel => exact ⟨m + 1, by go_num, by omega, HS9.out⟩
                · obtain rfl : m = 3 := by omega
                  have hd6 : decide ((3 : Int) < 3) = false := by decide
                  have HS25 := Lib.hid (show St w wr (sep (isTx q T) (sep (isTx p T3) R)) from HSM.out.third.snd.turn)
                  obtain ⟨c0, c1, c2, c3, c4, c5', c6⟩ := HB1.out _ _ _ HS25.out
                  obtain ⟨d0, d1, d2, d3, d4, d5', d6⟩ := HB2.out _ _ _ HS25.out
                  obtain ⟨e0, e1, e2, e3, e4, e5', e6⟩ := HB3.out _ _ _ HS25.out
                  obtain ⟨ab2, hab2⟩ : ∃ ab, wr.heap.size = ab := ⟨_, rfl⟩
                  have HS30 := Lib.hid (show St w (wr.alloc (.cells #[.int .i64 (t + 1), .int .i64 4194301, .int .i64 1, .bool true, .int .i64 y0, .int .i64 y1, .int .i32 ch, .int .i64 (t + 1), .int .i64 4194302, .int .i64 1, .bool false, .int .i64 y0, .int .i64 y1, .int .i32 0, .int .i64 (t + 1), .int .i64 4194303, .int .i64 1, .bool false, .int .i64 y0, .int .i64 y1, .int .i32 0] 34 (0, 0))) (sep (isTx q T) (sep (isTx p T3) (sep (isRow k34 34 (.slice (some ⟨ab2, 0, none⟩) 3 3) OB) R))) from by
                    have e := HOB.out
                    subst e
                    rw [← hab2]
                    exact (lits_st flat_Op 34 (asn_sep (asn_tx _ _) (asn_sep (asn_tx _ _) ASR.out)) HS25.out [gMore t ⟨y0, y1⟩ ch, gOne t ⟨y0, y1⟩ 4194302, gOne t ⟨y0, y1⟩ 4194303] (Nat.zero_lt_succ _) (show 3 ≤ 1000 by decide)).to3)
                  have AB3 := Lib.hid (show Asn (sep (isTx p T3) (sep (isRow k34 34 (.slice (some ⟨ab2, 0, none⟩) 3 3) OB) R)) from asn_sep (asn_tx _ _) (asn_sep (asn_row _ _ _ _) ASR.out))
                  clear HSM HS20 HA3
                  go_wp2
                  try rw [hab2]
                  clear hab2
                  go_loopg [141] 3 (fun kq v141 wr => ∃ (j : Nat), v141 = .int .i64 (j : Int) ∧ Aside0 (kq + j = 3 ∧ St w wr (sep (isTx q (four T U1 U2 U3 j)) (sep (isTx p T3) (sep (isRow k34 34 (.slice (some ⟨ab2, 0, none⟩) 3 3) OB) R)))))
                  case atStart => exact ⟨0, rfl, by omega, HS30.out⟩
                  case round =>
                    obtain ⟨m, rfl, HM⟩ := hrel
                    have hkm := HM.out.1
                    have HSM := Lib.hid HM.out.2
                    clear HM
                    by_cases hmt : m < 3
                    · have hml : m < OB.length := by rw [HB33.out.len]; exact hmt
                      have hd6 : decide ((m : Int) < 3) = true := by simp; omega
                      obtain ⟨ad3, e3, c0, c1, c2, c3, c4, c5', c6⟩ := HSM.out.snd.snd.op_row m hml
                      injection e3 with e3
                      subst e3
                      have KP := Lib.hid (fun W B (b : Asn B) (h : St w W (sep (isTx q (four T U1 U2 U3 m)) B)) => three_put HB33.out m hml b h)
                      generalize OB[m] = o at c0 c1 c2 c3 c4 c5' c6 KP
                      unfold opV at KP
                      obtain ⟨⟨o0, o1⟩, o2, o3, ⟨o4, o5⟩, o6⟩ := o
                      simp only [addr_add0] at c0 c1 c2 c3 c4 c5' c6
                      have HSN := Lib.hid ((HSM.out.mkblk (asn_sep (asn_tx _ _) AB3.out) (.cells #[.int .i64 o0, .int .i64 o1, .int .i64 o2, .bool o3, .int .i64 o4, .int .i64 o5, .int .i32 o6] 34 (0, 0))).turn)
                      go_wp2_with (go_at_call 14; with_reducible refine (KP.out _ _ (asn_sep (asn_blk _ _) AB3.out) HSN.out).mono ?_; rintro e w9 ⟨rfl, hS9⟩; have HS9 := Lib.hid hS9.turn.snd; clear hS9)
                      go_roundg (3 - (m + 1))
                      case measure => omega
                      case rel => exact ⟨m + 1, by go_num, by omega, HS9.out⟩
                    · obtain rfl : m = 3 := by omega
                      have hd6 : decide ((3 : Int) < 3) = false := by decide
                      have HF0 := Lib.hid (show St w wr (sep (isTx p T3) (sep (isTx q U3) R)) from HSM.out.third.snd.turn)
                      have AF0 := Lib.hid (show Asn (sep (isTx p T3) (sep (isTx q U3) R)) from asn_sep (asn_tx _ _) (asn_sep (asn_tx _ _) ASR.out))
                      have AF1 := Lib.hid (show Asn (sep (isTx q U3) R) from asn_sep (asn_tx _ _) ASR.out)
                      obtain ⟨nv, hnv⟩ : ∃ nv, (visS T3.l).length = nv := ⟨_, rfl⟩
                      obtain ⟨nd, hnd⟩ : ∃ nd, (T3.l.map (·.f0)).length = nd := ⟨_, rfl⟩
                      have hnv2 : nv ≤ 1000 := by have := visS_len T3.l; have := HL3.out; omega
                      have hnd2 : nd ≤ 1000 := by rw [List.length_map] at hnd; have := HL3.out; omega
                      have KV1 := Lib.hid (fun W B (b : Asn B) (h : St w W (sep (isTx p T3) B)) => vis_nm b h (by have := HL3.out; omega) rfl hnv)
                      have KV2 := Lib.hid (fun W B (b : Asn B) (h : St w W (sep (isTx q U3) B)) => vis_nm b h (by have := HLU.out; omega) (show visS U3.l = visS T3.l by rw [HSAME.out]) hnv)
                      have KD1 := Lib.hid (fun W B (b : Asn B) (h : St w W (sep (isTx p T3) B)) => all_nm b h (by have := HL3.out; omega) rfl hnd)
                      have KD2 := Lib.hid (fun W B (b : Asn B) (h : St w W (sep (isTx q U3) B)) => all_nm b h (by have := HLU.out; omega) (show U3.l.map (·.f0) = T3.l.map (·.f0) by rw [HSAME.out]) hnd)
                      have HL3' := Lib.hid (show T3.l.length ≤ 100000 by have := HL3.out; omega)
                      obtain ⟨xx0, xx1⟩ := HBX.out _ _ _ HF0.out
                      clear HSM HS30 HB33 hnv hnd
                      go_wp2_with (first
                        | (go_at_call 27; with_reducible refine (alive_nm (x := ⟨y0, y1⟩) AF1.out HF0.out (Below.refl _ _) HL3'.out HDEAD.out).mono ?_; rintro e w20 ⟨rfl, hb⟩; have HF1 := Lib.hid (HF0.out.below AF0.out hb); obtain ⟨e0, e1, -⟩ := HB3.out _ _ _ HF1.out; clear hb)
                        | (go_at_call 27; with_reducible refine (alive_nm (x := ⟨t + 1, 4194301⟩) AF1.out HF1.out (Below.refl _ _) HL3'.out HLIVE.out).mono ?_; rintro e w21 ⟨rfl, hb⟩; have HF2 := Lib.hid (HF1.out.below AF0.out hb); clear hb)
                        | (go_at_call 17; with_reducible refine (KV1.out _ _ AF1.out HF2.out).mono ?_; rintro e w22 ⟨A7, c7, rfl, hb, hS⟩; have HF3 := Lib.hid hS.third; clear hb hS)
                        | (go_at_call 17; with_reducible refine (KV2.out _ _ (asn_sep (asn_row _ _ _ _) (asn_sep (asn_tx _ _) ASR.out)) HF3.out).mono ?_; rintro e w23 ⟨A8, c8, rfl, hb, hS⟩; have HF4 := Lib.hid hS; clear hb hS)
                        | (go_at_call 16; with_reducible refine (same01_nm HF4.out.snd.snd (Below.refl _ _) HF4.out (Below.refl _ _) (by omega)).mono ?_; rintro e w24 ⟨rfl, hb⟩; have HF5 := Lib.hid (HF4.out.snd.turn.snd.turn.below AF0.out hb); clear hb)
                        | (go_at_call 24; with_reducible refine (KD1.out _ _ AF1.out HF5.out).mono ?_; rintro e w25 ⟨A9, c9, rfl, hb, hS⟩; have HF6 := Lib.hid hS.third; clear hb hS)
                        | (go_at_call 24; with_reducible refine (KD2.out _ _ (asn_sep (asn_row _ _ _ _) (asn_sep (asn_tx _ _) ASR.out)) HF6.out).mono ?_; rintro e w26 ⟨A10, c10, rfl, hb, hS⟩; have HF7 := Lib.hid hS; clear hb hS)
                        | (go_at_call 23; with_reducible refine (same_nm HF7.out.snd.snd (Below.refl _ _) HF7.out (Below.refl _ _) (by omega)).mono ?_; rintro e w27 ⟨rfl, hb⟩; have HF8 := Lib.hid (HF7.out.snd.turn.snd.turn.below AF0.out hb); clear hb))
                      go_ret
                      exact ⟨rfl, HF8.out.bel⟩
  · have hs1 : (sz == 0) = true := by
      have h1 : ¬ 0 < sz := fun h => hchp (hsp.1 h)
      have : sz = 0 := by omega
      simp [this]
    clear hsp hs0
    go_enter Try.func7, Try.ntmps7
    go_wp2_with (first
      | (go_at_call 11; refine HSH.out.mono ?_; rintro e w1 ⟨rfl, hb⟩; have HS := Lib.hid ((St.emp w).below asn_emp hb); clear hb)
      | (go_at_call 12; with_reducible refine (new_st asn_emp HS.out).mono ?_; rintro e w2 ⟨p, rfl, hS⟩; have HS2 := Lib.hid hS; clear hS)
      | (go_at_call 12; with_reducible refine (new_st (asn_sep (asn_tx _ _) asn_emp) HS2.out).mono ?_; rintro e w3 ⟨q, rfl, hS⟩; have HS3 := Lib.hid hS.turn; clear hS)
      | (go_at_call 13; refine (HSZ.out _).mono ?_; rintro e w4 ⟨rfl, nq, rfl⟩; have HS4 := Lib.hid (HS3.out.drewN (asn_sep (asn_tx _ _) (asn_sep (asn_tx _ _) asn_emp)) nq)))
    go_ret
    exact ⟨rfl, HS4.out.bel⟩
end Go.Proofs.Ytehdjdediobemaa.PC
