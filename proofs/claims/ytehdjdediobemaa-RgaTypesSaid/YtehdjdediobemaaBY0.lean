/- A part of the proof of rgaTypes_holds: its texts, one behind the other, as far as the proof stands on them. (Lines of its texts on the printed words and functions began as lines that a program of the kit had written for this statement.) -/
import Derived.ArgAppend
import Derived.Below
import Derived.BigQuiet
import Derived.BigRegion
import Derived.ChangeMaps4
import Derived.ChangeMaps5
import Derived.Deep.AppendLies
import Derived.Deep.CutBlock
import Derived.Deep.CutRange
import Derived.Deep.DeepCutAuto
import Derived.Deep.DrawnRows
import Derived.Deep.Draws
import Derived.Deep.LoopGhost
import Derived.Deep.OwnRows
import Derived.Deep.QuietTactic
import Derived.Deep.RegionHeld3
import Derived.Deep.RegionLaw
import Derived.Deep.RegionWith
import Derived.KernelRfl
import Derived.Laws.BitsLemmas
import Derived.Laws.BytesArg
import Derived.Laws.CopyRow
import Derived.Laws.Cover4
import Derived.Laws.Externs
import Derived.Laws.IdiomCopy
import Derived.Laws.MakeOwn
import Derived.Laws.NewBlocks
import Derived.Laws.OwnMore
import Derived.Laws.Rows
import Derived.Laws.Slices
import Derived.Laws.StructEq
import Derived.Lib.AppendStr
import Derived.Lib.AppendZeros
import Derived.Lib.AppendZerosOnto
import Derived.Lib.ConvBytes
import Derived.Lib.Hide
import Derived.Lib.JoinLaws
import Derived.Lib.Overlaps
import Derived.Lib.Walk
import Derived.MapKept
import Derived.Maps.AppendAt
import Derived.OrdersHeld
import Derived.OwnWalk
import Derived.RegionTactic
import Derived.RowKit
import Derived.RowKit3
import Derived.StillTail
import Derived.StillTailTactics
import Derived.Tactics
import Derived.Test.YtehdjdediobemaaProg
import Derived.WalkKit
import Derived.WalkSpells
import Derived.WideLaws
import Derived.Test.YtehdjdediobemaaBT0
namespace Go.Proofs.Ytehdjdediobemaa.PC
open Go.RowKit Go.Proofs.YtehdjdediobemaaW.PrintWords Go.Proofs.YtehdjdediobemaaW.PrintLast Go.Proofs.YtehdjdediobemaaW.PrintMore Go.Proofs.Ytehdjdediobemaa.K Go.Proofs.Ytehdjdediobemaa.IX
attribute [local go_sem] max2_int min2_int max_two min_two max_three min_three max_four min_four
attribute [local go_sem high] eqA31
set_option linter.unusedVariables false
set_option linter.unusedSimpArgs false
theorem vec_calls (w : World) (F : List Nat) (p : Nat) (T : TS) (h : Tx w F p T) (hl : T.v.length ≤ 1000000) : Calls Try.prog 21 #[.pointer (some ⟨p, 0, none⟩)] w fun e w' => ∃ v, e = .returned v ∧ Kd.R k80 80 w' w.heap.size (fun _ => True) v T.v ∧ Below w.heap.size w w' := by
  obtain ⟨A1, c1, x, A2, c2, A3, c3, mb, FI, h0, h1, h2, h3, h4, h5, _, _, _, ⟨hc, hr⟩, _⟩ := h.read
  have K1 := Lib.hid (cloneE_calls w A3 c3 T.v hr hl)
  generalize T.v = l at *
  clear h hr h0 h1 h2 h4 h5
  go_enter Try.func21, Try.ntmps21
  go_wp2_with (go_at_call 48; refine K1.out.mono ?_; rintro e w' ⟨v, rfl, hr, hb⟩; have HO := Lib.hid hr; have HB := Lib.hid hb; clear hr hb)
  go_ret
  exact ⟨_, rfl, HO.out, HB.out⟩
end Go.Proofs.Ytehdjdediobemaa.PC
namespace Go.Proofs.Ytehdjdediobemaa.PC
open Go.RowKit Go.Proofs.YtehdjdediobemaaW.PrintWords Go.Proofs.YtehdjdediobemaaW.PrintLast Go.Proofs.YtehdjdediobemaaW.PrintMore Go.Proofs.Ytehdjdediobemaa.K Go.Proofs.Ytehdjdediobemaa.IX Go.Proofs.Ytehdjdediobemaa.I
set_option linter.unusedVariables false
set_option linter.unusedSimpArgs false
theorem vec_st {w0 w : World} {p : Nat} {T : TS} {B : As} (b : Asn B) (h : St w0 w (sep (isTx p T) B)) (hl : T.v.length ≤ 100000) : Calls Try.prog 21 #[.pointer (some ⟨p, 0, none⟩)] w fun e w' => ∃ A c, e = .returned (.slice A T.v.length c) ∧ St w0 w' (sep (isRow k80 80 (.slice A T.v.length c) T.v) (sep (isTx p T) B)) := by
  obtain ⟨F, ⟨FA, FB, h1, h2, rfl, hd⟩, hb, hn⟩ := id h
  refine (vec_calls w FA p T h1 (by omega)).mono ?_
  rintro e w' ⟨v, rfl, hr, hb2⟩
  obtain ⟨A, c, rfl⟩ := Kd.R_slice hr
  exact ⟨A, c, rfl, St.row rfl h (asn_sep (asn_tx p T) b) hb2 hr⟩
end Go.Proofs.Ytehdjdediobemaa.PC
namespace Go.Proofs.Ytehdjdediobemaa.PC
open Go.RowKit Go.Proofs.YtehdjdediobemaaW.PrintWords Go.Proofs.Ytehdjdediobemaa.K Go.Proofs.Ytehdjdediobemaa.IX Go.Proofs.Ytehdjdediobemaa.I
set_option linter.unusedVariables false
set_option linter.unusedSimpArgs false
/-- What the one types next; what the other one puts in at the front. -/
def typeOp (i n : Int) (ref : S31) (c : Int) : S34 := ⟨⟨2 * i + 1, 0⟩, n, true, ref, c⟩
def otherOp (i s : Int) (c : Int) : S34 := ⟨⟨2 * i + 2, 65536⟩, s, true, ⟨0, 0⟩, c⟩
def ascX : List S75 → Prop
  | [] => True
  | [_] => True
  | a :: b :: l => a.f0.f0 < b.f0.f0 ∧ ascX (b :: l)
/-- The text: others, what the one has typed, others. m bounds all counters. -/
structure TypesI (T : TS) (n : Nat) (m : Int) (ref : S31) (P A Q : List S75) : Prop where
  inv : ∃ F, Inv T F
  l : T.l = P ++ A ++ Q
  p : ∀ e ∈ P, e.f0.f1 = 65536
  q : ∀ e ∈ Q, e.f0.f1 = 65536
  a : ∀ e ∈ A, e.f0.f1 = 0
  asc : ascX A
  ref : (A = [] ∧ ref = ⟨0, 0⟩) ∨ ∃ A' e, A = A' ++ [e] ∧ e.f0 = ref
  alive : ∀ e ∈ T.l, e.f2 = true
  low : ∀ e ∈ T.l, e.f0.f0 ≤ m
  seq : I.sq (ens T.v) 0 = n
  last : T.last 0 ≤ m ∧ T.last 65536 ≤ m
  cnt : A.length = n
  seqb : 0 ≤ I.sq (ens T.v) 65536 ∧ I.sq (ens T.v) 65536 ≤ m
theorem types0 : TypesI T0 0 0 ⟨0, 0⟩ [] [] [] :=
  ⟨⟨_, inv0⟩, rfl, fun e h => (by cases h), fun e h => (by cases h), fun e h => (by cases h), trivial, .inl ⟨rfl, rfl⟩, fun e h => (by simp [T0] at h), fun e h => (by simp [T0] at h), rfl, ⟨Int.le_refl _, Int.le_refl _⟩, rfl, ⟨Int.le_refl _, Int.le_refl _⟩⟩
theorem ascX_snoc {A : List S75} {e : S75} (h : ascX A) (hl : ∀ x ∈ A, x.f0.f0 < e.f0.f0) : ascX (A ++ [e]) := by
  induction A with
  | nil => trivial
  | cons a A ih =>
    cases A with
    | nil => exact ⟨hl a (by simp), trivial⟩
    | cons b A => exact ⟨h.1, ih h.2 (fun x hx => hl x (by simp [hx]))⟩
/-- An operation that puts in with a counter above all: it is taken, and stands right behind its Ref. -/
theorem ins_next {T : TS} {F : Fo} (hi : Inv T F) {o : S34} {m : Int} (hlow : ∀ e ∈ T.l, e.f0.f0 ≤ m) (ho : m < o.f0.f0) (hr : rightS o) (hins : o.f2 = true) (hs : o.f1 = knownS T o + 1) (hl : T.last o.f0.f1 ≤ m) (X Y : List S75) (hXY : T.l = X ++ Y) (hp : (o.f3 = zid ∧ X = []) ∨ ∃ X' e, X = X' ++ [e] ∧ e.f0 = o.f3) :
    putT T o = ((true, 0), takeS T o) ∧ (takeS T o).l = X ++ elOf o :: Y := by
  have hpl : (placeS T.l o.f3 + 1).toNat = X.length ∧ (0 ≤ placeS T.l o.f3 ∨ o.f3 = zid) := by
    rcases hp with ⟨hz, rfl⟩ | ⟨X', e, rfl, he⟩
    · have h1 : ¬ 0 ≤ placeS T.l o.f3 := fun k => hi.zid_no (hz ▸ (hi.place _).1 k)
      exact ⟨by simp; omega, .inr hz⟩
    · have hn : (T.l.map (·.f0)).Nodup := by rw [hi.lids]; exact hi.nodup
      have h2 : placeS T.l o.f3 = X'.length := by
        rw [hXY, List.append_assoc, List.singleton_append, ← he]
        refine placeS_at X' Y e e.f0 (fun y hy => ?_) (idq_self _)
        rw [idq_no]
        intro hq
        rw [hXY, List.append_assoc, List.singleton_append, List.map_append, List.map_cons, List.nodup_append] at hn
        exact hn.2.2 _ (List.mem_map.2 ⟨y, hy, rfl⟩) _ List.mem_cons_self hq
      rw [h2]
      refine ⟨?_, .inl (by omega)⟩
      rw [List.length_append, List.length_singleton]
      omega
  have href : refS T o = none := by
    unfold refS
    rw [if_neg (fun k => k hr), if_neg (by omega), if_neg, if_neg (by omega)]
    rintro (k | ⟨k1, k2⟩)
    · omega
    · rcases hpl.2 with q | q
      · omega
      · rw [q, idq_self] at k2; cases k2
  refine ⟨by unfold putT; rw [href], ?_⟩
  unfold takeS
  rw [if_pos hins, hpl.1]
  show insT T.l (skT T.l X.length o) o = _
  unfold skT
  rw [hXY, List.drop_left' rfl, skip_zero _ _ (fun e he => by have := hlow e (by rw [hXY]; simp [he]); omega), Nat.add_zero]
  unfold insT
  rw [List.take_left' rfl, List.drop_left' rfl]
  simp
theorem TypesI.mono {T : TS} {n : Nat} {m m' : Int} {ref : S31} {P A Q : List S75} (h : TypesI T n m ref P A Q) (hm : m ≤ m') : TypesI T n m' ref P A Q :=
  ⟨h.inv, h.l, h.p, h.q, h.a, h.asc, h.ref, h.alive, fun e he => Int.le_trans (h.low e he) hm, h.seq, ⟨Int.le_trans h.last.1 hm, Int.le_trans h.last.2 hm⟩, h.cnt, ⟨h.seqb.1, Int.le_trans h.seqb.2 hm⟩⟩
theorem el_id {T : TS} {F : Fo} (hi : Inv T F) {e : S75} (he : e ∈ T.l) : idP e.f0.f0 e.f0.f1 := by
  rw [hi.l] at he
  obtain ⟨x, hx, rfl⟩ := List.mem_map.1 he
  exact (hi.right x ((hi.mem x).1 hx).1).1
theorem take_vec {T : TS} {F : Fo} (hi : Inv T F) {o : S34} (ho : rightS o) (hs : o.f1 = knownS T o + 1) (a b : Int) (hb : o.f0.f1 = b) : I.sq (ens (takeS T o).v) a = if a = b then o.f1 else I.sq (ens T.v) a := by
  subst hb
  show I.sq (ens (wtS T.v o.f0.f1 o.f1)) a = _
  rw [wtS_eq hi.upS, wt_sq hi.vec (by have := ho.2.1; omega)]
  split
  · rename_i e
    unfold knownS at hs
    omega
  · rfl
theorem types_a {T : TS} {n i : Nat} {m : Int} {ref : S31} {P A Q : List S75} (h : TypesI T n m ref P A Q) (hn : n ≤ i) (hi30 : i < 1000) (hm0 : 0 ≤ m) (hm : m ≤ 2 * (i : Int)) {c : Int} (hc : chP c) :
    putT T (typeOp i (n + 1) ref c) = ((true, 0), takeS T (typeOp i (n + 1) ref c)) ∧ ∃ P' A' Q', TypesI (takeS T (typeOp i (n + 1) ref c)) (n + 1) (2 * (i : Int) + 1) ⟨2 * i + 1, 0⟩ P' A' Q' := by
  obtain ⟨F, hi⟩ := h.inv
  have href : ref.f0 ≤ m ∧ (idP ref.f0 ref.f1 ∨ (ref.f0 = 0 ∧ ref.f1 = 0)) := by
    rcases h.ref with ⟨_, rfl⟩ | ⟨A', e, hA, rfl⟩
    · exact ⟨hm0, .inr ⟨rfl, rfl⟩⟩
    · have he : e ∈ T.l := by rw [h.l, hA]; simp
      exact ⟨h.low e he, .inl (el_id hi he)⟩
  have hr : rightS (typeOp i (n + 1) ref c) := by
    refine ⟨⟨?_, ?_, ?_, ?_⟩, ?_, ?_, ?_, .inl ⟨rfl, href.2, hc⟩⟩
    · show (1 : Int) ≤ 2 * i + 1; omega
    · show 2 * (i : Int) + 1 ≤ 4294967295; omega
    · show (0 : Int) ≤ 0; omega
    · show (0 : Int) ≤ 4194303; omega
    · show (1 : Int) ≤ n + 1; omega
    · show (n : Int) + 1 ≤ 4294967295; omega
    · show ref.f0 < 2 * (i : Int) + 1; omega
  have hs : (typeOp i (n + 1) ref c).f1 = knownS T (typeOp i (n + 1) ref c) + 1 := by
    show (n : Int) + 1 = I.sq (ens T.v) 0 + 1
    rw [h.seq]
  have hXY : ∃ P' A' Q', T.l = P' ++ A' ++ Q' ∧ (∀ e ∈ P', e.f0.f1 = 65536) ∧ (∀ e ∈ Q', e.f0.f1 = 65536) ∧ (∀ e ∈ A', e.f0.f1 = 0) ∧ ascX A' ∧ A'.length = n ∧ (((typeOp i (n + 1) ref c).f3 = zid ∧ P' ++ A' = []) ∨ ∃ X' e, P' ++ A' = X' ++ [e] ∧ e.f0 = (typeOp i (n + 1) ref c).f3) := by
    rcases h.ref with ⟨hA, hz⟩ | ⟨A', e, hA, he⟩
    · refine ⟨[], [], P ++ Q, ?_, fun e h => (by cases h), fun e he => ?_, fun e h => (by cases h), trivial, ?_, .inl ⟨hz, rfl⟩⟩
      · rw [h.l, hA]; simp
      · rcases List.mem_append.1 he with k | k
        · exact h.p e k
        · exact h.q e k
      · rw [← h.cnt, hA]
    · exact ⟨P, A, Q, h.l, h.p, h.q, h.a, h.asc, h.cnt, .inr ⟨P ++ A', e, by rw [hA, List.append_assoc], he⟩⟩
  obtain ⟨P', A', Q', e1, e2, e3, e4, e5, e6, e7⟩ := hXY
  obtain ⟨k1, k2⟩ := ins_next hi (o := typeOp i (n + 1) ref c) (m := m) h.low (by show m < 2 * (i : Int) + 1; omega) hr rfl hs h.last.1 (P' ++ A') Q' e1 e7
  refine ⟨k1, P', A' ++ [elOf (typeOp i (n + 1) ref c)], Q', ?_, ?_, e2, e3, ?_, ?_, .inr ⟨A', _, rfl, rfl⟩, ?_, ?_, ?_, ?_, ?_, ?_⟩
  · have := inv_put hi (typeOp i (n + 1) ref c)
    rw [k1] at this
    exact this
  · rw [k2]; simp
  · intro e he
    rcases List.mem_append.1 he with q | q
    · exact e4 e q
    · rw [List.mem_singleton.1 q]; rfl
  · exact ascX_snoc e5 (fun x hx => by have := h.low x (by rw [e1]; simp [hx]); show x.f0.f0 < 2 * (i : Int) + 1; omega)
  · intro e he
    rw [k2] at he
    rcases List.mem_append.1 he with q | q
    · exact h.alive e (by rw [e1]; exact List.mem_append_left _ q)
    · rcases List.mem_cons.1 q with rfl | q
      · rfl
      · exact h.alive e (by rw [e1]; exact List.mem_append_right _ q)
  · intro e he
    rw [k2] at he
    rcases List.mem_append.1 he with q | q
    · have := h.low e (by rw [e1]; exact List.mem_append_left _ q); omega
    · rcases List.mem_cons.1 q with rfl | q
      · show 2 * (i : Int) + 1 ≤ 2 * (i : Int) + 1; omega
      · have := h.low e (by rw [e1]; exact List.mem_append_right _ q); omega
  · rw [take_vec hi hr hs 0 0 rfl, if_pos rfl]
    show (n : Int) + 1 = ((n + 1 : Nat) : Int)
    omega
  · have h1 := h.last
    refine ⟨?_, ?_⟩
    · show upd T.last 0 (2 * (i : Int) + 1) 0 ≤ _
      unfold upd; rw [if_pos rfl]; exact Int.le_refl _
    · show upd T.last 0 (2 * (i : Int) + 1) 65536 ≤ _
      unfold upd; rw [if_neg (by decide)]; omega
  · rw [List.length_append, e6]; rfl
  · rw [take_vec hi hr hs 65536 0 rfl, if_neg (by decide)]
    have := h.seqb
    omega
theorem types_b {T : TS} {n i : Nat} {m : Int} {ref : S31} {P A Q : List S75} (h : TypesI T n m ref P A Q) (hi30 : i < 1000) (hm : m ≤ 2 * (i : Int) + 1) {c : Int} (hc : chP c) :
    putT T (otherOp i (I.sq (ens T.v) 65536 + 1) c) = ((true, 0), takeS T (otherOp i (I.sq (ens T.v) 65536 + 1) c)) ∧ TypesI (takeS T (otherOp i (I.sq (ens T.v) 65536 + 1) c)) n (2 * (i : Int) + 2) ref (elOf (otherOp i (I.sq (ens T.v) 65536 + 1) c) :: P) A Q := by
  obtain ⟨F, hi⟩ := h.inv
  have hsb := h.seqb
  have hr : rightS (otherOp i (I.sq (ens T.v) 65536 + 1) c) := by
    refine ⟨⟨?_, ?_, ?_, ?_⟩, ?_, ?_, ?_, .inl ⟨rfl, .inr ⟨rfl, rfl⟩, hc⟩⟩
    · show (1 : Int) ≤ 2 * i + 2; omega
    · show 2 * (i : Int) + 2 ≤ 4294967295; omega
    · show (0 : Int) ≤ 65536; omega
    · show (65536 : Int) ≤ 4194303; omega
    · show (1 : Int) ≤ I.sq (ens T.v) 65536 + 1; omega
    · show I.sq (ens T.v) 65536 + 1 ≤ 4294967295; omega
    · show (0 : Int) < 2 * (i : Int) + 2; omega
  have hs : (otherOp i (I.sq (ens T.v) 65536 + 1) c).f1 = knownS T (otherOp i (I.sq (ens T.v) 65536 + 1) c) + 1 := rfl
  obtain ⟨k1, k2⟩ := ins_next hi (o := otherOp i (I.sq (ens T.v) 65536 + 1) c) (m := m) h.low (by show m < 2 * (i : Int) + 2; omega) hr rfl hs h.last.2 [] T.l rfl (.inl ⟨rfl, rfl⟩)
  rw [List.nil_append] at k2
  refine ⟨k1, ?_, ?_, ?_, h.q, h.a, h.asc, h.ref, ?_, ?_, ?_, ?_, h.cnt, ?_⟩
  · have := inv_put hi (otherOp i (I.sq (ens T.v) 65536 + 1) c)
    rw [k1] at this
    exact this
  · rw [k2, h.l]; rfl
  · intro e he
    rcases List.mem_cons.1 he with rfl | q
    · rfl
    · exact h.p e q
  · intro e he
    rw [k2] at he
    rcases List.mem_cons.1 he with rfl | q
    · rfl
    · exact h.alive e q
  · intro e he
    rw [k2] at he
    rcases List.mem_cons.1 he with rfl | q
    · show 2 * (i : Int) + 2 ≤ 2 * (i : Int) + 2; omega
    · have := h.low e q; omega
  · rw [take_vec hi hr hs 0 65536 rfl, if_neg (by decide)]
    exact h.seq
  · have h1 := h.last
    refine ⟨?_, ?_⟩
    · show upd T.last 65536 (2 * (i : Int) + 2) 0 ≤ _
      unfold upd; rw [if_neg (by decide)]; omega
    · show upd T.last 65536 (2 * (i : Int) + 2) 65536 ≤ _
      unfold upd; rw [if_pos rfl]; exact Int.le_refl _
  · rw [take_vec hi hr hs 65536 65536 rfl, if_pos rfl]
    show 0 ≤ I.sq (ens T.v) 65536 + 1 ∧ I.sq (ens T.v) 65536 + 1 ≤ _
    omega
end Go.Proofs.Ytehdjdediobemaa.PC
namespace Go.Proofs.Ytehdjdediobemaa.PC
open Go.RowKit Go.Proofs.YtehdjdediobemaaW.PrintWords Go.Proofs.Ytehdjdediobemaa.K Go.Proofs.Ytehdjdediobemaa.IX Go.Proofs.Ytehdjdediobemaa.I
set_option linter.unusedVariables false
set_option linter.unusedSimpArgs false
theorem ascX_at {A : List S75} (h : ascX A) (i : Nat) (hi : i + 1 < A.length) : (A[i]'(by omega)).f0.f0 < A[i + 1].f0.f0 := by
  induction A generalizing i with
  | nil => simp at hi
  | cons a A ih =>
    cases A with
    | nil => simp at hi
    | cons b A =>
      cases i with
      | zero => exact h.1
      | succ i => exact ih h.2 i (by simpa using hi)
/-- Who stands where: of n in the midst, others ahead and behind. -/
theorem types_end {T : TS} {n : Nat} {m : Int} {ref : S31} {P A Q : List S75} (h : TypesI T n m ref P A Q) : idsS (fun e : S75 => e.f2) T.l = T.l.map (·.f0) ∧ P.length + n ≤ T.l.length ∧
    ∀ i (hi : i < T.l.length), (i < P.length → T.l[i].f0.f1 = 65536) ∧ (P.length ≤ i → i < P.length + n → T.l[i].f0.f1 = 0) ∧ (P.length + n ≤ i → T.l[i].f0.f1 = 65536) ∧ (∀ h1 : P.length < i, i < P.length + n → (T.l[i - 1]'(by omega)).f0.f0 < T.l[i].f0.f0) := by
  have hl := h.l
  have hc := h.cnt
  refine ⟨?_, ?_, fun i hi => ⟨fun k => ?_, fun k1 k2 => ?_, fun k => ?_, fun k1 k2 => ?_⟩⟩
  · unfold idsS
    rw [List.filter_eq_self.2 (fun e he => h.alive e he)]
  · rw [hl]; simp; omega
  · simp only [hl]
    rw [List.getElem_append_left (by simp; omega), List.getElem_append_left k]
    exact h.p _ (List.getElem_mem k)
  · simp only [hl]
    rw [List.getElem_append_left (by simp; omega), List.getElem_append_right k1]
    exact h.a _ (List.getElem_mem _)
  · simp only [hl]
    rw [List.getElem_append_right (by simp; omega)]
    exact h.q _ (List.getElem_mem _)
  · simp only [hl]
    rw [List.getElem_append_left (by simp; omega), List.getElem_append_right (by omega), List.getElem_append_left (by simp; omega), List.getElem_append_right (by omega)]
    have := ascX_at h.asc (i - 1 - P.length) (by omega)
    have e : i - P.length = i - 1 - P.length + 1 := by omega
    simp only [e]
    exact this
theorem seq12_f (l : List S80) (a : Int) (hl : l.length ≤ 1000000) : foolscapref12_Seq.f (l.length + 1) l a = some (I.sq (ens l) a) := by
  unfold foolscapref12_Seq.f
  have key : ∀ (m i : Nat), i + m = l.length → foolscapref12_Seq.l0 (m + 1) l a (i : Int) = some (I.sq (ens (l.drop i)) a) := by
    intro m
    induction m with
    | zero =>
      intro i hi
      simp only [foolscapref12_Seq.l0]
      rw [if_neg (by omega), List.drop_of_length_le (by omega)]
      rfl
    | succ m ih =>
      intro i hi
      have hil : i < l.length := by omega
      have hrd : rd_T80 l (i : Int) = l[i] := by unfold rd_T80; simp [hil]
      rw [foolscapref12_Seq.l0, if_pos (by omega), if_pos (by omega), hrd, List.drop_eq_getElem_cons hil]
      show _ = some (if l[i].f0 = a then l[i].f1 else I.sq (ens (l.drop (i + 1))) a)
      by_cases hq : l[i].f0 = a
      · rw [if_pos hq, if_pos hq]
      · rw [if_neg hq, if_neg hq, wrap_n i (by omega)]
        exact ih (i + 1) (by omega)
  exact key l.length 0 (by omega)
theorem seq12_is {w : World} {A : Option Addr} {c : Nat} {l : List S80} (h1 : Kd.C k80 w A l.length l) (hc : l.length ≤ c) (hl : l.length ≤ 1000000) (a : Int) : Calls Try.prog 20 #[.slice A l.length c, .int .i64 a] w fun e w' => e = .returned (.int .i64 (I.sq (ens l) a)) ∧ ∃ n, w' = w.drewN n :=
  (foolscapref12_Seq.calls _ A c l a _ w h1 hc (seq12_f l a hl)).mono fun _ _ h => ⟨h.1, h.2.out⟩
/-- A block of two, written anew. -/
theorem St.set2 {w0 w : World} {b t : Nat} {x y u v : Value} {B : As} (hB : Asn B) (h : St w0 w (sep (isBlk b (.cells #[x, y] t (0, 0))) B)) : St w0 ((w.setCell ⟨b, 0, none⟩ u).setCell ⟨b, 1, none⟩ v) (sep (isBlk b (.cells #[u, v] t (0, 0))) B) := by
  obtain ⟨F, ⟨FA, FB, ⟨h1, rfl⟩, h2, rfl, hd⟩, hb, hn⟩ := h
  have hf : Fr [b] w ((w.setCell ⟨b, 0, none⟩ u).setCell ⟨b, 1, none⟩ v) := (Fr.of_set (F := [b]) w ⟨b, 0, none⟩ u (by simp)).trans (Fr.of_set (F := [b]) _ ⟨b, 1, none⟩ v (by simp)) (fun _ h => .inl h)
  refine St.upd (A := isBlk b (.cells #[x, y] t (0, 0))) (F' := [b]) hB (fun k m => hn k (List.mem_append_left _ m)) h2 hd hb (fun k m => hn k (by simp [m])) hf ⟨?_, rfl⟩ (fun k hk => .inl hk)
  exact (heap_set _ b 1 v (heap_set w b 0 u h1)).trans rfl
end Go.Proofs.Ytehdjdediobemaa.PC
namespace Go.Proofs.Ytehdjdediobemaa.PC
open Go.RowKit Go.Proofs.YtehdjdediobemaaW.PrintWords Go.Proofs.YtehdjdediobemaaW.PrintLast Go.Proofs.YtehdjdediobemaaW.PrintMore Go.Proofs.Ytehdjdediobemaa.K Go.Proofs.Ytehdjdediobemaa.IX Go.Proofs.Ytehdjdediobemaa.I
attribute [local go_sem] max2_int min2_int max_two min_two max_three min_three max_four min_four
attribute [local go_sem high] eqA31
set_option linter.unusedVariables false
set_option linter.unusedSimpArgs false
theorem cell_runeT {w wr : World} {A : Option Addr} {l : List Int} (h : Kd.C (Kd.int .i32) w A l.length l) (hb : Below w.heap.size w wr) (i : Nat) (hi : i < l.length) : ∃ ad, A = some ad ∧ wr.cell? (ad.add i) = some (.int .i32 l[i]) := by
  obtain ⟨ad, e, hc⟩ := h.2.2 (by omega)
  obtain ⟨c, _, hk, hcell⟩ := hc i l[i] (List.getElem?_eq_getElem hi)
  have hk : c = [Value.int .i32 l[i]] := hk
  subst hk
  have h0 := hcell 0 _ rfl
  have h0 : w.cell? (ad.add i) = some (.int .i32 l[i]) := by
    have e2 : i * (Kd.int .i32).sz + 0 = i := by show i * 1 + 0 = i; omega
    rw [e2] at h0; exact h0
  exact ⟨ad, e, (hb.cell (World.block_lt_of_cell? w _ h0)).trans h0⟩
/-- The state of the loop: the text; the block of the last ID typed. -/
def TypS (w wr : World) (p rb n : Nat) (m : Int) : Prop := ∃ T ref P A Q, TypesI T n m ref P A Q ∧ (T.ops.length : Int) ≤ m ∧ St w wr (sep (isTx p T) (sep (isBlk rb (.cells #[.int .i64 ref.f0, .int .i64 ref.f1] 31 (0, 0))) emp))
theorem TypS.mono {w wr : World} {p rb n : Nat} {m m' : Int} (h : TypS w wr p rb n m) (hm : m ≤ m') : TypS w wr p rb n m' := by
  obtain ⟨T, ref, P, A, Q, h1, h3, h2⟩ := h
  exact ⟨T, ref, P, A, Q, h1.mono hm, Int.le_trans h3 hm, h2⟩
set_option maxHeartbeats 4000000 in
set_option maxRecDepth 100000 in
theorem types_row (A0 : Option Addr) (cap0 : Nat) (a : List Int) (A1 : Option Addr) (cap1 : Nat) (b : List Int) (w : World) (hr0 : Kd.C (Kd.int .i32) w A0 a.length a) (hc0 : a.length ≤ cap0) (hy0 : a.length * 4 ≤ 140737488351232) (hg0 : ∀ y ∈ a, (Lit.int .i32 y).wf = true)
    (hr1 : Kd.C (Kd.int .i32) w A1 b.length b) (hc1 : b.length ≤ cap1) (hy1 : b.length * 4 ≤ 140737488351232) (hg1 : ∀ y ∈ b, (Lit.int .i32 y).wf = true) :
    Calls Try.prog 5 #[.slice A0 a.length cap0, .slice A1 b.length cap1] w fun e w' => e = .returned (.bool true) ∧ Below w.heap.size w w' := by
  have HRA := Lib.hid hr0
  have HRB := Lib.hid hr1
  obtain ⟨la, hla⟩ : ∃ la, a.length = la := ⟨_, rfl⟩
  obtain ⟨lb, hlb⟩ : ∃ lb, b.length = lb := ⟨_, rfl⟩
  have HLA := Lib.hid hla
  have HLB := Lib.hid hlb
  rw [hla, hlb]
  rw [hla] at hc0 hy0
  rw [hlb] at hc1 hy1
  have hl0 : la ≤ 140737488351232 := by omega
  have hl1 : lb ≤ 140737488351232 := by omega
  have HSH := Lib.hid (shown14_calls w)
  clear hr0 hr1 hg0 hg1 hy0 hy1 hla hlb
  go_enter Try.func5, Try.ntmps5
  go_wp2_with (first
    | (go_at_call 11; refine HSH.out.mono ?_; rintro e w1 ⟨rfl, hb⟩; have HS := Lib.hid ((St.emp w).below asn_emp hb); clear hb)
    | (go_at_call 12; refine (new_st asn_emp HS.out).mono ?_; rintro e w2 ⟨p, rfl, hS⟩; have HS := Lib.hid (show TypS w _ p w2.heap.size 0 0 from ⟨T0, ⟨0, 0⟩, [], [], [], types0, Int.le_refl _, (hS.mkblk (asn_sep (asn_tx _ _) asn_emp) (.cells #[.int .i64 0, .int .i64 0] 31 (0, 0))).turn⟩); clear hS))
  go_loopg [8, 9] 30 (fun kq v8 v9 wr => ∃ (i n : Nat), v9 = .int .i64 (i : Int) ∧ v8 = .int .i64 (n : Int) ∧ Aside0 (kq + i = 30 ∧ n ≤ i ∧ TypS w wr p w2.heap.size n (2 * (i : Int))))
  case atStart => exact ⟨0, 0, rfl, rfl, rfl, Nat.le_refl _, HS.out⟩
  case round =>
    obtain ⟨i, n, rfl, rfl, HI⟩ := hrel
    have hki := HI.out.1
    have hni := HI.out.2.1
    have HT := Lib.hid HI.out.2.2
    by_cases hlt : i < 30
    · have hd0 : decide ((i : Int) < 30) = true := by simp; omega
      have hw2 : IntKind.i64.wrap (2 * (i : Int)) = 2 * (i : Int) := by rw [IntKind.wrap_i64]; omega
      have hw3 : IntKind.i64.wrap (2 * (i : Int) + 1) = 2 * (i : Int) + 1 := by rw [IntKind.wrap_i64]; omega
      have hw4 : IntKind.i64.wrap (2 * (i : Int) + 2) = 2 * (i : Int) + 2 := by rw [IntKind.wrap_i64]; omega
      have hw5 : IntKind.i64.wrap ((n : Int) + 1) = (n : Int) + 1 := by rw [IntKind.wrap_i64]; omega
      go_upto_region 10 with fail
      go_cut [44] from 33 to 43 (fun v44 wx => ∃ bb : Bool, v44 = .bool bb ∧ Aside0 ((bb = true → i < la ∧ ∃ h : i < a.length, chP a[i]) ∧ TypS w wx p w2.heap.size n (2 * (i : Int))))
      case first =>
        by_cases hia : i < la
        · have hia2 : i < a.length := by rw [HLA.out]; exact hia
          obtain ⟨T, ref, P, A, Q, hTI, hol, hS⟩ := HT.out
          obtain ⟨ad, rfl, c0⟩ := cell_runeT HRA.out hS.bel i hia2
          have HCH := Lib.hid (show chP a[i] → i < la ∧ ∃ h : i < a.length, chP a[i] from fun k => ⟨hia, hia2, k⟩)
          have hsz := sizS_pos a[i]
          have K0 := Lib.hid (fun W => size_is W a[i])
          generalize a[i] = ch at c0 HCH hsz K0
          have hd1 : decide (i < la) = true := by simpa using hia
          generalize sizS ch = s at K0 hsz
          have HFF := Lib.hid (show ∀ W, St w W (sep (isTx p T) (sep (isBlk w2.heap.size (.cells #[.int .i64 ref.f0, .int .i64 ref.f1] 31 (0, 0))) emp)) → TypS w W p w2.heap.size n (2 * (i : Int)) from fun W h => ⟨T, ref, P, A, Q, hTI, hol, h⟩)
          have HSW := Lib.hid hS
          have HSZ := Lib.hid hsz
          clear hTI hS hol hsz
          by_cases hs1 : 0 < s
          · have hb1 : decide (0 < s) = true := by simpa using hs1
            have HCQ := Lib.hid (HCH.out (HSZ.out.1 hs1))
            clear hs1
            go_wp2_with (go_at_call 13; refine (K0.out _).mono ?_; rintro e w3 ⟨rfl, n3, hw3'⟩; have HS3 := Lib.hid (show St w w3 _ from (hw3' ▸ HSW.out.drewN (asn_sep (asn_tx _ _) (asn_sep (asn_blk _ _) asn_emp)) n3)); clear hw3')
            go_meet
            exact ⟨true, rfl, ⟨fun _ => HCQ.out, HFF.out _ HS3.out⟩⟩
          · have hb1 : decide (0 < s) = false := by simpa using hs1
            clear hs1
            go_wp2_with (go_at_call 13; refine (K0.out _).mono ?_; rintro e w3 ⟨rfl, n3, hw3'⟩; have HS3 := Lib.hid (show St w w3 _ from (hw3' ▸ HSW.out.drewN (asn_sep (asn_tx _ _) (asn_sep (asn_blk _ _) asn_emp)) n3)); clear hw3')
            go_meet
            exact ⟨false, rfl, ⟨fun k => (by cases k), HFF.out _ HS3.out⟩⟩
        · have hd1 : decide (i < la) = false := by simpa using hia
          go_wp2
          go_meet
          exact ⟨false, rfl, ⟨fun k => (by cases k), HT.out⟩⟩
      case rest =>
      obtain ⟨W3, rfl⟩ : ∃ W3 : World, W3 = wc := ⟨_, rfl⟩
      obtain ⟨bb, rfl, HC⟩ := hcut
      go_upto_if 44 with fail
      go_cut [8, 10, 11, 12] from 45 to 66 (fun v8 v10 v11 v12 wx => ∃ n' : Nat, v8 = .int .i64 (n' : Int) ∧ Aside0 (n' ≤ i + 1 ∧ TypS w wx p w2.heap.size n' (2 * (i : Int) + 1)))
      case first =>
        cases bb with
        | true =>
          obtain ⟨⟨hia, hia2, hch⟩, hTS⟩ : (i < la ∧ ∃ h : i < a.length, chP a[i]) ∧ TypS w W3 p w2.heap.size n (2 * (i : Int)) := ⟨HC.out.1 rfl, HC.out.2⟩
          obtain ⟨T, ref, P, A, Q, hTI, hol, hS⟩ := hTS
          obtain ⟨ad, rfl, c0⟩ := cell_runeT HRA.out hS.bel i hia2
          have HCG := Lib.hid (fun W (hb : Below w.heap.size w W) => show W.cell? (ad.add i) = some (.int .i32 a[i]) from by
            obtain ⟨ad2, e2, c2⟩ := cell_runeT HRA.out hb i hia2
            injection e2 with e2
            rw [e2]; exact c2)
          generalize a[i] = ch at c0 HCG hch
          have AB := Lib.hid (fun r0 r1 : Int => asn_sep (asn_blk w2.heap.size (.cells #[.int .i64 r0, .int .i64 r1] 31 (0, 0))) asn_emp)
          obtain ⟨e1, hTI'⟩ := types_a hTI hni (by omega) (by omega) (Int.le_refl _) hch
          obtain ⟨Fo', hI⟩ := hTI.inv
          obtain ⟨r0, r1⟩ := ref
          have K1 := Lib.hid (fun W B (b : Asn B) (h : St w W (sep (isTx p T) B)) => put_named e1 hI (by omega) b h)
          have HL2 := Lib.hid (show ((takeS T (typeOp i (n + 1) ⟨r0, r1⟩ ch)).ops.length : Int) ≤ 2 * (i : Int) + 1 from by
            have := putT_len T (typeOp i (n + 1) ⟨r0, r1⟩ ch)
            rw [e1] at this
            have this : (takeS T (typeOp i (n + 1) ⟨r0, r1⟩ ch)).ops.length ≤ T.ops.length + 1 := this
            omega)
          have HTI' := Lib.hid hTI'
          generalize takeS T (typeOp i (n + 1) ⟨r0, r1⟩ ch) = T' at K1 HL2 HTI' hTI'
          unfold opV typeOp at K1
          have HSW := Lib.hid hS
          clear hTI hTI' hS e1 hI hol
          go_wp2_with (go_at_call 15; refine (id_is _ _ _).mono ?_; rintro e w4 ⟨rfl, hb⟩; have HS4 := Lib.hid ((HSW.out.below (asn_sep (asn_tx _ _) (AB.out _ _)) hb).mkblk (asn_sep (asn_tx _ _) (AB.out _ _)) (.cells #[.int .i64 (2 * (i : Int) + 1), .int .i64 0] 31 (0, 0))).turn; clear hb)
          have AX := Lib.hid (asn_sep (asn_blk w4.heap.size (.cells #[.int .i64 (2 * (i : Int) + 1), .int .i64 0] 31 (0, 0))) (AB.out r0 r1))
          have HS4d := Lib.hid (HS4.out.drew (asn_sep (asn_tx p T) AX.out))
          have HCC := Lib.hid (fun W C (h : St w W (sep C (sep (isBlk w4.heap.size (.cells #[.int .i64 (2 * (i : Int) + 1), .int .i64 0] 31 (0, 0))) (sep (isBlk w2.heap.size (.cells #[.int .i64 r0, .int .i64 r1] 31 (0, 0))) emp)))) => show (W.cell? ⟨w4.heap.size, 0, none⟩ = some (.int .i64 (2 * (i : Int) + 1)) ∧ W.cell? ⟨w4.heap.size, 1, none⟩ = some (.int .i64 0) ∧ W.cell? ⟨w2.heap.size, 0, none⟩ = some (.int .i64 r0) ∧ W.cell? ⟨w2.heap.size, 1, none⟩ = some (.int .i64 r1) ∧ W.cell? (ad.add i) = some (.int .i32 ch)) from by
            have hx := h.snd.blk
            have hy := h.snd.snd.blk
            exact ⟨(cell_of hx 0).trans rfl, (cell_of hx 1).trans rfl, (cell_of hy 0).trans rfl, (cell_of hy 1).trans rfl, HCG.out W h.bel⟩)
          go_region_held3 (fun W => W.cell? ⟨w4.heap.size, 0, none⟩ = some (.int .i64 (2 * (i : Int) + 1)) ∧ W.cell? ⟨w4.heap.size, 1, none⟩ = some (.int .i64 0) ∧ W.cell? ⟨w2.heap.size, 0, none⟩ = some (.int .i64 r0) ∧ W.cell? ⟨w2.heap.size, 1, none⟩ = some (.int .i64 r1) ∧ W.cell? (ad.add i) = some (.int .i32 ch)) ((first | exact HCC.out _ _ HS4d.out | exact HCC.out _ _ HS5.out)) (first
            | (go_at_call 14; with_reducible refine (K1.out _ _ AX.out HS4d.out).mono ?_; rintro e w5 ⟨rfl, hS5⟩; have HS5 := Lib.hid hS5; clear hS5))
          obtain ⟨x0, x1, y0, y1, _⟩ := HCC.out _ _ HS5.out
          have yf := free_of HS5.out.snd.snd.blk
          have HS6 := Lib.hid ((HS5.out.turn.snd.turn.set2 (asn_sep (asn_tx p T') asn_emp) (u := .int .i64 (2 * (i : Int) + 1)) (v := .int .i64 0)).turn)
          go_wp2
          go_meet
          obtain ⟨P', A', Q', hT'⟩ := HTI'.out
          exact ⟨n + 1, by go_num, ⟨by omega, T', ⟨2 * (i : Int) + 1, 0⟩, P', A', Q', hT', HL2.out, HS6.out⟩⟩
        | false =>
          have hTS := HC.out.2
          go_wp2
          go_meet
          exact ⟨n, rfl, ⟨by omega, hTS.mono (by omega)⟩⟩
      case rest =>
      obtain ⟨W9, rfl⟩ : ∃ W9 : World, W9 = wc := ⟨_, rfl⟩
      obtain ⟨n', rfl, HC2⟩ := hcut
      have hn' := HC2.out.1
      have HT2 := Lib.hid HC2.out.2
      clear HC HT HC2
      go_upto_region 17 with fail
      go_cut [78] from 67 to 77 (fun v78 wx => ∃ bb : Bool, v78 = .bool bb ∧ Aside0 ((bb = true → i < lb ∧ ∃ h : i < b.length, chP b[i]) ∧ TypS w wx p w2.heap.size n' (2 * (i : Int) + 1)))
      case first =>
        by_cases hia : i < lb
        · have hia2 : i < b.length := by rw [HLB.out]; exact hia
          obtain ⟨T, ref, P, A, Q, hTI, hol, hS⟩ := HT2.out
          obtain ⟨ad, rfl, c0⟩ := cell_runeT HRB.out hS.bel i hia2
          have HCH := Lib.hid (show chP b[i] → i < lb ∧ ∃ h : i < b.length, chP b[i] from fun k => ⟨hia, hia2, k⟩)
          have hsz := sizS_pos b[i]
          have K0 := Lib.hid (fun W => size_is W b[i])
          generalize b[i] = ch at c0 HCH hsz K0
          have hd1 : decide (i < lb) = true := by simpa using hia
          generalize sizS ch = s at K0 hsz
          have HFF := Lib.hid (show ∀ W, St w W (sep (isTx p T) (sep (isBlk w2.heap.size (.cells #[.int .i64 ref.f0, .int .i64 ref.f1] 31 (0, 0))) emp)) → TypS w W p w2.heap.size n' (2 * (i : Int) + 1) from fun W h => ⟨T, ref, P, A, Q, hTI, hol, h⟩)
          have HSW := Lib.hid hS
          have HSZ := Lib.hid hsz
          clear hTI hS hol hsz
          by_cases hs1 : 0 < s
          · have hb1 : decide (0 < s) = true := by simpa using hs1
            have HCQ := Lib.hid (HCH.out (HSZ.out.1 hs1))
            clear hs1
            go_wp2_with (go_at_call 13; refine (K0.out _).mono ?_; rintro e w3 ⟨rfl, n3, hw3'⟩; have HS3 := Lib.hid (show St w w3 _ from (hw3' ▸ HSW.out.drewN (asn_sep (asn_tx _ _) (asn_sep (asn_blk _ _) asn_emp)) n3)); clear hw3')
            go_meet
            exact ⟨true, rfl, ⟨fun _ => HCQ.out, HFF.out _ HS3.out⟩⟩
          · have hb1 : decide (0 < s) = false := by simpa using hs1
            clear hs1
            go_wp2_with (go_at_call 13; refine (K0.out _).mono ?_; rintro e w3 ⟨rfl, n3, hw3'⟩; have HS3 := Lib.hid (show St w w3 _ from (hw3' ▸ HSW.out.drewN (asn_sep (asn_tx _ _) (asn_sep (asn_blk _ _) asn_emp)) n3)); clear hw3')
            go_meet
            exact ⟨false, rfl, ⟨fun k => (by cases k), HFF.out _ HS3.out⟩⟩
        · have hd1 : decide (i < lb) = false := by simpa using hia
          go_wp2
          go_meet
          exact ⟨false, rfl, ⟨fun k => (by cases k), HT2.out⟩⟩
      case rest =>
      obtain ⟨W4, rfl⟩ : ∃ W4 : World, W4 = wc := ⟨_, rfl⟩
      obtain ⟨bb2, rfl, HC⟩ := hcut
      go_upto_if 78 with fail
      cases bb2 with
      | true =>
        obtain ⟨⟨hib, hib2, hch⟩, hTS⟩ : (i < lb ∧ ∃ h : i < b.length, chP b[i]) ∧ TypS w W4 p w2.heap.size n' (2 * (i : Int) + 1) := ⟨HC.out.1 rfl, HC.out.2⟩
        obtain ⟨T, ref, P, A, Q, hTI, hol, hS⟩ := hTS
        obtain ⟨ad, rfl, c0⟩ := cell_runeT HRB.out hS.bel i hib2
        have HCG := Lib.hid (fun W (hb : Below w.heap.size w W) => show W.cell? (ad.add i) = some (.int .i32 b[i]) from by
          obtain ⟨ad2, e2, c2⟩ := cell_runeT HRB.out hb i hib2
          injection e2 with e2
          rw [e2]; exact c2)
        generalize b[i] = ch at c0 HCG hch
        obtain ⟨e1, hTI'⟩ := types_b hTI (by omega) (Int.le_refl _) hch
        obtain ⟨Fo', hI⟩ := hTI.inv
        have hsb := hTI.seqb
        have hvl := hI.vl
        have AB := Lib.hid (asn_sep (asn_blk w2.heap.size (.cells #[.int .i64 ref.f0, .int .i64 ref.f1] 31 (0, 0))) asn_emp)
        have K1 := Lib.hid (fun W (h : St w W (sep (isTx p T) (sep (isBlk w2.heap.size (.cells #[.int .i64 ref.f0, .int .i64 ref.f1] 31 (0, 0))) emp))) => put_named e1 hI (by omega) AB.out h)
        have K2 := Lib.hid (fun W (h : St w W (sep (isTx p T) (sep (isBlk w2.heap.size (.cells #[.int .i64 ref.f0, .int .i64 ref.f1] 31 (0, 0))) emp))) => vec_st AB.out h (by omega))
        obtain ⟨nv, hnv⟩ : ∃ nv, T.v.length = nv := ⟨_, rfl⟩
        obtain ⟨s0, hs0⟩ : ∃ s0, I.sq (ens T.v) 65536 = s0 := ⟨_, rfl⟩
        have K3 := Lib.hid (fun W A c (h : St w W (sep (isRow k80 80 (.slice A nv c) T.v) (sep (isTx p T) (sep (isBlk w2.heap.size (.cells #[.int .i64 ref.f0, .int .i64 ref.f1] 31 (0, 0))) emp)))) => show Calls Try.prog 20 #[.slice A nv c, .int .i64 65536] W fun e w' => e = .returned (.int .i64 s0) ∧ St w w' (sep (isTx p T) (sep (isBlk w2.heap.size (.cells #[.int .i64 ref.f0, .int .i64 ref.f1] 31 (0, 0))) emp)) from by
          obtain ⟨x1, x2, ex, x3, x4⟩ := h.reads
          injection ex with ex1 ex2 ex3
          subst ex1 ex3
          have hq := seq12_is x4 x3 (by omega) 65536
          rw [hs0, hnv] at hq
          refine hq.mono ?_
          rintro e w' ⟨he, m, rfl⟩
          exact ⟨he, h.snd.drewN (asn_sep (asn_tx p T) AB.out) m⟩)
        rw [hnv] at K2
        have HL2 := Lib.hid (show ((takeS T (otherOp i (I.sq (ens T.v) 65536 + 1) ch)).ops.length : Int) ≤ 2 * (i : Int) + 2 from by
          have := putT_len T (otherOp i (I.sq (ens T.v) 65536 + 1) ch)
          rw [e1] at this
          have this : (takeS T (otherOp i (I.sq (ens T.v) 65536 + 1) ch)).ops.length ≤ T.ops.length + 1 := this
          omega)
        have HTI' := Lib.hid (show ∃ P' A' Q', TypesI (takeS T (otherOp i (I.sq (ens T.v) 65536 + 1) ch)) n' (2 * (i : Int) + 2) ref P' A' Q' from ⟨_, _, _, hTI'⟩)
        generalize takeS T (otherOp i (I.sq (ens T.v) 65536 + 1) ch) = T' at K1 HL2 HTI' hTI'
        rw [hs0] at K1 hsb
        unfold opV otherOp at K1
        have HSW := Lib.hid hS
        have hw6 : IntKind.i64.wrap (s0 + 1) = s0 + 1 := by rw [IntKind.wrap_i64]; omega
        clear hTI hTI' hS e1 hI hol hsb hvl hnv hs0
        go_wp2_with (first
          | (go_at_call 21; with_reducible refine (K2.out _ HSW.out).mono ?_; rintro e w6 ⟨A6, c6, rfl, hS⟩; have HS6 := Lib.hid hS; clear hS)
          | (go_at_call 20; with_reducible refine (K3.out _ _ _ HS6.out).mono ?_; rintro e w7 ⟨rfl, hS⟩; have HS7 := Lib.hid (hS.drew (asn_sep (asn_tx p T) AB.out)); clear hS))
        go_region_held3 (fun W => W.cell? (ad.add i) = some (.int .i32 ch)) ((first | exact HCG.out _ HS7.out.bel | exact HCG.out _ HS8.out.bel | exact HCG.out _ HS9.out.bel)) (first
          | (go_at_call 15; refine (id_is _ _ _).mono ?_; rintro e w8 ⟨rfl, hb⟩; have HS8 := Lib.hid (HS7.out.below (asn_sep (asn_tx p T) AB.out) hb); clear hb)
          | (go_at_call 14; with_reducible refine (K1.out _ HS8.out).mono ?_; rintro e w9 ⟨rfl, hS⟩; have HS9 := Lib.hid hS; clear hS))
        go_wp2
        go_roundg (30 - (i + 1))
        case measure => omega
        case rel =>
          obtain ⟨P', A', Q', hT'⟩ := HTI'.out
          have e9 : 2 * (i : Int) + 2 = 2 * ((i + 1 : Nat) : Int) := by omega
          exact ⟨i + 1, n', by go_num, rfl, by omega, by omega, T', ref, P', A', Q', e9 ▸ hT', by have := HL2.out; omega, HS9.out⟩
      | false =>
        have HTF := Lib.hid HC.out.2
        go_wp2
        go_roundg (30 - (i + 1))
        case measure => omega
        case rel => exact ⟨i + 1, n', by go_num, rfl, by omega, by omega, HTF.out.mono (by omega)⟩
    · obtain rfl : i = 30 := by omega
      have hd0 : decide ((30 : Int) < 30) = false := by decide
      obtain ⟨T, ref, P, A, Q, hTI, hol, hS⟩ := HT.out
      obtain ⟨Fo', hI⟩ := hTI.inv
      have hll := hI.ll
      obtain ⟨t1, t2, t3⟩ := types_end hTI
      have AB := Lib.hid (asn_sep (asn_blk w2.heap.size (.cells #[.int .i64 ref.f0, .int .i64 ref.f1] 31 (0, 0))) asn_emp)
      have K5 := Lib.hid (fun W (h : St w W (sep (isTx p T) (sep (isBlk w2.heap.size (.cells #[.int .i64 ref.f0, .int .i64 ref.f1] 31 (0, 0))) emp))) => ids_st AB.out h (by omega))
      rw [t1] at K5
      obtain ⟨m, hm⟩ : ∃ m, (T.l.map (·.f0)).length = m := ⟨_, rfl⟩
      rw [hm] at K5
      have hm2 : T.l.length = m := by rw [← hm, List.length_map]
      obtain ⟨pl, hpl⟩ : ∃ pl, P.length = pl := ⟨_, rfl⟩
      rw [hpl, hm2] at t2
      have hm3 : m ≤ 1000 := by omega
      obtain ⟨ids, hids⟩ : ∃ ids : List S31, T.l.map (·.f0) = ids := ⟨_, rfl⟩
      have HID := Lib.hid (show ∀ i, i < m → ∃ x : S31, ids[i]? = some x ∧ (i < pl → x.f1 = 65536) ∧ (pl ≤ i → i < pl + n → x.f1 = 0) ∧ (pl + n ≤ i → x.f1 = 65536) from fun i hi => by
        have hi2 : i < T.l.length := by omega
        obtain ⟨q1, q2, q3, _⟩ := t3 i hi2
        rw [hpl] at q1 q2 q3
        exact ⟨T.l[i].f0, by rw [← hids, List.getElem?_map, List.getElem?_eq_getElem hi2]; rfl, q1, q2, q3⟩)
      have HUP := Lib.hid (show ∀ j, j + 1 < m → pl ≤ j → j + 1 < pl + n → ∃ x y : S31, ids[j]? = some x ∧ ids[j + 1]? = some y ∧ x.f0 < y.f0 from fun j hj h1 h2 => by
        have hi2 : j + 1 < T.l.length := by omega
        obtain ⟨_, _, _, q4⟩ := t3 (j + 1) hi2
        have := q4 (by rw [hpl]; omega) (by rw [hpl]; exact h2)
        refine ⟨T.l[j].f0, T.l[j + 1].f0, by rw [← hids, List.getElem?_map, List.getElem?_eq_getElem (by omega)]; rfl, by rw [← hids, List.getElem?_map, List.getElem?_eq_getElem hi2]; rfl, ?_⟩
        simpa using this)
      rw [hids] at K5 hm
      have HMM := Lib.hid hm
      have HSW := Lib.hid hS
      clear hTI hS hol hI hll t1 t3 hm hm2 hpl HI HT hids
      go_wp2_with (go_at_call 22; with_reducible refine (K5.out _ HSW.out).mono ?_; rintro e w6 ⟨A6, c6, rfl, hS⟩; have HS6 := Lib.hid hS; clear hS)
      have AR := Lib.hid (asn_sep (asn_row k31 31 (.slice A6 m c6) ids) (asn_sep (asn_tx p T) AB.out))
      go_loopg [17, 18, 19] m (fun kq v17 v18 v19 wr => ∃ (i cnt : Nat) (f : Int), v19 = .int .i64 (i : Int) ∧ v18 = .int .i64 (cnt : Int) ∧ v17 = .int .i64 f ∧ Aside0 (kq + i = m ∧ cnt = min n (i - pl) ∧ f = (if cnt = 0 then -1 else (pl : Int)) ∧ St w wr (sep (isRow k31 31 (.slice A6 m c6) ids) (sep (isTx p T) (sep (isBlk w2.heap.size (.cells #[.int .i64 ref.f0, .int .i64 ref.f1] 31 (0, 0))) emp)))))
      case atStart => exact ⟨0, 0, -1, rfl, rfl, rfl, by omega, by omega, rfl, HS6.out⟩
      case round =>
        obtain ⟨i, cnt, f, rfl, rfl, rfl, HJ⟩ := hrel
        have hkj := HJ.out.1
        have hcnt := HJ.out.2.1
        have HSJ := Lib.hid HJ.out.2.2.2
        by_cases him : i < m
        · have hd1 : decide (i < m) = true := by simpa using him
          obtain ⟨x, hx, q1, q2, q3⟩ := HID.out i him
          obtain ⟨hx1, hx2⟩ := List.getElem?_eq_some_iff.1 hx
          obtain ⟨y1, y2, ey, y3, y4⟩ := HSJ.out.reads
          injection ey with ey1 ey2 ey3
          subst ey1
          obtain ⟨ad, rfl, c0, c1⟩ := cell_id y4 (Below.refl _ _) i hx1
          rw [hx2] at c0 c1
          by_cases hin : pl ≤ i ∧ i < pl + n
          · have hx0 := q2 hin.1 hin.2
            rw [hx0] at c1
            have hfv := HJ.out.2.2.1
            have hc9 : cnt + 1 = min n (i + 1 - pl) := by omega
            have hwc : IntKind.i64.wrap ((cnt : Int) + 1) = (cnt : Int) + 1 := by rw [IntKind.wrap_i64]; omega
            by_cases hc0' : cnt = 0
            · subst hc0'
              rw [if_pos rfl] at hfv
              have hfv : f = -1 := hfv
              subst hfv
              have hip : i = pl := by omega
              have HIP := Lib.hid hip
              have hwi : IntKind.i64.wrap (i : Int) = (i : Int) := by rw [IntKind.wrap_i64]; omega
              have HC9 := Lib.hid hc9
              clear q1 q2 q3 hx0 hx hx2 hx1 y3 y4 ey2 ey3 hip hin hc9 hcnt hwc
              go_wp2
              go_quiet (fail)
              go_wp2
              go_roundg (m - (i + 1))
              case measure => omega
              case rel => exact ⟨i + 1, 1, i, by go_num, rfl, rfl, by omega, HC9.out, by rw [if_neg (by decide), HIP.out], HSJ.out.drewN AR.out _⟩
            · obtain ⟨j, rfl⟩ : ∃ j, i = j + 1 := ⟨i - 1, by omega⟩
              rw [if_neg hc0'] at hfv
              subst hfv
              obtain ⟨u, v, hu, hv, huv⟩ := HUP.out j him (by omega) hin.2
              obtain ⟨hu1, hu2⟩ := List.getElem?_eq_some_iff.1 hu
              obtain rfl : v = x := by
                rw [hx] at hv
                injection hv with hv
                exact hv.symm
              obtain ⟨ad2, ead, c2, c3⟩ := cell_id y4 (Below.refl _ _) j hu1
              injection ead with ead
              subst ead
              rw [hu2] at c2 c3
              have hsum : IntKind.i64.wrap ((pl : Int) + (cnt : Int)) = ((j + 1 : Nat) : Int) := by rw [IntKind.wrap_i64]; omega
              have hd9 : decide ((pl : Int) < 0) = false := decide_eq_false (by omega)
              have hc0 : 0 < cnt := by omega
              have hj1 : IntKind.i64.wrap (((j + 1 : Nat) : Int) - 1) = (j : Int) := by rw [IntKind.wrap_i64]; omega
              have hle : decide (v.f0 ≤ u.f0) = false := decide_eq_false (by omega)
              have HC9 := Lib.hid hc9
              have HC0 := Lib.hid hc0'
              clear q1 q2 q3 hx0 hx hx2 hx1 y3 y4 ey2 ey3 hin hc9 hcnt hu hv hu1 hu2 hc0' huv
              go_wp2
              go_quiet (fail)
              go_wp2
              go_roundg (m - (j + 1 + 1))
              case measure => omega
              case rel => exact ⟨j + 1 + 1, cnt + 1, pl, by go_num, by go_num, rfl, by omega, HC9.out, by rw [if_neg (by omega)], HSJ.out.drewN AR.out _⟩
          · have hx0 : x.f1 = 65536 := by
              by_cases h1 : i < pl
              · exact q1 h1
              · exact q3 (by omega)
            rw [hx0] at c1
            have HF := Lib.hid HJ.out.2.2.1
            have hc9 : cnt = min n (i + 1 - pl) := by omega
            clear q1 q2 q3 hx0 hx hx2 hx1 y3 y4 ey2 ey3
            go_wp2
            go_roundg (m - (i + 1))
            case measure => omega
            case rel => exact ⟨i + 1, cnt, f, by go_num, rfl, rfl, by omega, hc9, HF.out, HSJ.out⟩
        · obtain rfl : i = m := by omega
          have hd1 : decide (i < i) = false := by simp
          obtain rfl : cnt = n := by omega
          clear hcnt hkj
          go_wp2
          go_ret
          exact ⟨rfl, HSJ.out.bel⟩
end Go.Proofs.Ytehdjdediobemaa.PC
