/- A part of the proof of rgaMeets_holds: its texts, one behind the other, as far as the proof stands on them. (Lines of its texts on the printed words and functions began as lines that a program of the kit had written for this statement.) -/
import Derived.ArgAppend
import Derived.Below
import Derived.BigQuiet
import Derived.BigRegion
import Derived.ChangeMaps4
import Derived.ChangeMaps5
import Derived.ChangeOld
import Derived.Deep.AppendLies
import Derived.Deep.CutBlock
import Derived.Deep.CutRange
import Derived.Deep.DeepCutAuto
import Derived.Deep.DrawnRows
import Derived.Deep.Draws
import Derived.Deep.LoopGhost
import Derived.Deep.OwnRows
import Derived.Deep.QuietTactic
import Derived.Deep.RegionHeld3
import Derived.Deep.RegionLaw
import Derived.Deep.RegionWith
import Derived.Deep.Slices
import Derived.KernelRfl
import Derived.Laws.BitsLemmas
import Derived.Laws.BytesArg
import Derived.Laws.CopyRow
import Derived.Laws.Cover4
import Derived.Laws.Externs
import Derived.Laws.IdiomCopy
import Derived.Laws.MakeOwn
import Derived.Laws.NewBlocks
import Derived.Laws.OwnMore
import Derived.Laws.Rows
import Derived.Laws.Slices
import Derived.Laws.StructEq
import Derived.Lib.AppendStr
import Derived.Lib.AppendZeros
import Derived.Lib.AppendZerosOnto
import Derived.Lib.ConvBytes
import Derived.Lib.Hide
import Derived.Lib.JoinLaws
import Derived.Lib.Overlaps
import Derived.Lib.SmallJoins
import Derived.Lib.Walk
import Derived.MapKept
import Derived.Maps.AppendAt
import Derived.OpenShut
import Derived.OrdersHeld
import Derived.OwnWalk
import Derived.ProofKit
import Derived.RegionTactic
import Derived.RowKit
import Derived.RowKit3
import Derived.SizedLaws
import Derived.StillTail
import Derived.StillTailTactics
import Derived.Tactics
import Derived.Test.YtehdjdediobemaaProg
import Derived.Test.YtehdjdediobemaaRows
import Derived.WalkKit
import Derived.WalkSpells
import Derived.WideLaws
import Derived.WideShapes
import Derived.Test.YtehdjdediobemaaBK0
namespace Go.Proofs.Ytehdjdediobemaa.OpenS
open Go.RowKit Go.ChangeShapes Go.WideShapes Go.ChangeAt Go.Joins Go.Proofs.Ytehdjdediobemaa.PC Go.Proofs.Ytehdjdediobemaa.K Go.Proofs.YtehdjdediobemaaW.PrintWords
set_option linter.unusedVariables false
set_option maxRecDepth 100000
variable {H : Type} {enc : TypeId × Value → H} {w : World} {base : Nat} {spare : Nat → Bool} {held : Bool}
theorem openInts {ts : List TypeId} {ds : List (DataW H)} {j : Nat} {a : Option Addr} {len cap : Nat} {d : DataW H} {ps : List MemPlace} (hsz : (DataW.weightsEach Try.prog ts ds).all (· ≤ reachBytes) = true) (ht : ts[j]? = some 47) (hd : ds[j]? = some d)
    (h : DataW.Trod enc Try.prog w base spare held 47 (.slice a len cap) d ps) :
    ∃ zs : List Int, zs.length = len ∧ Kd.C (Kd.int .i64) w a zs.length zs ∧ zs.length ≤ cap ∧ zs.length * 8 ≤ 140737488351232 ∧ ∀ y ∈ zs, (Lit.int .i64 y).wf = true :=
  open_rows (K := (Kd.int .i64).K w) (sz := 1) hsz ht hd Try.underlying47 (by kernel_rfl) (by kernel_rfl) (fun x c hx => by rw [show c = [Value.int .i64 x] from hx]; rfl) (fun n cs x hx => by
    obtain ⟨b, hb, _, wb⟩ := DataW.trod_int Try.underlying3 hx
    exact ⟨b, hb, wb⟩) h
end Go.Proofs.Ytehdjdediobemaa.OpenS
namespace Go.Proofs.Ytehdjdediobemaa.I
set_option linter.unusedVariables false
theorem En.eq {x y : En} (h : x.a = y.a) (k : x.s = y.s) : x = y := by cases x; cases y; simp_all
/-- Vectors that tell the same are the same. -/
theorem vec_ext {v w : List En} (hv : vec v) (hw : vec w) (h : ∀ x, sq v x = sq w x) : v = w := by
  induction v generalizing w with
  | nil =>
    cases w with
    | nil => rfl
    | cons f w =>
      have := h f.a
      have k := (sq_pos hw f.a).2.2.1
      simp only [sq] at this k
      rw [if_pos trivial] at this
      have := (fit_cons.1 hw.2).1
      omega
  | cons e v ih =>
    have he := (fit_cons.1 hv.2).1
    cases w with
    | nil =>
      have := h e.a
      simp only [sq] at this
      rw [if_pos trivial] at this
      omega
    | cons f w =>
      have hf := (fit_cons.1 hw.2).1
      have h1 := h e.a
      have h2 := h f.a
      have tail0 : ∀ {u : List En} {g : En}, vec (g :: u) → ∀ x, x ≤ g.a → sq u x = 0 := by
        intro u g hu x hx
        exact sq_none fun k hk => by have := hu.1.1 k hk; omega
      have hee : e.a = f.a := by
        simp only [sq] at h1 h2
        rw [if_pos trivial] at h1 h2
        by_cases c1 : f.a = e.a
        · exact c1.symm
        · rw [if_neg c1] at h1
          rw [if_neg (fun k => c1 k.symm)] at h2
          by_cases c2 : e.a < f.a
          · have := tail0 hw e.a (by omega); omega
          · have := tail0 hv f.a (by omega); omega
      have hes : e.s = f.s := by
        simp only [sq] at h1
        rw [if_pos trivial, if_pos hee.symm] at h1
        exact h1
      have : v = w := by
        refine ih (vec_tail hv) (vec_tail hw) fun x => ?_
        by_cases c : x ≤ e.a
        · rw [tail0 hv x c, tail0 hw x (by omega)]
        · have := h x
          simp only [sq] at this
          rw [if_neg (by omega), if_neg (by omega)] at this
          exact this
      rw [this, En.eq hee hes]
end Go.Proofs.Ytehdjdediobemaa.I
namespace Go.Proofs.Ytehdjdediobemaa.PC
open Go.RowKit Go.Proofs.YtehdjdediobemaaW.PrintWords Go.Proofs.YtehdjdediobemaaW.PrintLast Go.Proofs.YtehdjdediobemaaW.PrintMore Go.Proofs.Ytehdjdediobemaa.K Go.Proofs.Ytehdjdediobemaa.IX
attribute [local go_sem] max2_int min2_int max_two min_two max_three min_three max_four min_four
attribute [local go_sem high] eqA31
set_option linter.unusedVariables false
set_option linter.unusedSimpArgs false
theorem vec_calls (w : World) (F : List Nat) (p : Nat) (T : TS) (h : Tx w F p T) (hl : T.v.length ≤ 1000000) : Calls Try.prog 21 #[.pointer (some ⟨p, 0, none⟩)] w fun e w' => ∃ v, e = .returned v ∧ Kd.R k80 80 w' w.heap.size (fun _ => True) v T.v ∧ Below w.heap.size w w' := by
  obtain ⟨A1, c1, x, A2, c2, A3, c3, mb, FI, h0, h1, h2, h3, h4, h5, _, _, _, ⟨hc, hr⟩, _⟩ := h.read
  have K1 := Lib.hid (cloneE_calls w A3 c3 T.v hr hl)
  generalize T.v = l at *
  clear h hr h0 h1 h2 h4 h5
  go_enter Try.func21, Try.ntmps21
  go_wp2_with (go_at_call 48; refine K1.out.mono ?_; rintro e w' ⟨v, rfl, hr, hb⟩; have HO := Lib.hid hr; have HB := Lib.hid hb; clear hr hb)
  go_ret
  exact ⟨_, rfl, HO.out, HB.out⟩
end Go.Proofs.Ytehdjdediobemaa.PC
namespace Go.Proofs.Ytehdjdediobemaa.PC
open Go.RowKit Go.Proofs.YtehdjdediobemaaW.PrintWords Go.Proofs.YtehdjdediobemaaW.PrintLast Go.Proofs.YtehdjdediobemaaW.PrintMore Go.Proofs.Ytehdjdediobemaa.K Go.Proofs.Ytehdjdediobemaa.I
set_option linter.unusedVariables false
set_option linter.unusedSimpArgs false
theorem S80.eq {x y : S80} (h : x.f0 = y.f0) (k : x.f1 = y.f1) : x = y := by cases x; cases y; simp_all
open Classical in
theorem ens_inj {xs ys : List S80} (h : ens xs = ens ys) : xs = ys := by
  induction xs generalizing ys with
  | nil => cases ys with | nil => rfl | cons y ys => simp [ens] at h
  | cons x xs ih =>
    cases ys with
    | nil => simp [ens] at h
    | cons y ys =>
      simp [ens, toE] at h
      rw [S80.eq h.1.1 h.1.2, ih (by simpa [ens] using h.2)]
end Go.Proofs.Ytehdjdediobemaa.PC
namespace Go.Proofs.Ytehdjdediobemaa.PC
open Go.RowKit Go.Proofs.YtehdjdediobemaaW.PrintWords Go.Proofs.YtehdjdediobemaaW.PrintLast Go.Proofs.YtehdjdediobemaaW.PrintMore Go.Proofs.Ytehdjdediobemaa.K Go.Proofs.Ytehdjdediobemaa.IX Go.Proofs.Ytehdjdediobemaa.I
set_option linter.unusedVariables false
set_option linter.unusedSimpArgs false
theorem same12_self (l : List S80) (hl : l.length ≤ 1000000) : foolscapref12_Same.f (l.length + 1) l l = some true := by
  unfold foolscapref12_Same.f
  rw [if_pos rfl]
  have key : ∀ (m i : Nat), i + m = l.length → foolscapref12_Same.l0 (m + 1) l l (i : Int) = some true := by
    intro m
    induction m with
    | zero =>
      intro i hi
      simp only [foolscapref12_Same.l0]
      rw [if_neg (by omega)]
    | succ m ih =>
      intro i hi
      rw [foolscapref12_Same.l0, if_pos (by omega), if_pos (by omega), if_pos (by omega), if_neg (by simp), wrap_n i (by omega)]
      exact ih (i + 1) (by omega)
  exact key l.length 0 (by omega)
theorem same12_is {w : World} {A B : Option Addr} {c d : Nat} {l : List S80} (h1 : Kd.C k80 w A l.length l) (hc : l.length ≤ c) (h2 : Kd.C k80 w B l.length l) (hd : l.length ≤ d) (hl : l.length ≤ 1000000) : Calls Try.prog 25 #[.slice A l.length c, .slice B l.length d] w fun e w' => e = .returned (.bool true) ∧ ∃ n, w' = w.drewN n :=
  (foolscapref12_Same.calls _ A c l B d l true w h1 hc h2 hd (same12_self l hl)).mono fun _ _ h => ⟨h.1, h.2.out⟩
end Go.Proofs.Ytehdjdediobemaa.PC
namespace Go.Proofs.Ytehdjdediobemaa.PC
open Go.RowKit Go.Proofs.YtehdjdediobemaaW.PrintWords Go.Proofs.Ytehdjdediobemaa.K Go.Proofs.Ytehdjdediobemaa.IX Go.Proofs.Ytehdjdediobemaa.I
set_option linter.unusedVariables false
set_option linter.unusedSimpArgs false
def ascX : List S75 → Prop
  | [] => True
  | [_] => True
  | a :: b :: l => a.f0.f0 < b.f0.f0 ∧ ascX (b :: l)
/-- The text: others, what the one has typed, others. m bounds all counters. -/
structure TypesI (T : TS) (n : Nat) (m : Int) (ref : S31) (P A Q : List S75) : Prop where
  inv : ∃ F, Inv T F
  l : T.l = P ++ A ++ Q
  p : ∀ e ∈ P, e.f0.f1 = 65536
  q : ∀ e ∈ Q, e.f0.f1 = 65536
  a : ∀ e ∈ A, e.f0.f1 = 0
  asc : ascX A
  ref : (A = [] ∧ ref = ⟨0, 0⟩) ∨ ∃ A' e, A = A' ++ [e] ∧ e.f0 = ref
  alive : ∀ e ∈ T.l, e.f2 = true
  low : ∀ e ∈ T.l, e.f0.f0 ≤ m
  seq : I.sq (ens T.v) 0 = n
  last : T.last 0 ≤ m ∧ T.last 65536 ≤ m
  cnt : A.length = n
  seqb : 0 ≤ I.sq (ens T.v) 65536 ∧ I.sq (ens T.v) 65536 ≤ m
theorem TypesI.mono {T : TS} {n : Nat} {m m' : Int} {ref : S31} {P A Q : List S75} (h : TypesI T n m ref P A Q) (hm : m ≤ m') : TypesI T n m' ref P A Q :=
  ⟨h.inv, h.l, h.p, h.q, h.a, h.asc, h.ref, h.alive, fun e he => Int.le_trans (h.low e he) hm, h.seq, ⟨Int.le_trans h.last.1 hm, Int.le_trans h.last.2 hm⟩, h.cnt, ⟨h.seqb.1, Int.le_trans h.seqb.2 hm⟩⟩
end Go.Proofs.Ytehdjdediobemaa.PC
namespace Go.Proofs.Ytehdjdediobemaa.PC
open Go.RowKit Go.Proofs.YtehdjdediobemaaW.PrintWords Go.Proofs.YtehdjdediobemaaW.PrintLast Go.Proofs.YtehdjdediobemaaW.PrintMore Go.Proofs.Ytehdjdediobemaa.K Go.Proofs.Ytehdjdediobemaa.IX Go.Proofs.Ytehdjdediobemaa.I
set_option linter.unusedVariables false
set_option linter.unusedSimpArgs false
theorem vis_nm {w0 w : World} {p n : Nat} {T : TS} {B : As} {a : List Int} (b : Asn B) (h : St w0 w (sep (isTx p T) B)) (hl : T.l.length ≤ 100000) (ha : visS T.l = a) (hn : a.length = n) : Calls Try.prog 17 #[.pointer (some ⟨p, 0, none⟩)] w fun e w' => ∃ A c, e = .returned (.slice A n c) ∧ Below w.heap.size w w' ∧ St w0 w' (sep (isRow (Kd.int .i32) 21 (.slice A n c) a) (sep (isTx p T) B)) := by
  obtain ⟨F, ⟨FA, FB, h1, h2, rfl, hd⟩, hb, hn2⟩ := id h
  refine (vis_calls w FA p T h1 (by omega)).mono ?_
  rintro e w' ⟨v, rfl, hr, hb2⟩
  rw [ha] at hr
  obtain ⟨A, c, rfl⟩ := Kd.R_slice hr
  rw [hn] at hr ⊢
  exact ⟨A, c, rfl, hb2, St.row rfl h (asn_sep (asn_tx p T) b) hb2 hr⟩
theorem same01_nm {w0 w1 w0' w2 W : World} {B B' : As} {A A' : Option Addr} {n c c' : Nat} {xs : List Int} (h1 : St w0 w1 (sep (isRow (Kd.int .i32) 21 (.slice A n c) xs) B)) (b1 : Below w1.heap.size w1 W) (h2 : St w0' w2 (sep (isRow (Kd.int .i32) 21 (.slice A' n c') xs) B')) (b2 : Below w2.heap.size w2 W) (hl : n ≤ 100000) : Calls Try.prog 16 #[.slice A n c, .slice A' n c'] W fun e w' => e = .returned (.bool true) ∧ Below W.heap.size W w' := by
  obtain ⟨e1, k1, r1⟩ := h1.later b1
  obtain ⟨e2, k2, r2⟩ := h2.later b2
  have := same01_is r1 (c := c) (by omega) r2 (d := c') (by omega) (by omega)
  rw [e1] at this
  refine this.mono ?_
  rintro e w' ⟨he, m, rfl⟩
  exact ⟨he, pw_below_drewN (Below.refl _ _) m⟩
/-- The operations of a row of the call's own, cell by cell. -/
theorem St.op_row {w0 w : World} {A : Option Addr} {n c : Nat} {L : List S34} {B : As} (h : St w0 w (sep (isRow k34 34 (.slice A n c) L) B)) (i : Nat) (hi : i < L.length) : ∃ ad, A = some ad ∧ w.cell? (ad.add (i * 7)) = some (.int .i64 L[i].f0.f0) ∧ w.cell? ⟨(ad.add (i * 7)).block, (ad.add (i * 7)).off + 1, none⟩ = some (.int .i64 L[i].f0.f1) ∧ w.cell? ⟨(ad.add (i * 7)).block, (ad.add (i * 7)).off + 2, none⟩ = some (.int .i64 L[i].f1) ∧ w.cell? ⟨(ad.add (i * 7)).block, (ad.add (i * 7)).off + 3, none⟩ = some (.bool L[i].f2) ∧ w.cell? ⟨(ad.add (i * 7)).block, (ad.add (i * 7)).off + 4, none⟩ = some (.int .i64 L[i].f3.f0) ∧ w.cell? ⟨(ad.add (i * 7)).block, (ad.add (i * 7)).off + 5, none⟩ = some (.int .i64 L[i].f3.f1) ∧ w.cell? ⟨(ad.add (i * 7)).block, (ad.add (i * 7)).off + 6, none⟩ = some (.int .i32 L[i].f4) := by
  obtain ⟨e1, k1, r1⟩ := h.later (Below.refl _ _)
  exact cell_op r1 (Below.refl _ w) i hi
theorem bits16 (x : Int) : 0 ≤ Go.bits .and .i64 x 65535 ∧ Go.bits .and .i64 x 65535 ≤ 65535 := by
  have hb : (65535 : Nat) % 2 ^ IntKind.i64.bits = 65535 := by decide
  have h1 : (BitVec.ofInt IntKind.i64.bits x).toNat &&& 65535 ≤ 65535 := Nat.and_le_right
  have e : Go.bits .and .i64 x 65535 = (((BitVec.ofInt IntKind.i64.bits x).toNat &&& 65535 : Nat) : Int) := by
    rw [show (65535 : Int) = ((65535 : Nat) : Int) from rfl]
    simp only [Go.bits, BitVec.ofInt_natCast, BitVec.toNat_and, BitVec.toNat_ofNat, hb]
    rw [IntKind.wrap_i64]
    omega
  rw [e]
  omega
theorem lits_row {α : Type} {d : Kd α} {fl : α → List Value} (hf : Flat d fl) (e : Nat) (W : World) (xs : List α) (hm : xs.length ≤ 1000) : d.R e (W.alloc (.cells (xs.flatMap fl).toArray e)) W.heap.size (fun _ => True) (.slice (some ⟨W.heap.size, 0, none⟩) xs.length xs.length) xs := by
  have h := World.ownsRow_lit (base := W.heap.size) (e := e) (size := d.sz) W (xs.flatMap fl).toArray xs.length (Nat.le_refl _) (by unfold maxLen; omega) (by simp [flat_len hf.len])
  have h2 : (W.alloc (.cells (xs.flatMap fl).toArray e)).ownsRow W.heap.size e d.sz (.slice (some ⟨W.heap.size, 0, none⟩) xs.length xs.length) xs.length (xs.flatMap fl) := by simpa using h
  exact hf.R h2
theorem lits_st {α : Type} {d : Kd α} {fl : α → List Value} (hf : Flat d fl) (e : Nat) {w0 W : World} {B : As} (b : Asn B) (h : St w0 W B) (xs : List α) (hm : xs.length ≤ 1000) : St w0 (W.alloc (.cells (xs.flatMap fl).toArray e)) (sep (isRow d e (.slice (some ⟨W.heap.size, 0, none⟩) xs.length xs.length) xs) B) :=
  St.row hf.E h b ((Below.refl _ W).alloc (Nat.le_refl _) _) (lits_row hf e W xs hm)
def SI (B C : As) : Prop := ∀ w F, B w F → ∃ F', C w F' ∧ ∀ k, k ∈ F' ↔ k ∈ F
theorem SI.trans {A B C : As} (h : SI A B) (k : SI B C) : SI A C := fun w F x => by
  obtain ⟨F1, y, e1⟩ := h w F x
  obtain ⟨F2, z, e2⟩ := k w F1 y
  exact ⟨F2, z, fun j => (e2 j).trans (e1 j)⟩
theorem SI.turn (A B C : As) : SI (sep A (sep B C)) (sep B (sep A C)) := fun w F ⟨FA, _, h1, ⟨FB, FC, h2, h3, rfl, hd⟩, e, hd2⟩ => by
  refine ⟨FB ++ (FA ++ FC), ⟨FB, FA ++ FC, h2, ⟨FA, FC, h1, h3, rfl, fun k m m2 => hd2 k m (by simp [m2])⟩, rfl, fun k m m2 => ?_⟩, fun k => ?_⟩
  · rcases List.mem_append.1 m2 with q | q
    · exact hd2 k q (by simp [m])
    · exact hd k m q
  · rw [e]
    simp only [List.mem_append]
    constructor
    · rintro (q | q | q) <;> simp [q]
    · rintro (q | q | q) <;> simp [q]
theorem SI.in1 {A B C : As} (h : SI B C) : SI (sep A B) (sep A C) := fun w F ⟨FA, FB, h1, h2, e, hd⟩ => by
  obtain ⟨F2, k1, k2⟩ := h w FB h2
  exact ⟨FA ++ F2, ⟨FA, F2, h1, k1, rfl, fun k m m2 => hd k m ((k2 k).1 m2)⟩, fun k => by rw [e, List.mem_append, List.mem_append, k2 k]⟩
theorem SI.drop (A B : As) : ∀ w0 w, St w0 w (sep A B) → St w0 w B := fun w0 w h => h.snd
theorem St.si {w0 w : World} {A B : As} (h : St w0 w A) (s : SI A B) : St w0 w B := by
  obtain ⟨F, h1, h2, h3⟩ := h
  obtain ⟨F', k1, k2⟩ := s w F h1
  exact ⟨F', k1, h2, fun k hk => h3 k ((k2 k).1 hk)⟩
/-- The third, the fourth, .. comes first. -/
theorem St.third {w0 w : World} {A B C D : As} (h : St w0 w (sep A (sep B (sep C D)))) : St w0 w (sep C (sep A (sep B D))) := h.si ((SI.in1 (SI.turn _ _ _)).trans (SI.turn _ _ _))
theorem St.fourth {w0 w : World} {A B C D E : As} (h : St w0 w (sep A (sep B (sep C (sep D E))))) : St w0 w (sep D (sep A (sep B (sep C E)))) := h.si ((SI.in1 ((SI.in1 (SI.turn _ _ _)).trans (SI.turn _ _ _))).trans (SI.turn _ _ _))
/-- The first comes third, fourth, .. -/
theorem St.to3 {w0 w : World} {A B C D : As} (h : St w0 w (sep A (sep B (sep C D)))) : St w0 w (sep B (sep C (sep A D))) := h.si ((SI.turn _ _ _).trans (SI.in1 (SI.turn _ _ _)))
end Go.Proofs.Ytehdjdediobemaa.PC
namespace Go.Proofs.Ytehdjdediobemaa.PC
open Go.RowKit Go.Proofs.YtehdjdediobemaaW.PrintWords Go.Proofs.Ytehdjdediobemaa.K Go.Proofs.Ytehdjdediobemaa.IX Go.Proofs.Ytehdjdediobemaa.I
set_option linter.unusedVariables false
set_option linter.unusedSimpArgs false
def gOne (t : Int) (x : S31) (a : Int) : S34 := ⟨⟨t + 1, a⟩, 1, false, x, 0⟩
def gMore (t : Int) (x : S31) (c : Int) : S34 := ⟨⟨t + 1, 4194301⟩, 1, true, x, c⟩
structure GoneL (T : TS) (x : S31) (c : Int) (T1 T2 T3 U1 U2 U3 : TS) : Prop where
  a1 : putT T (gOne T.top x 4194303) = ((true, 0), T1)
  a2 : putT T1 (gOne T.top x 4194302) = ((true, 0), T2)
  a3 : putT T2 (gMore T.top x c) = ((true, 0), T3)
  b1 : putT T (gMore T.top x c) = ((true, 0), U1)
  b2 : putT U1 (gOne T.top x 4194302) = ((true, 0), U2)
  b3 : putT U2 (gOne T.top x 4194303) = ((true, 0), U3)
  i1 : ∃ F, Inv T1 F
  i2 : ∃ F, Inv T2 F
  i3 : ∃ F, Inv T3 F
  j1 : ∃ F, Inv U1 F
  j2 : ∃ F, Inv U2 F
  j3 : ∃ F, Inv U3 F
  n3 : T3.ops.length = T.ops.length + 3
  m3 : U3.ops.length = T.ops.length + 3
  same : T3.l = U3.l
  dead : aliveS T3.l x = false
  live : aliveS T3.l ⟨T.top + 1, 4194301⟩ = true
end Go.Proofs.Ytehdjdediobemaa.PC
namespace Go.Proofs.Ytehdjdediobemaa.PC
open Go.RowKit Go.Proofs.YtehdjdediobemaaW.PrintWords Go.Proofs.Ytehdjdediobemaa.K Go.Proofs.Ytehdjdediobemaa.IX Go.Proofs.Ytehdjdediobemaa.I
set_option linter.unusedVariables false
set_option linter.unusedSimpArgs false
theorem refR_none {L : List S34} {o : S34} (h : refR L o = none) : rightS o ∧ o.f1 = (knownR L o.f0.f1).1 + 1 ∧ (hasR L o.f3 = true ∨ o.f3 = zid) ∧ (knownR L o.f0.f1).2 < o.f0.f0 := by
  unfold refR at h
  by_cases hr : rightS o
  · have hnn : ¬ ¬ rightS o := fun k => k hr
    rw [if_neg hnn] at h
    split at h
    · cases h
    · split at h
      · cases h
      · split at h
        · cases h
        · rename_i h1 h2 h3
          refine ⟨hr, by omega, ?_, by omega⟩
          cases hp : hasR L o.f3 with
          | true => exact .inl rfl
          | false =>
            right
            rw [← idq_iff]
            cases hq : idq o.f3 zid with
            | true => rfl
            | false => exact absurd (.inr ⟨hp, hq⟩) h2
  · rw [if_pos hr] at h
    cases h
theorem good_split {L : List S34} {o : S34} (h : Good (L ++ [o])) : Good L ∧ refR L o = none := by
  have hg : Good L := by have := good_take h L.length; rwa [List.take_append_of_le_length (Nat.le_refl _), List.take_length] at this
  have := h L.length (by rw [List.length_append]; exact Nat.lt_succ_self _)
  rw [List.getElem_append_right (Nat.le_refl _), List.take_append_of_le_length (Nat.le_refl _), List.take_length, show ([o] : List S34)[L.length - L.length] = o by simp] at this
  exact ⟨hg, this⟩
theorem good_le {L : List S34} (h : Good L) : ∀ x ∈ L, x.f1 ≤ (knownR L x.f0.f1).1 ∧ x.f0.f0 ≤ (knownR L x.f0.f1).2 := by
  obtain ⟨⟨F, hi⟩, ho⟩ := good_inv L h
  intro x hx
  have := hi.le x (by rw [ho]; exact hx)
  rwa [ho] at this
theorem good_rights {L : List S34} (h : Good L) : ∀ x ∈ L, rightS x := by
  obtain ⟨⟨F, hi⟩, ho⟩ := good_inv L h
  intro x hx
  exact hi.right x (by rw [ho]; exact hx)
/-- Two of one author: the one that comes later has the greater Seq and counter. -/
theorem good_two {L : List S34} (h : Good L) : ∀ x ∈ L, ∀ y ∈ L, x.f0.f1 = y.f0.f1 → x = y ∨ (x.f1 < y.f1 ∧ x.f0.f0 < y.f0.f0) ∨ (y.f1 < x.f1 ∧ y.f0.f0 < x.f0.f0) := by
  induction L using snoc_ind with
  | h0 => intro x hx; cases hx
  | h1 L o ih =>
    obtain ⟨hg, hr⟩ := good_split h
    obtain ⟨_, h1, _, h2⟩ := refR_none hr
    have key : ∀ x ∈ L, x.f0.f1 = o.f0.f1 → x.f1 < o.f1 ∧ x.f0.f0 < o.f0.f0 := fun x hx e => by
      have := good_le hg x hx
      rw [e] at this
      omega
    intro x hx y hy e
    rcases List.mem_append.1 hx with h5 | h5 <;> rcases List.mem_append.1 hy with h6 | h6
    · exact ih hg x h5 y h6 e
    · have h7 : y = o := by simpa using h6
      rw [h7] at e ⊢
      exact .inr (.inl (key x h5 e))
    · have h7 : x = o := by simpa using h5
      rw [h7] at e ⊢
      exact .inr (.inr (key y h6 e.symm))
    · have h7 : x = o := by simpa using h5
      have h8 : y = o := by simpa using h6
      exact .inl (h7.trans h8.symm)
theorem known_at (L : List S34) (a : Int) : knownR L a = (0, 0) ∨ ∃ x ∈ L, x.f0.f1 = a ∧ knownR L a = (x.f1, x.f0.f0) := by
  induction L using snoc_ind with
  | h0 => exact .inl rfl
  | h1 L o ih =>
    rw [knownR_snoc]
    unfold knStep
    split
    · rename_i h
      exact .inr ⟨o, by simp, h.1, rfl⟩
    · rcases ih with h | ⟨x, hx, h⟩
      · exact .inl h
      · exact .inr ⟨x, by simp [hx], h⟩
theorem known_range {L : List S34} (h : Good L) (a s : Int) (h1 : 1 ≤ s) (h2 : s ≤ (knownR L a).1) : ∃ x ∈ L, x.f0.f1 = a ∧ x.f1 = s := by
  induction L using snoc_ind with
  | h0 => simp only [knownR, List.foldl_nil] at h2; omega
  | h1 L o ih =>
    obtain ⟨hg, hr⟩ := good_split h
    obtain ⟨_, k1, _, _⟩ := refR_none hr
    by_cases hs : s ≤ (knownR L a).1
    · obtain ⟨x, hx, e⟩ := ih hg hs
      exact ⟨x, by simp [hx], e⟩
    · rw [knownR_snoc] at h2
      unfold knStep at h2
      split at h2
      · rename_i e
        have := e.1
        rw [this] at k1
        simp only at h2
        exact ⟨o, by simp, e.1, by omega⟩
      · exact absurd h2 hs
theorem has_sub {L M : List S34} (h : ∀ x ∈ L, x ∈ M) {q : S31} (hq : hasR L q = true) : hasR M q = true := by
  unfold hasR at hq ⊢
  rw [List.any_eq_true] at hq ⊢
  obtain ⟨x, hx, e⟩ := hq
  exact ⟨x, h x hx, e⟩
/-- What a Put of one of the operations answers, whatever of them is known. -/
theorem meets_ref {L M : List S34} (hL : Good L) (hM : Good M) (hs : ∀ x ∈ M, x ∈ L) {o : S34} (ho : o ∈ L) : (refR M o = some 0 ∧ o ∈ M) ∨ (refR M o = some 6 ∧ ((knownR M o.f0.f1).1 < o.f1 - 1 ∨ (hasR M o.f3 = false ∧ o.f3 ≠ zid))) ∨ refR M o = none := by
  have hr := good_rights hL o ho
  have hge : 1 ≤ o.f1 := hr.2.1
  have hct : 1 ≤ o.f0.f0 := hr.1.1
  unfold refR
  rw [if_neg (fun k => k hr)]
  by_cases h1 : o.f1 ≤ (knownR M o.f0.f1).1
  · left
    rw [if_pos h1]
    obtain ⟨y, hy, e1, e2⟩ := known_range hM o.f0.f1 o.f1 hge h1
    rcases good_two hL y (hs y hy) o ho e1 with e | e | e
    · exact ⟨rfl, e ▸ hy⟩
    · omega
    · omega
  · right
    rw [if_neg h1]
    by_cases h2 : (knownR M o.f0.f1).1 ≠ o.f1 - 1 ∨ (hasR M o.f3 = false ∧ idq o.f3 zid = false)
    · left
      rw [if_pos h2]
      refine ⟨rfl, ?_⟩
      rcases h2 with h2 | ⟨h2, h3⟩
      · left; omega
      · exact .inr ⟨h2, (idq_no _ _).1 h3⟩
    · right
      rw [if_neg h2, if_neg]
      rcases known_at M o.f0.f1 with e | ⟨x, hx, e1, e2⟩
      · rw [e]; show ¬ o.f0.f0 ≤ 0; omega
      · rw [e2] at h1 h2 ⊢
        rcases good_two hL x (hs x hx) o ho e1 with e | e | e
        · rw [e] at h1; simp only at h1; omega
        · show ¬ o.f0.f0 ≤ x.f0.f0; omega
        · simp only at h1; omega
/-- The one that comes next of the right order is taken, or was. -/
theorem meets_next {L M : List S34} (hL : Good L) (hM : Good M) (hs : ∀ x ∈ M, x ∈ L) (j : Nat) (hj : j < L.length) (ht : ∀ x ∈ L.take j, x ∈ M) : (refR M L[j] = some 0 ∧ L[j] ∈ M) ∨ refR M L[j] = none := by
  have ho : L[j] ∈ L := List.getElem_mem hj
  rcases meets_ref hL hM hs ho with h | ⟨_, h⟩ | h
  · exact .inl h
  · exfalso
    obtain ⟨hr, h1, h2, h3⟩ := refR_none (hL j hj)
    rcases h with h | ⟨h, hz⟩
    · rcases known_at (L.take j) L[j].f0.f1 with e | ⟨x, hx, e1, e2⟩
      · rw [e] at h1
        rcases known_at M L[j].f0.f1 with e2 | ⟨y, hy, e3, e4⟩
        · rw [e2] at h; simp only at h h1; omega
        · rw [e4] at h
          have := (good_rights hM y hy).2.1
          simp only at h h1; omega
      · rw [e2] at h1
        have := (good_le hM x (ht x hx)).1
        rw [e1] at this
        simp only at h1; omega
    · rcases h2 with h2 | h2
      · rw [has_sub ht h2] at h; cases h
      · exact hz h2
  · exact .inr h
def desc (l : List S34) : Prop := l.Pairwise fun a b => LTi b.f0 a.f0
theorem insK_desc (x : S34) (l : List S34) (h : desc l) (hx : ∀ y ∈ l, y.f0 ≠ x.f0) : desc (insK x l) := by
  induction l with
  | nil => exact List.pairwise_singleton _ _
  | cons y l ih =>
    unfold desc at h ih ⊢
    rw [List.pairwise_cons] at h
    simp only [insK]
    split
    · rename_i hq
      rw [List.pairwise_cons]
      refine ⟨fun z hz => ?_, ih h.2 fun z hz => hx z (by simp [hz])⟩
      rcases (insK_mem x z l).1 hz with rfl | hz
      · exact (lessI_iff _ _).1 hq
      · exact h.1 z hz
    · rename_i hq
      have hlt : LTi y.f0 x.f0 := by
        rcases LTi.tri y.f0 x.f0 with k | k | k
        · exact k
        · exact absurd k (hx y (by simp))
        · exact absurd ((lessI_iff _ _).2 k) hq
      rw [List.pairwise_cons, List.pairwise_cons]
      refine ⟨fun z hz => ?_, h⟩
      rcases List.mem_cons.1 hz with rfl | hz
      · exact hlt
      · exact (h.1 z hz).tr hlt
theorem kids_iff (q : S31) (L : List S34) (z : S34) : z ∈ kids q L ↔ z ∈ L ∧ z.f2 = true ∧ z.f3 = q := by
  refine ⟨kids_mem q L z, ?_⟩
  induction L using snoc_ind with
  | h0 => rintro ⟨h, _⟩; cases h
  | h1 L x ih =>
    rintro ⟨h, h2, h3⟩
    rw [kids_snoc]
    rcases List.mem_append.1 h with h | h
    · have := ih ⟨h, h2, h3⟩
      split
      · exact (insK_mem _ _ _).2 (.inr this)
      · exact this
    · obtain rfl : z = x := by simpa using h
      rw [if_pos (by rw [h2, h3, idq_self]; rfl)]
      exact (insK_mem _ _ _).2 (.inl rfl)
theorem good_ids {L : List S34} (h : Good L) : (L.map (·.f0)).Nodup := by
  induction L using snoc_ind with
  | h0 => exact List.nodup_nil
  | h1 L o ih =>
    obtain ⟨hg, hr⟩ := good_split h
    obtain ⟨⟨F, hi⟩, ho⟩ := good_inv L hg
    have hn := refR_none hr
    have hf := (hi.fresh (o := o) (by rw [hi.last, ho]; exact hn.2.2.2)).2
    rw [ho] at hf
    rw [List.map_append, List.nodup_append]
    refine ⟨ih hg, by simp, ?_⟩
    intro a ha b hb
    obtain ⟨x, hx, rfl⟩ := List.mem_map.1 ha
    obtain rfl : b = o.f0 := by simpa using hb
    exact hf x hx
theorem kids_desc (q : S31) (L : List S34) (h : (L.map (·.f0)).Nodup) : desc (kids q L) := by
  induction L using snoc_ind with
  | h0 => exact List.Pairwise.nil
  | h1 L x ih =>
    rw [List.map_append, List.nodup_append] at h
    rw [kids_snoc]
    split
    · exact insK_desc x _ (ih h.1) fun y hy => h.2.2 _ (List.mem_map.2 ⟨y, (kids_mem q L y hy).1, rfl⟩) _ (by simp)
    · exact ih h.1
theorem desc_ext {a b : List S34} (ha : desc a) (hb : desc b) (h : ∀ x, x ∈ a ↔ x ∈ b) : a = b := by
  induction a generalizing b with
  | nil =>
    cases b with
    | nil => rfl
    | cons y b => exact absurd ((h y).2 (by simp)) (by simp)
  | cons x a ih =>
    cases b with
    | nil => exact absurd ((h x).1 (by simp)) (by simp)
    | cons y b =>
      unfold desc at ha hb ih
      rw [List.pairwise_cons] at ha hb
      have e : x = y := by
        rcases List.mem_cons.1 ((h x).1 (by simp)) with e | e
        · exact e
        · rcases List.mem_cons.1 ((h y).2 (by simp)) with k | k
          · exact k.symm
          · exact absurd (ha.1 y k) (hb.1 x e).asy
      subst e
      have ex : ∀ z, z ∈ a ↔ z ∈ b := fun z => by
        constructor
        · intro hz
          rcases List.mem_cons.1 ((h z).1 (by simp [hz])) with e | e
          · subst e; exact absurd (ha.1 z hz) (LTi.irr _)
          · exact e
        · intro hz
          rcases List.mem_cons.1 ((h z).2 (by simp [hz])) with e | e
          · subst e; exact absurd (hb.1 z hz) (LTi.irr _)
          · exact e
      rw [ih ha.2 hb.2 ex]
theorem kids_same {L M : List S34} (hL : Good L) (hM : Good M) (h : ∀ x, x ∈ L ↔ x ∈ M) (q : S31) : kids q L = kids q M :=
  desc_ext (kids_desc q L (good_ids hL)) (kids_desc q M (good_ids hM)) fun x => by rw [kids_iff, kids_iff, h x]
theorem fo_ext {L M : List S34} (hk : ∀ q, kids q L = kids q M) (F G : Fo) (hF : rep L F) (hG : rep M G) (h : F.tops = G.tops) : F = G := by
  induction F generalizing G with
  | nil =>
    cases G with
    | nil => rfl
    | cons e s n => cases h
  | cons e s n ihs ihn =>
    cases G with
    | nil => cases h
    | cons e2 s2 n2 =>
      simp only [Fo.tops, List.cons.injEq] at h
      obtain ⟨rfl, h2⟩ := h
      obtain ⟨f1, f2, f3⟩ := hF
      obtain ⟨g1, g2, g3⟩ := hG
      rw [ihs s2 f2 g2 (by rw [f1, g1, hk]), ihn n2 f3 g3 h2]
theorem dead_same {L M : List S34} (h : ∀ x, x ∈ L ↔ x ∈ M) (q : S31) : deadR L q = deadR M q := by
  unfold deadR
  rw [Bool.eq_iff_iff, List.any_eq_true, List.any_eq_true]
  constructor
  · rintro ⟨x, hx, e⟩; exact ⟨x, (h x).1 hx, e⟩
  · rintro ⟨x, hx, e⟩; exact ⟨x, (h x).2 hx, e⟩
theorem known_same {L M : List S34} (hL : Good L) (hM : Good M) (h : ∀ x, x ∈ L → x ∈ M) (a : Int) : (knownR L a).1 ≤ (knownR M a).1 := by
  rcases known_at L a with e | ⟨x, hx, e1, e2⟩
  · rw [e]
    rcases known_at M a with e2 | ⟨y, hy, _, e3⟩
    · rw [e2]; exact Int.le_refl _
    · rw [e3]
      have := (good_rights hM y hy).2.1
      show 0 ≤ y.f1
      omega
  · rw [e2]
    have := (good_le hM x (h x hx)).1
    rw [e1] at this
    exact this
/-- Whoever knows the same operations has the same text. -/
theorem meets_same {T U : TS} {F G : Fo} (hT : Inv T F) (hU : Inv U G) (gT : Good T.ops) (gU : Good U.ops) (h : ∀ x, x ∈ T.ops ↔ x ∈ U.ops) : T.l = U.l ∧ T.v = U.v := by
  have hk := kids_same gT gU h
  have e : F = G := fo_ext hk F G hT.rep hU.rep (by rw [hT.tops, hU.tops, hk])
  subst e
  constructor
  · rw [hT.l, hU.l]
    apply List.map_congr_left
    intro x _
    unfold toX
    rw [dead_same h]
  · apply ens_inj
    apply vec_ext hT.vec hU.vec
    intro a
    rw [hT.sq, hU.sq]
    have h1 := known_same gT gU (fun x => (h x).1) a
    have h2 := known_same gU gT (fun x => (h x).2) a
    omega
/-- Behind r rounds, and i steps more, of the row left. -/
structure Meet (L left : List S34) (r i : Nat) (T : TS) : Prop where
  inv : ∃ F, Inv T F
  good : Good T.ops
  sub : ∀ x ∈ T.ops, x ∈ L
  done : ∀ x ∈ L.take r, x ∈ T.ops
  now : ∀ h : r < L.length, L[r] ∈ left.take i → L[r] ∈ T.ops
theorem meet0 (L left : List S34) : Meet L left 0 0 T0 := ⟨⟨_, inv0⟩, good_nil, fun x h => (by cases h), fun x h => (by simp at h), fun h k => (by simp at k)⟩
theorem meet_step {L left : List S34} (hL : Good L) (hp : ∀ x, x ∈ left → x ∈ L) {r i : Nat} {T : TS} (h : Meet L left r i T) (hi : i < left.length) : ((putT T left[i]).1.2 = 0 ∨ (putT T left[i]).1.2 = 6) ∧ Meet L left r (i + 1) (putT T left[i]).2 := by
  obtain ⟨⟨F, hT⟩, hg, hs, hd, hn⟩ := h
  have ho : left[i] ∈ L := hp _ (List.getElem_mem hi)
  have hm : ∀ x, x ∈ left.take (i + 1) → x ∈ left.take i ∨ x = left[i] := fun x hx => by
    rw [take_snoc left i hi, List.mem_append] at hx
    rcases hx with k | k
    · exact .inl k
    · exact .inr (by simpa using k)
  generalize left[i] = o at *
  have hput : (∃ e, refS T o = some e ∧ putT T o = ((false, e), T)) ∨ (refS T o = none ∧ putT T o = ((true, 0), takeS T o)) := by
    unfold putT
    cases refS T o with
    | some e => exact .inl ⟨e, rfl, rfl⟩
    | none => exact .inr ⟨rfl, rfl⟩
  rcases hput with ⟨e, h1, h2⟩ | ⟨h1, h2⟩
  · rw [h2]
    have h3 := h1
    rw [hT.ref] at h3
    refine ⟨?_, ⟨F, hT⟩, hg, hs, hd, fun hr hx => ?_⟩
    · rcases meets_ref hL hg hs ho with k | k | k
      · rw [k.1] at h3; injection h3 with h3; exact .inl h3.symm
      · rw [k.1] at h3; injection h3 with h3; exact .inr h3.symm
      · rw [k] at h3; cases h3
    · rcases hm _ hx with k | k
      · exact hn hr k
      · subst k
        rcases meets_next hL hg hs r hr hd with k | k
        · exact k.2
        · rw [k] at h3; cases h3
  · rw [h2]
    have h3 := h1
    rw [hT.ref] at h3
    have hops : (takeS T o).ops = T.ops ++ [o] := rfl
    refine ⟨.inl rfl, inv_take hT h1, by rw [hops]; exact good_snoc hg h3, fun x hx => ?_, fun x hx => ?_, fun hr hx => ?_⟩
    · rw [hops, List.mem_append] at hx
      rcases hx with k | k
      · exact hs x k
      · obtain rfl : x = o := by simpa using k
        exact ho
    · rw [hops]; exact List.mem_append.2 (.inl (hd x hx))
    · rw [hops]
      rcases hm _ hx with k | k
      · exact List.mem_append.2 (.inl (hn hr k))
      · exact List.mem_append.2 (.inr (by simp [k]))
theorem meet_round {L left : List S34} (hp : ∀ x, x ∈ L → x ∈ left) {r : Nat} {T : TS} (h : Meet L left r left.length T) : Meet L left (r + 1) 0 T := by
  obtain ⟨hT, hg, hs, hd, hn⟩ := h
  refine ⟨hT, hg, hs, fun x hx => ?_, fun hr hx => by simp at hx⟩
  by_cases hr : r < L.length
  · rw [take_snoc L r hr, List.mem_append] at hx
    rcases hx with k | k
    · exact hd x k
    · obtain rfl : x = L[r] := by simpa using k
      exact hn hr (by rw [List.take_length]; exact hp _ (List.getElem_mem hr))
  · rw [List.take_of_length_le (by omega)] at hx
    exact hd x (by rw [List.take_of_length_le (by omega)]; exact hx)
theorem meet_end {L left : List S34} (hL : Good L) {r : Nat} {T : TS} (h : Meet L left r 0 T) (hr : L.length ≤ r) : T.l = (TSof L).l ∧ T.v = (TSof L).v := by
  obtain ⟨⟨F, hT⟩, hg, hs, hd, hn⟩ := h
  obtain ⟨⟨G, hU⟩, ho⟩ := good_inv L hL
  refine meets_same hT hU hg (by rw [ho]; exact hL) fun x => ?_
  rw [ho]
  exact ⟨hs x, fun hx => hd x (by rw [List.take_of_length_le hr]; exact hx)⟩
theorem nd_len {α : Type} (a : List α) : ∀ b : List α, a.Nodup → (∀ x ∈ a, x ∈ b) → a.length ≤ b.length := by
  induction a with
  | nil => intro b _ _; exact Nat.zero_le _
  | cons x a ih =>
    intro b hn hs
    obtain ⟨h1, h2⟩ := List.nodup_cons.1 hn
    obtain ⟨s, t, e⟩ := List.append_of_mem (hs x (by simp))
    have := ih (s ++ t) h2 fun y hy => by
      have hm := hs y (by simp [hy])
      rw [e, List.mem_append, List.mem_cons] at hm
      rw [List.mem_append]
      rcases hm with k | k | k
      · exact .inl k
      · subst k; exact absurd hy h1
      · exact .inr k
    rw [e]
    rw [List.length_append] at this
    rw [List.length_append, List.length_cons, List.length_cons]
    omega
theorem meet_len {L left : List S34} (hL : Good L) {r i : Nat} {T : TS} (h : Meet L left r i T) : T.ops.length ≤ L.length := by
  have := nd_len (T.ops.map (·.f0)) (L.map (·.f0)) (good_ids h.good) (fun x hx => List.map_subset (fun o : S34 => o.f0) (l₁ := T.ops) (l₂ := L) (fun y hy => h.sub y hy) hx)
  rwa [List.length_map, List.length_map] at this
end Go.Proofs.Ytehdjdediobemaa.PC
namespace Go.Proofs.Ytehdjdediobemaa.PC
open Go.RowKit Go.Proofs.YtehdjdediobemaaW.PrintWords Go.Proofs.YtehdjdediobemaaW.PrintLast Go.Proofs.YtehdjdediobemaaW.PrintMore Go.Proofs.Ytehdjdediobemaa.K Go.Proofs.Ytehdjdediobemaa.IX Go.Proofs.Ytehdjdediobemaa.I
set_option linter.unusedVariables false
set_option linter.unusedSimpArgs false
theorem own_set {w : World} {base e size n g cap : Nat} {cs : List Value} (h : w.ownsRow base e size (.slice (some ⟨g, 0, none⟩) n cap) n cs) (j : Nat) (u : Value) : (w.setCell ⟨g, j, none⟩ u).ownsRow base e size (.slice (some ⟨g, 0, none⟩) n cap) n (cs.set j u) := by
  obtain ⟨h1, h2⟩ := h
  refine ⟨by rw [List.length_set]; exact h1, ?_⟩
  rcases h2 with ⟨h2, _⟩ | ⟨g2, cap2, cur, e2, hb, hg, hn, hm, hs, ht⟩
  · cases h2
  · injection e2 with e3 _ e4
    injection e3 with e3
    injection e3 with e3
    subst e3 e4
    refine .inr ⟨g, cap, _, rfl, hb, heap_set w g j u hg, hn, hm, by simpa using hs, ?_⟩
    rw [Array.toList_setIfInBounds, List.take_set, ht]
theorem flO_set (xs : List S34) (i : Nat) (h : i < xs.length) (o : S34) : (((((((xs.flatMap flO).set (i * 7) (.int .i64 o.f0.f0)).set (i * 7 + 1) (.int .i64 o.f0.f1)).set (i * 7 + 2) (.int .i64 o.f1)).set (i * 7 + 3) (.bool o.f2)).set (i * 7 + 4) (.int .i64 o.f3.f0)).set (i * 7 + 5) (.int .i64 o.f3.f1)).set (i * 7 + 6) (.int .i32 o.f4) = (xs.set i o).flatMap flO := by
  induction xs generalizing i with
  | nil => cases h
  | cons x xs ih =>
    cases i with
    | zero => rfl
    | succ i =>
      have e : ∀ (k : Nat) (u : Value) (l : List Value), (flO x ++ l).set ((i + 1) * 7 + k) u = flO x ++ l.set (i * 7 + k) u := fun k u l => by
        rw [List.set_append_right _ _ (by rw [show (flO x).length = 7 from rfl]; omega), show (flO x).length = 7 from rfl, show (i + 1) * 7 + k - 7 = i * 7 + k by omega]
      have e0 : ∀ (u : Value) (l : List Value), (flO x ++ l).set ((i + 1) * 7) u = flO x ++ l.set (i * 7) u := fun u l => e 0 u l
      rw [List.flatMap_cons, List.set_cons_succ, List.flatMap_cons, e0, e, e, e, e, e, e, ih i (by simpa using h)]
theorem St.op_set {w0 w : World} {g n c : Nat} {L : List S34} {B : As} (b : Asn B) (h : St w0 w (sep (isRow k34 34 (.slice (some ⟨g, 0, none⟩) n c) L) B)) (i : Nat) (hi : i < L.length) (o : S34) :
    St w0 (((((((w.setCell ⟨g, i * 7, none⟩ (.int .i64 o.f0.f0)).setCell ⟨g, i * 7 + 1, none⟩ (.int .i64 o.f0.f1)).setCell ⟨g, i * 7 + 2, none⟩ (.int .i64 o.f1)).setCell ⟨g, i * 7 + 3, none⟩ (.bool o.f2)).setCell ⟨g, i * 7 + 4, none⟩ (.int .i64 o.f3.f0)).setCell ⟨g, i * 7 + 5, none⟩ (.int .i64 o.f3.f1)).setCell ⟨g, i * 7 + 6, none⟩ (.int .i32 o.f4)) (sep (isRow k34 34 (.slice (some ⟨g, 0, none⟩) n c) (L.set i o)) B) := by
  obtain ⟨F, ⟨FA, FB, ⟨h1, rfl⟩, h2, rfl, hd⟩, hb, hn⟩ := h
  obtain ⟨A2, c2, e2, _, _⟩ := Kd.R_reads h1
  injection e2 with e3 e4 e5
  have hown := flat_Op.owns h1
  rw [← e4] at hown
  have h9 := own_set (own_set (own_set (own_set (own_set (own_set (own_set hown (i * 7) (.int .i64 o.f0.f0)) (i * 7 + 1) (.int .i64 o.f0.f1)) (i * 7 + 2) (.int .i64 o.f1)) (i * 7 + 3) (.bool o.f2)) (i * 7 + 4) (.int .i64 o.f3.f0)) (i * 7 + 5) (.int .i64 o.f3.f1)) (i * 7 + 6) (.int .i32 o.f4)
  rw [flO_set L i hi o] at h9
  have hl : (L.set i o).length = n := by rw [List.length_set]; exact e4.symm
  have hr := Rw.of flat_Op.E (flat_Op.R (by rw [hl]; exact h9))
  have st : ∀ (W : World) (k : Nat) (u : Value), Fr [g] W (W.setCell ⟨g, k, none⟩ u) := fun W k u => Fr.of_set (F := [g]) W ⟨g, k, none⟩ u (by simp)
  have tr : ∀ {a b c : World}, Fr [g] a b → Fr [g] b c → Fr [g] a c := fun x y => x.trans y (fun _ h => .inl h)
  exact St.upd (A := isRow k34 34 (.slice (some ⟨g, 0, none⟩) n c) L) (FA := [g]) b (fun k m => hn k (List.mem_append_left _ m)) h2 hd hb (fun k m => hn k (List.mem_append_right _ m)) (tr (tr (tr (tr (tr (tr (st _ _ _) (st _ _ _)) (st _ _ _)) (st _ _ _)) (st _ _ _)) (st _ _ _)) (st _ _ _)) ⟨hr, rfl⟩ (fun k hk => .inl hk)
/-- A row of the call's own that is not empty lies in a block. -/
theorem St.own_ptr {w0 w : World} {A : Option Addr} {n c : Nat} {L : List S34} {B : As} (h : St w0 w (sep (isRow k34 34 (.slice A n c) L) B)) (hp : 0 < n) : ∃ g, A = some ⟨g, 0, none⟩ ∧ ∀ o, w.frozen? ⟨g, o, none⟩ = false := by
  obtain ⟨F, ⟨FA, FB, ⟨h1, rfl⟩, h2, rfl, hd⟩, hb, hn⟩ := h
  obtain ⟨_, h2⟩ := flat_Op.owns h1
  rcases h2 with ⟨h2, _⟩ | ⟨g2, cap2, cur, e2, _, hg, _⟩
  · injection h2 with _ h3 _; omega
  · injection e2 with e3 _ _
    exact ⟨g2, e3, free_of hg⟩
theorem mem_swap {α : Type} (M : List α) (i k : Nat) (hi : i < M.length) (hk : k < M.length) (x : α) : x ∈ (M.set i M[k]).set k M[i] ↔ x ∈ M := by
  constructor
  · intro h
    rcases List.mem_or_eq_of_mem_set h with h | h
    · rcases List.mem_or_eq_of_mem_set h with h | h
      · exact h
      · rw [h]; exact List.getElem_mem hk
    · rw [h]; exact List.getElem_mem hi
  · intro h
    obtain ⟨j, hj, e⟩ := List.getElem_of_mem h
    by_cases h1 : j = i
    · subst h1
      exact List.mem_iff_getElem.2 ⟨k, by simpa using hk, by rw [List.getElem_set_self]; exact e⟩
    · by_cases h2 : j = k
      · subst h2
        refine List.mem_iff_getElem.2 ⟨i, by simpa using hi, ?_⟩
        rw [List.getElem_set_ne h1, List.getElem_set_self]
        exact e
      · refine List.mem_iff_getElem.2 ⟨j, by simpa using hj, ?_⟩
        rw [List.getElem_set_ne (fun q => h2 q.symm), List.getElem_set_ne (fun q => h1 q.symm)]
        exact e
end Go.Proofs.Ytehdjdediobemaa.PC
namespace Go.Proofs.Ytehdjdediobemaa.PC
open Go.RowKit Go.Proofs.YtehdjdediobemaaW.PrintWords Go.Proofs.YtehdjdediobemaaW.PrintLast Go.Proofs.YtehdjdediobemaaW.PrintMore Go.Proofs.Ytehdjdediobemaa.K Go.Proofs.Ytehdjdediobemaa.IX Go.Proofs.Ytehdjdediobemaa.I
attribute [local go_sem] max2_int min2_int max_two min_two max_three min_three max_four min_four
attribute [local go_sem high] eqA31
set_option linter.unusedVariables false
set_option linter.unusedSimpArgs false
theorem good_putM {L : List S34} (hg : Good L) (hl : L.length ≤ 1000) (k : Nat) (hk : k < L.length) {w0 w : World} {p : Nat} {B : As} (b : Asn B) (h : St w0 w (sep (isTx p (TSof (L.take k))) B)) :
    Calls Try.prog 14 #[.pointer (some ⟨p, 0, none⟩), opV L[k]] w fun e w' => e = .returned (.tuple #[.bool true, .int .i64 0]) ∧ St w0 w' (sep (isTx p (TSof (L.take (k + 1)))) B) := by
  obtain ⟨⟨F, hi⟩, ho⟩ := good_inv _ (good_take hg k)
  exact put_named (good_step hg k hk) hi (by rw [ho, List.length_take]; omega) b h
theorem vec_nm {w0 w : World} {p n : Nat} {T : TS} {B : As} {a : List S80} (b : Asn B) (h : St w0 w (sep (isTx p T) B)) (hl : T.v.length ≤ 100000) (ha : T.v = a) (hn : a.length = n) : Calls Try.prog 21 #[.pointer (some ⟨p, 0, none⟩)] w fun e w' => ∃ A c, e = .returned (.slice A n c) ∧ Below w.heap.size w w' ∧ St w0 w' (sep (isRow k80 80 (.slice A n c) a) (sep (isTx p T) B)) := by
  obtain ⟨F, ⟨FA, FB, h1, h2, rfl, hd⟩, hb, hn2⟩ := id h
  refine (vec_calls w FA p T h1 (by omega)).mono ?_
  rintro e w' ⟨v, rfl, hr, hb2⟩
  rw [ha] at hr
  obtain ⟨A, c, rfl⟩ := Kd.R_slice hr
  rw [hn] at hr ⊢
  exact ⟨A, c, rfl, hb2, St.row rfl h (asn_sep (asn_tx p T) b) hb2 hr⟩
theorem same12_nm {w0 w1 w0' w2 W : World} {B B' : As} {A A' : Option Addr} {n c c' : Nat} {xs : List S80} (h1 : St w0 w1 (sep (isRow k80 80 (.slice A n c) xs) B)) (b1 : Below w1.heap.size w1 W) (h2 : St w0' w2 (sep (isRow k80 80 (.slice A' n c') xs) B')) (b2 : Below w2.heap.size w2 W) (hl : n ≤ 100000) : Calls Try.prog 25 #[.slice A n c, .slice A' n c'] W fun e w' => e = .returned (.bool true) ∧ Below W.heap.size W w' := by
  obtain ⟨e1, k1, r1⟩ := h1.later b1
  obtain ⟨e2, k2, r2⟩ := h2.later b2
  have := same12_is r1 (c := c) (by omega) r2 (d := c') (by omega) (by omega)
  rw [e1] at this
  refine this.mono ?_
  rintro e w' ⟨he, m, rfl⟩
  exact ⟨he, pw_below_drewN (Below.refl _ _) m⟩
theorem cell_int {w wr : World} {A : Option Addr} {l : List Int} (h : Kd.C (Kd.int .i64) w A l.length l) (hb : Below w.heap.size w wr) (i : Nat) (hi : i < l.length) : ∃ ad, A = some ad ∧ wr.cell? (ad.add i) = some (.int .i64 l[i]) := by
  obtain ⟨ad, e, hc⟩ := h.2.2 (by omega)
  obtain ⟨cs, h1, h2, hcell⟩ := hc i _ (List.getElem?_eq_getElem hi)
  obtain rfl : cs = [.int .i64 l[i]] := h2
  have h0 := hcell 0 _ rfl
  have h0 : w.cell? (ad.add i) = some (.int .i64 l[i]) := by
    have e2 : i * (Kd.int .i64).sz + 0 = i := by show i * 1 + 0 = i; omega
    rw [e2] at h0; exact h0
  exact ⟨ad, e, (hb.cell (World.block_lt_of_cell? w _ h0)).trans h0⟩
set_option maxHeartbeats 8000000 in
set_option maxRecDepth 100000 in
theorem rmeets_row (A : Option Addr) (cap : Nat) (l : List S34) (A2 : Option Addr) (cap2 : Nat) (z : List Int) (w : World) (hr : Kd.C k34 w A l.length l) (hc : l.length ≤ cap) (hy : l.length * 56 ≤ 140737488351232) (hg : ∀ y ∈ l, True) (hr2 : Kd.C (Kd.int .i64) w A2 z.length z) (hc2 : z.length ≤ cap2) (hy2 : z.length * 8 ≤ 140737488351232) (hg2 : ∀ y ∈ z, (Lit.int .i64 y).wf = true) :
    Calls Try.prog 6 #[.slice A l.length cap, .slice A2 z.length cap2] w fun e w' => e = .returned (.bool true) ∧ Below w.heap.size w w' := by
  have HSH := Lib.hid (shown14_calls w)
  have HRZ := Lib.hid hr2
  have hl30 : (rightL (l.take 30)).length ≤ 30 := Nat.le_trans (rightL_len _) (by rw [List.length_take]; omega)
  have KR := Lib.hid (show ∀ W B, Asn B → St w W B → Calls Try.prog 18 #[.slice A l.length cap, .int .i64 30] W fun e w' => ∃ A' n c', e = .returned (.slice A' n c') ∧ (rightL (l.take 30)).length = n ∧ St w w' (sep (isRow k34 34 (.slice A' n c') (rightL (l.take 30))) B) from fun W B b h => (right14_st b h A cap l 30 hr hc (by omega) (by omega)).mono fun e w' ⟨A', n, c', h1, h2, h3⟩ => ⟨A', n, c', h1, h2.symm, h3⟩)
  have HG := Lib.hid (good_right (l.take 30))
  generalize rightL (l.take 30) = L at *
  obtain ⟨len, hlen⟩ : ∃ len, l.length = len := ⟨_, rfl⟩
  obtain ⟨lz, hlz⟩ : ∃ lz, z.length = lz := ⟨_, rfl⟩
  rw [hlen] at KR hc hy ⊢
  rw [hlz] at hc2 hy2 ⊢
  have HLZ := Lib.hid hlz
  have hlz2 : lz ≤ 140737488351232 := by omega
  obtain ⟨n, hn⟩ : ∃ n, L.length = n := ⟨_, rfl⟩
  rw [hn] at KR hl30
  have HNL := Lib.hid hn
  obtain ⟨⟨Fo', hI⟩, hops⟩ := good_inv L HG.out
  have hll := hI.ll
  have hvl := hI.vl
  rw [hops] at hll hvl
  have HLL := Lib.hid (show (TSof L).l.length ≤ 1000 by omega)
  have HVL := Lib.hid (show (TSof L).v.length ≤ 1000 by omega)
  clear hr hg hn hlen hr2 hg2 hlz hI hops hll hvl hy hy2
  go_enter Try.func6, Try.ntmps6
  go_wp2_with (first
    | (go_at_call 11; refine HSH.out.mono ?_; rintro e w1 ⟨rfl, hb⟩; have HS := Lib.hid ((St.emp w).below asn_emp hb); clear hb)
    | (go_at_call 12; with_reducible refine (new_st asn_emp HS.out).mono ?_; rintro e w2 ⟨p, rfl, hS⟩; have HS2 := Lib.hid hS; clear hS)
    | (go_at_call 12; with_reducible refine (new_st (asn_sep (asn_tx _ _) asn_emp) HS2.out).mono ?_; rintro e w3 ⟨q, rfl, hS⟩; have HS3 := Lib.hid hS.turn; clear hS)
    | (go_at_call 18; with_reducible refine (KR.out _ _ (asn_sep (asn_tx _ _) (asn_sep (asn_tx _ _) asn_emp)) HS3.out).mono ?_; rintro e w5 ⟨A5, n5, c5, rfl, hn5, hS⟩; subst hn5; have HS5 := Lib.hid (hS.to3); clear hS))
  have AR := Lib.hid (asn_sep (asn_row k34 34 (.slice A5 n c5) L) asn_emp)
  have AQ := Lib.hid (show Asn (sep (isTx q T0) (sep (isRow k34 34 (.slice A5 n c5) L) emp)) from asn_sep (asn_tx _ _) AR.out)
  have HROW := Lib.hid (fun W C D (h : St w W (sep C (sep D (sep (isRow k34 34 (.slice A5 n c5) L) emp)))) => h.snd.snd.op_row)
  go_loopg [9] n (fun kq v9 wr => ∃ (i : Nat), v9 = .int .i64 (i : Int) ∧ Aside0 (kq + i = n ∧ St w wr (sep (isTx p (TSof (L.take i))) (sep (isTx q T0) (sep (isRow k34 34 (.slice A5 n c5) L) emp)))))
  case atStart => exact ⟨0, rfl, by omega, HS5.out⟩
  case round =>
    obtain ⟨i, rfl, HI⟩ := hrel
    have hki := HI.out.1
    have hS := HI.out.2
    by_cases hlt : i < n
    · have hil : i < L.length := by rw [HNL.out]; exact hlt
      obtain ⟨ad, rfl, c0, c1, c2, c3, c4, c5', c6⟩ := HROW.out _ _ _ hS i hil
      have K1 := Lib.hid (fun W p B (b : Asn B) (h : St w W (sep (isTx p (TSof (L.take i))) B)) => good_putM HG.out (by rw [HNL.out]; omega) i hil b h)
      have hd1 : decide (i < n) = true := by simpa using hlt
      generalize L[i] = o at c0 c1 c2 c3 c4 c5' c6 K1
      unfold opV at K1
      obtain ⟨⟨o0, o1⟩, o2, o3, ⟨o4, o5⟩, o6⟩ := o
      simp only at c0 c1 c2 c3 c4 c5' c6
      have HS0 := Lib.hid hS
      clear hS HI
      go_wp2_with (go_at_call 14; with_reducible refine (K1.out _ p _ AQ.out HS0.out).mono ?_; rintro e w6 ⟨rfl, hS6⟩; have HS6 := Lib.hid hS6; clear hS6 c0 c1 c2 c3 c4 c5' c6)
      go_roundg (n - (i + 1))
      case measure => omega
      case rel => exact ⟨i + 1, by go_num, by omega, HS6.out⟩
    · obtain rfl : i = n := by omega
      have hd1 : decide (i < i) = false := by simp
      rw [show L.take i = L from List.take_of_length_le (by rw [HNL.out]; exact Nat.le_refl _)] at hS
      have HS6 := Lib.hid (lits_st flat_Op 34 (asn_sep (asn_tx _ _) AQ.out) hS [] (by decide))
      obtain ⟨B5, c55, e5, hc5', hr5'⟩ := HS6.out.snd.snd.snd.reads
      injection e5 with e5 e54 e55
      subst e5 e55
      obtain ⟨A8, n8, c8, w7, e7, hn7, hS7⟩ := app_st flat_Op (t := 38) (e := 34) (bytes := 56) Try.underlying38 info34 rfl (by decide) (asn_sep (asn_tx _ _) AQ.out) HS6.out hr5' hc5' (by rw [HNL.out]; simp only [List.length_nil]; omega) 38
      rw [List.nil_append, HNL.out] at hn7
      subst hn7
      rw [HNL.out] at e7
      have HE7 := Lib.hid e7
      have HS7 := Lib.hid (show St w w7 (sep (isRow k34 34 (.slice A8 n8 c8) L) (sep (isTx p (TSof L)) (sep (isTx q T0) emp))) from hS7.fourth.snd)
      clear e7 hS7 hr5' hc5' e54 hS HI
      obtain ⟨N, hN⟩ : ∃ N, min n8 lz = N := ⟨_, rfl⟩
      have hN1 : N ≤ n8 := by omega
      have hN2 : N ≤ lz := by omega
      have HN3 := Lib.hid (show n8 ≤ N ∨ lz = N by omega)
      clear hN
      go_wp2_with (at_builtin; refine Lib.wpList_append_run _ rfl _ _ _ _ rfl _ _ rfl rfl _ _ HE7.out ?_)
      go_loopg [13] N (fun kq v13 wr => ∃ (i : Nat) (M : List S34), v13 = .int .i64 (i : Int) ∧ Aside0 (kq + i = N ∧ M.length = n8 ∧ (∀ x, x ∈ M ↔ x ∈ L) ∧ St w wr (sep (isRow k34 34 (.slice A8 n8 c8) M) (sep (isTx p (TSof L)) (sep (isTx q T0) emp)))))
      case atStart => exact ⟨0, L, rfl, by omega, HNL.out, fun _ => Iff.rfl, HS7.out⟩
      case round =>
        obtain ⟨i, M, rfl, HI⟩ := hrel
        have hki := HI.out.1
        by_cases hlt : i < N
        · have hiM : i < M.length := by rw [HI.out.2.1]; omega
          have hnp : 0 < n8 := by omega
          have hiz : i < z.length := by rw [HLZ.out]; omega
          have HSI := Lib.hid HI.out.2.2.2
          have HML := Lib.hid HI.out.2.1
          have HME := Lib.hid HI.out.2.2.1
          obtain ⟨ad2, rfl, cz⟩ := cell_int HRZ.out HSI.out.bel i hiz
          generalize z[i] = zi at cz
          obtain ⟨g, rfl, zf⟩ := HSI.out.own_ptr hnp
          have HZF := Lib.hid zf
          obtain ⟨x1, hx1⟩ : ∃ y, Go.bits .and .i64 zi 65535 = y := ⟨_, rfl⟩
          have hb1 := bits16 zi
          rw [hx1] at hb1
          have hp1 := Int.emod_nonneg x1 (show (n8 : Int) ≠ 0 by omega)
          have hp2 := Int.emod_lt_of_pos x1 (show (0 : Int) < (n8 : Int) by omega)
          obtain ⟨k, hk⟩ : ∃ k : Nat, x1 % (n8 : Int) = (k : Int) := ⟨(x1 % (n8 : Int)).toNat, by omega⟩
          have hkn : k < n8 := by omega
          have hkM : k < M.length := by rw [HML.out]; exact hkn
          have hin : i < n8 := by omega
          have hd2 : decide (i < n8) = true := by simpa using hin
          have hd3 : decide (i < lz) = true := by simp; omega
          obtain ⟨ad4, e4, c0, c1, c2, c3, c4, c5', c6⟩ := HSI.out.op_row i hiM
          obtain ⟨ad5, e5, d0, d1, d2, d3, d4, d5', d6⟩ := HSI.out.op_row k hkM
          injection e4 with e4
          injection e5 with e5
          subst e4 e5
          simp only [Addr.add_lit, Nat.zero_add] at c0 c1 c2 c3 c4 c5' c6 d0 d1 d2 d3 d4 d5' d6
          have hsw := fun x => (mem_swap M i k hiM hkM x).trans (HME.out x)
          generalize M[i] = oi at *
          generalize M[k] = ok at *
          have HMM := Lib.hid hsw
          have HSS := Lib.hid (And.intro d0 (And.intro d1 (And.intro d2 (And.intro d3 (And.intro d4 (And.intro d5' (And.intro d6 (And.intro c0 (And.intro c1 (And.intro c2 (And.intro c3 (And.intro c4 (And.intro c5' c6)))))))))))))
          have hz0 : (n8 == 0) = false := by simp; omega
          have hz1 : ((n8 : Int) == 0) = false := by simp; omega
          clear hsw c0 c1 c2 c3 c4 c5' c6 d0 d1 d2 d3 d4 d5' d6 zf HI
          go_wp2
          have hj0 : (0 : Int) ≤ (i : Int) := by omega
          have hj1 : (i : Int) < (n8 : Int) := by omega
          have hj2 : (0 : Int) ≤ (k : Int) := by omega
          have hj3 : (k : Int) < (n8 : Int) := by omega
          -- region 18
          refine startZ (z := 12) (S := (fun W => W.cell? ⟨g, k * 7, none⟩ = some (.int .i64 ok.f0.f0) ∧ W.cell? ⟨g, k * 7 + 1, none⟩ = some (.int .i64 ok.f0.f1) ∧ W.cell? ⟨g, k * 7 + 2, none⟩ = some (.int .i64 ok.f1) ∧ W.cell? ⟨g, k * 7 + 3, none⟩ = some (.bool ok.f2) ∧ W.cell? ⟨g, k * 7 + 4, none⟩ = some (.int .i64 ok.f3.f0) ∧ W.cell? ⟨g, k * 7 + 5, none⟩ = some (.int .i64 ok.f3.f1) ∧ W.cell? ⟨g, k * 7 + 6, none⟩ = some (.int .i32 ok.f4) ∧ W.cell? ⟨g, i * 7, none⟩ = some (.int .i64 oi.f0.f0) ∧ W.cell? ⟨g, i * 7 + 1, none⟩ = some (.int .i64 oi.f0.f1) ∧ W.cell? ⟨g, i * 7 + 2, none⟩ = some (.int .i64 oi.f1) ∧ W.cell? ⟨g, i * 7 + 3, none⟩ = some (.bool oi.f2) ∧ W.cell? ⟨g, i * 7 + 4, none⟩ = some (.int .i64 oi.f3.f0) ∧ W.cell? ⟨g, i * 7 + 5, none⟩ = some (.int .i64 oi.f3.f1) ∧ W.cell? ⟨g, i * 7 + 6, none⟩ = some (.int .i32 oi.f4))) (by kernel_rfl) ?_
          show ZG _ _ _ _ _ _ 16 _ _ _
          refine takeW (i := 0) (v := ?_) rfl (by kernel_rfl) (by kernel_rfl) (by kernel_rfl) (by decide) (fun _ _ _ h => h) rfl (by exact HSS.out) ?_ ?_
          rotate_left
          · intro wq; go_simp; try (with_reducible rfl)
          try simp only [Act.put, List.setIfInBounds_toArray, List.set_cons_zero, List.set_cons_succ]
          refine takeW (i := 1) (v := ?_) rfl (by kernel_rfl) (by kernel_rfl) (by kernel_rfl) (by decide) (fun _ _ _ h => h) rfl (by exact HSS.out) ?_ ?_
          rotate_left
          · intro wq; go_simp; try (with_reducible rfl)
          try simp only [Act.put, List.setIfInBounds_toArray, List.set_cons_zero, List.set_cons_succ]
          refine takeW (i := 2) (v := ?_) rfl (by kernel_rfl) (by kernel_rfl) (by kernel_rfl) (by decide) (fun _ _ _ h => h) rfl (by exact HSS.out) ?_ ?_
          rotate_left
          · intro wq; go_simp; try (with_reducible rfl)
          try simp only [Act.put, List.setIfInBounds_toArray, List.set_cons_zero, List.set_cons_succ]
          refine takeW (i := 3) (v := ?_) rfl (by kernel_rfl) (by kernel_rfl) (by kernel_rfl) (by decide) (fun _ _ _ h => h) rfl (by exact HSS.out) ?_ ?_
          rotate_left
          · intro wq; go_simp; try (with_reducible rfl)
          try simp only [Act.put, List.setIfInBounds_toArray, List.set_cons_zero, List.set_cons_succ]
          refine takeW (i := 4) (v := ?_) rfl (by kernel_rfl) (by kernel_rfl) (by kernel_rfl) (by decide) (fun _ _ _ h => h) rfl (by exact HSS.out) ?_ ?_
          rotate_left
          · intro wq; go_simp; try (with_reducible rfl)
          try simp only [Act.put, List.setIfInBounds_toArray, List.set_cons_zero, List.set_cons_succ]
          refine takeW (i := 5) (v := ?_) rfl (by kernel_rfl) (by kernel_rfl) (by kernel_rfl) (by decide) (fun _ _ _ h => h) rfl (by exact HSS.out) ?_ ?_
          rotate_left
          · intro wq; go_simp; try (with_reducible rfl)
          try simp only [Act.put, List.setIfInBounds_toArray, List.set_cons_zero, List.set_cons_succ]
          refine takeW (i := 6) (v := ?_) rfl (by kernel_rfl) (by kernel_rfl) (by kernel_rfl) (by decide) (fun _ _ _ h => h) rfl (by exact HSS.out) ?_ ?_
          rotate_left
          · intro wq; go_simp; try (with_reducible rfl)
          try simp only [Act.put, List.setIfInBounds_toArray, List.set_cons_zero, List.set_cons_succ]
          refine takeZ (i := 7) (f0 := 6) (v := ?_) rfl (by kernel_rfl) (by kernel_rfl) (by kernel_rfl) (by decide) (by kernel_rfl) (fun _ _ _ h => h) rfl (by exact HSS.out) ?_ ?_
          rotate_left
          · intro wq hSw; (try dsimp only at hSw); go_split_ands; go_simp; try (with_reducible rfl)
          try simp only [Act.put, List.setIfInBounds_toArray, List.set_cons_zero, List.set_cons_succ]
          refine takeW (i := 8) (v := ?_) rfl (by kernel_rfl) (by kernel_rfl) (by kernel_rfl) (by decide) (fun _ _ _ h => h) rfl (by exact HSS.out) ?_ ?_
          rotate_left
          · intro wq; go_simp; try (with_reducible rfl)
          try simp only [Act.put, List.setIfInBounds_toArray, List.set_cons_zero, List.set_cons_succ]
          refine takeW (i := 9) (v := ?_) rfl (by kernel_rfl) (by kernel_rfl) (by kernel_rfl) (by decide) (fun _ _ _ h => h) rfl (by exact HSS.out) ?_ ?_
          rotate_left
          · intro wq; go_simp; try (with_reducible rfl)
          try simp only [Act.put, List.setIfInBounds_toArray, List.set_cons_zero, List.set_cons_succ]
          refine takeW (i := 10) (v := ?_) rfl (by kernel_rfl) (by kernel_rfl) (by kernel_rfl) (by decide) (fun _ _ _ h => h) rfl (by exact HSS.out) ?_ ?_
          rotate_left
          · intro wq; go_simp; try (with_reducible rfl)
          try simp only [Act.put, List.setIfInBounds_toArray, List.set_cons_zero, List.set_cons_succ]
          refine takeZ (i := 11) (f0 := 6) (v := ?_) rfl (by kernel_rfl) (by kernel_rfl) (by kernel_rfl) (by decide) (by kernel_rfl) (fun _ _ _ h => h) rfl (by exact HSS.out) ?_ ?_
          rotate_left
          · intro wq hSw; (try dsimp only at hSw); go_split_ands; go_simp; try (with_reducible rfl)
          try simp only [Act.put, List.setIfInBounds_toArray, List.set_cons_zero, List.set_cons_succ]
          refine seqZ (l := _ :: _) rfl rfl (by kernel_rfl) (by decide) ?_
          obtain ⟨q0, q1, q2, q3, q4, q5, q6, p0, p1, p2, p3, p4, p5, p6⟩ := HSS.out
          have zf := HZF.out
          refine wpList_plain rfl (fun K hK => ?_)
          go_simp
          refine hK _ _ ?_
          clear hK K
          try simp only [Act.put, List.setIfInBounds_toArray, List.set_cons_zero, List.set_cons_succ]
          refine wpList_plain rfl (fun K hK => ?_)
          go_simp
          refine hK _ _ ?_
          clear hK K q0 q1 q2 q3 q4 q5 q6 p0 p1 p2 p3 p4 p5 p6 zf
          try simp only [Act.put, List.setIfInBounds_toArray, List.set_cons_zero, List.set_cons_succ]
          obtain ⟨W1, hW1⟩ : ∃ W1, (((((((wr.setCell ⟨g, i * 7, none⟩ (.int .i64 ok.f0.f0)).setCell ⟨g, i * 7 + 1, none⟩ (.int .i64 ok.f0.f1)).setCell ⟨g, i * 7 + 2, none⟩ (.int .i64 ok.f1)).setCell ⟨g, i * 7 + 3, none⟩ (.bool ok.f2)).setCell ⟨g, i * 7 + 4, none⟩ (.int .i64 ok.f3.f0)).setCell ⟨g, i * 7 + 5, none⟩ (.int .i64 ok.f3.f1)).setCell ⟨g, i * 7 + 6, none⟩ (.int .i32 ok.f4)).drew = W1 := ⟨_, rfl⟩
          have HX1 := Lib.hid (show St w W1 (sep (isRow k34 34 (.slice (some ⟨g, 0, none⟩) n8 c8) (M.set i ok)) (sep (isTx p (TSof L)) (sep (isTx q T0) emp))) from hW1 ▸ (HSI.out.op_set (asn_sep (asn_tx _ _) (asn_sep (asn_tx _ _) asn_emp)) i hiM ok).drew (asn_sep (asn_row _ _ _ _) (asn_sep (asn_tx _ _) (asn_sep (asn_tx _ _) asn_emp))))
          rw [hW1]
          clear hW1
          obtain ⟨ad3, e3, q0, q1, q2, q3, q4, q5, q6⟩ := HX1.out.op_row k (by rw [List.length_set]; exact hkM)
          injection e3 with e3
          subst e3
          simp only [Addr.add_lit, Nat.zero_add] at q0 q1 q2 q3 q4 q5 q6
          obtain ⟨g2, e4, zf⟩ := HX1.out.own_ptr hnp
          injection e4 with e4
          injection e4 with e4
          subst e4
          refine wpList_plain rfl (fun K hK => ?_)
          go_simp
          refine hK _ _ ?_
          clear hK K
          try simp only [Act.put, List.setIfInBounds_toArray, List.set_cons_zero, List.set_cons_succ]
          refine wpList_plain rfl (fun K hK => ?_)
          go_simp
          refine hK _ _ ?_
          clear hK K q0 q1 q2 q3 q4 q5 q6 zf
          try simp only [Act.put, List.setIfInBounds_toArray, List.set_cons_zero, List.set_cons_succ]
          have HX2 := Lib.hid (HX1.out.op_set (asn_sep (asn_tx _ _) (asn_sep (asn_tx _ _) asn_emp)) k (by rw [List.length_set]; exact hkM) oi)
          go_wp2
          go_roundg (N - (i + 1))
          case measure => omega
          case rel => exact ⟨i + 1, (M.set i ok).set k oi, by go_num, by omega, by rw [List.length_set, List.length_set]; exact HML.out, HMM.out, HX2.out⟩
          -- behind it
        · obtain rfl : i = N := by omega
          have HML := Lib.hid HI.out.2.1
          have HME := Lib.hid HI.out.2.2.1
          have HSX := Lib.hid HI.out.2.2.2.third
          have hex : (decide (i < n8) = true ∧ decide (i < lz) = false) ∨ decide (i < n8) = false := by
            by_cases h3 : i < n8
            · rcases HN3.out with k | k
              · omega
              · exact .inl ⟨by simpa using h3, by simp; omega⟩
            · exact .inr (by simpa using h3)
          clear HI
          rcases hex with ⟨hd2, hd3⟩ | hd2
          all_goals
            go_wp2
            go_loopg [15] (n8 + 1) (fun kq v15 wr => ∃ (r : Nat) (T : TS), v15 = .int .i64 (r : Int) ∧ Aside0 (kq + r = n8 + 1 ∧ Meet L M r 0 T ∧ St w wr (sep (isTx q T) (sep (isRow k34 34 (.slice A8 n8 c8) M) (sep (isTx p (TSof L)) emp)))))
            case atStart => exact ⟨0, T0, rfl, by omega, meet0 L M, HSX.out⟩
            case round =>
              obtain ⟨r, T, rfl, HR⟩ := hrel
              have hkr := HR.out.1
              by_cases hrt : r ≤ n8
              · have hd4 : decide (r ≤ n8) = true := by simpa using hrt
                go_wp2
                go_loopg [16] n8 (fun kq v16 wr => ∃ (j : Nat) (U : TS), v16 = .int .i64 (j : Int) ∧ Aside0 (kq + j = n8 ∧ Meet L M r j U ∧ St w wr (sep (isTx q U) (sep (isRow k34 34 (.slice A8 n8 c8) M) (sep (isTx p (TSof L)) emp)))))
                case atStart => exact ⟨0, T, rfl, by omega, HR.out.2.1, HR.out.2.2⟩
                case round =>
                  obtain ⟨j, U, rfl, HJ⟩ := hrel
                  have hkj := HJ.out.1
                  have HSJ := Lib.hid HJ.out.2.2
                  by_cases hjt : j < n8
                  · have hjM : j < M.length := by rw [HML.out]; exact hjt
                    have hd5 : decide (j < n8) = true := by simpa using hjt
                    obtain ⟨hcd, hm⟩ := meet_step HG.out (fun x hx => (HME.out x).1 hx) HJ.out.2.1 hjM
                    obtain ⟨F, hF⟩ := HJ.out.2.1.inv
                    have hln := meet_len HG.out HJ.out.2.1
                    rw [HNL.out] at hln
                    obtain ⟨ad, rfl, c0, c1, c2, c3, c4, c5', c6⟩ := HSJ.out.snd.op_row j hjM
                    obtain ⟨⟨⟨rb, re⟩, U'⟩, hp⟩ : ∃ x, putT U M[j] = x := ⟨_, rfl⟩
                    rw [hp] at hcd hm
                    simp only at hcd hm
                    have KP := Lib.hid (fun W B (b : Asn B) (h : St w W (sep (isTx q U) B)) => put_named hp hF (by omega) b h)
                    clear hp hF
                    generalize M[j] = o at c0 c1 c2 c3 c4 c5' c6 KP
                    unfold opV at KP
                    obtain ⟨⟨o0, o1⟩, o2, o3, ⟨o4, o5⟩, o6⟩ := o
                    simp only at c0 c1 c2 c3 c4 c5' c6
                    have HM := Lib.hid hm
                    have AM := Lib.hid (show Asn (sep (isRow k34 34 (.slice (some ad) n8 c8) M) (sep (isTx p (TSof L)) emp)) from asn_sep (asn_row _ _ _ _) (asn_sep (asn_tx _ _) asn_emp))
                    clear hm hln HJ
                    rcases hcd with rfl | rfl
                    all_goals
                      go_wp2_with (go_at_call 14; with_reducible refine (KP.out _ _ AM.out HSJ.out).mono ?_; rintro e w9 ⟨rfl, hS9⟩; have HS9 := Lib.hid hS9; clear hS9)
                      go_roundg (n8 - (j + 1))
                      case measure => omega
                      case rel => exact ⟨j + 1, U', by go_num, by omega, HM.out, HS9.out⟩
                  · obtain rfl : j = n8 := by omega
                    have hd5 : decide (j < j) = false := by simp
                    have HMR := Lib.hid (meet_round (fun x hx => (HME.out x).2 hx) (r := r) (T := U) (by rw [HML.out]; exact HJ.out.2.1))
                    clear HJ
                    go_wp2
                    go_roundg (j + 1 - (r + 1))
                    case measure => omega
                    case rel => exact ⟨r + 1, U, by go_num, by omega, HMR.out, HSJ.out⟩
              · have hd4 : decide (r ≤ n8) = false := by simp; omega
                obtain ⟨htl, htv⟩ := meet_end HG.out HR.out.2.1 (by rw [HNL.out]; omega)
                obtain ⟨R, hR⟩ : ∃ R, R = sep (isRow k34 34 (.slice A8 n8 c8) M) emp := ⟨_, rfl⟩
                have ASR := Lib.hid (show Asn R from hR ▸ asn_sep (asn_row _ _ _ _) asn_emp)
                have HF0 := Lib.hid (show St w wr (sep (isTx p (TSof L)) (sep (isTx q T) R)) from hR ▸ HR.out.2.2.third)
                have AQR := Lib.hid (show Asn (sep (isTx q T) R) from asn_sep (asn_tx _ _) ASR.out)
                have APQ := Lib.hid (show Asn (sep (isTx p (TSof L)) (sep (isTx q T) R)) from asn_sep (asn_tx _ _) AQR.out)
                have HTL := Lib.hid htl
                have HTV := Lib.hid htv
                obtain ⟨nv, hnv⟩ : ∃ nv, (visS (TSof L).l).length = nv := ⟨_, rfl⟩
                obtain ⟨ni, hni⟩ : ∃ ni, (aliveIds (TSof L).l).length = ni := ⟨_, rfl⟩
                obtain ⟨nd, hnd⟩ : ∃ nd, ((TSof L).l.map (·.f0)).length = nd := ⟨_, rfl⟩
                obtain ⟨ne, hne⟩ : ∃ ne, (TSof L).v.length = ne := ⟨_, rfl⟩
                have hnv2 : nv ≤ 1000 := by have := visS_len (TSof L).l; have := HLL.out; omega
                have hni2 : ni ≤ 1000 := by have := idsS_len (fun e : S75 => e.f2) (TSof L).l; have := HLL.out; unfold aliveIds at hni; omega
                have hnd2 : nd ≤ 1000 := by rw [List.length_map] at hnd; have := HLL.out; omega
                have hne2 : ne ≤ 1000 := by have := HVL.out; omega
                have KV1 := Lib.hid (fun W B (b : Asn B) (h : St w W (sep (isTx p (TSof L)) B)) => vis_nm b h (by have := HLL.out; omega) rfl hnv)
                have KV2 := Lib.hid (fun W B (b : Asn B) (h : St w W (sep (isTx q T) B)) => vis_nm b h (by rw [HTL.out]; have := HLL.out; omega) (show visS T.l = visS (TSof L).l by rw [HTL.out]) hnv)
                have KI1 := Lib.hid (fun W B (b : Asn B) (h : St w W (sep (isTx p (TSof L)) B)) => ids_nm b h (by have := HLL.out; omega) rfl hni)
                have KI2 := Lib.hid (fun W B (b : Asn B) (h : St w W (sep (isTx q T) B)) => ids_nm b h (by rw [HTL.out]; have := HLL.out; omega) (show aliveIds T.l = aliveIds (TSof L).l by rw [HTL.out]) hni)
                have KD1 := Lib.hid (fun W B (b : Asn B) (h : St w W (sep (isTx p (TSof L)) B)) => all_nm b h (by have := HLL.out; omega) rfl hnd)
                have KD2 := Lib.hid (fun W B (b : Asn B) (h : St w W (sep (isTx q T) B)) => all_nm b h (by rw [HTL.out]; have := HLL.out; omega) (show T.l.map (·.f0) = (TSof L).l.map (·.f0) by rw [HTL.out]) hnd)
                have KE1 := Lib.hid (fun W B (b : Asn B) (h : St w W (sep (isTx p (TSof L)) B)) => vec_nm b h (by have := HVL.out; omega) rfl hne)
                have KE2 := Lib.hid (fun W B (b : Asn B) (h : St w W (sep (isTx q T) B)) => vec_nm b h (by rw [HTV.out]; have := HVL.out; omega) (show T.v = (TSof L).v by rw [HTV.out]) hne)
                clear htl htv hR hnv hni hnd hne HR HSX
                go_wp2_with (first
                  | (go_at_call 17; with_reducible refine (KV1.out _ _ AQR.out HF0.out).mono ?_; rintro e w31 ⟨B1, b1, rfl, hb, hS⟩; have HF1 := Lib.hid hS.third; clear hb hS)
                  | (go_at_call 17; with_reducible refine (KV2.out _ _ (asn_sep (asn_row _ _ _ _) (asn_sep (asn_tx _ _) ASR.out)) HF1.out).mono ?_; rintro e w32 ⟨B2, b2, rfl, hb, hS⟩; have HF2 := Lib.hid hS; clear hb hS)
                  | (go_at_call 16; with_reducible refine (same01_nm HF2.out.snd.snd (Below.refl _ _) HF2.out (Below.refl _ _) (by omega)).mono ?_; rintro e w33 ⟨rfl, hb⟩; have HF3 := Lib.hid (HF2.out.snd.turn.snd.turn.below APQ.out hb); clear hb)
                  | (go_at_call 22; with_reducible refine (KI1.out _ _ AQR.out HF3.out).mono ?_; rintro e w34 ⟨B4, b4, rfl, hb, hS⟩; have HF4 := Lib.hid hS.third; clear hb hS)
                  | (go_at_call 22; with_reducible refine (KI2.out _ _ (asn_sep (asn_row _ _ _ _) (asn_sep (asn_tx _ _) ASR.out)) HF4.out).mono ?_; rintro e w35 ⟨B5, b5, rfl, hb, hS⟩; have HF5 := Lib.hid hS; clear hb hS)
                  | (go_at_call 23; with_reducible refine (same_nm HF5.out.snd.snd (Below.refl _ _) HF5.out (Below.refl _ _) (by omega)).mono ?_; rintro e w36 ⟨rfl, hb⟩; have HF6 := Lib.hid (HF5.out.snd.turn.snd.turn.below APQ.out hb); clear hb)
                  | (go_at_call 24; with_reducible refine (KD1.out _ _ AQR.out HF6.out).mono ?_; rintro e w37 ⟨B7, b7, rfl, hb, hS⟩; have HF7 := Lib.hid hS.third; clear hb hS)
                  | (go_at_call 24; with_reducible refine (KD2.out _ _ (asn_sep (asn_row _ _ _ _) (asn_sep (asn_tx _ _) ASR.out)) HF7.out).mono ?_; rintro e w38 ⟨B8, b8, rfl, hb, hS⟩; have HF8 := Lib.hid hS; clear hb hS)
                  | (go_at_call 23; with_reducible refine (same_nm HF8.out.snd.snd (Below.refl _ _) HF8.out (Below.refl _ _) (by omega)).mono ?_; rintro e w39 ⟨rfl, hb⟩; have HF9 := Lib.hid (HF8.out.snd.turn.snd.turn.below APQ.out hb); clear hb)
                  | (go_at_call 21; with_reducible refine (KE1.out _ _ AQR.out HF9.out).mono ?_; rintro e w40 ⟨B10, b10, rfl, hb, hS⟩; have HF10 := Lib.hid hS.third; clear hb hS)
                  | (go_at_call 21; with_reducible refine (KE2.out _ _ (asn_sep (asn_row _ _ _ _) (asn_sep (asn_tx _ _) ASR.out)) HF10.out).mono ?_; rintro e w41 ⟨B11, b11, rfl, hb, hS⟩; have HF11 := Lib.hid hS; clear hb hS)
                  | (go_at_call 25; with_reducible refine (same12_nm HF11.out.snd.snd (Below.refl _ _) HF11.out (Below.refl _ _) (by omega)).mono ?_; rintro e w42 ⟨rfl, hb⟩; have HF12 := Lib.hid (HF11.out.snd.turn.snd.turn.below APQ.out hb); clear hb))
                go_ret
                exact ⟨rfl, HF12.out.bel⟩
end Go.Proofs.Ytehdjdediobemaa.PC
