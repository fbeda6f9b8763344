/- A part of the proof of rgaFront_holds: its texts, one behind the other, as far as the proof stands on them. (Lines of its texts on the printed words and functions began as lines that a program of the kit had written for this statement.) -/
import Derived.ArgAppend
import Derived.Below
import Derived.BigQuiet
import Derived.BigRegion
import Derived.ChangeMaps4
import Derived.ChangeMaps5
import Derived.Deep.AppendLies
import Derived.Deep.CutBlock
import Derived.Deep.CutRange
import Derived.Deep.DeepCutAuto
import Derived.Deep.DrawnRows
import Derived.Deep.Draws
import Derived.Deep.LoopGhost
import Derived.Deep.OwnRows
import Derived.Deep.QuietTactic
import Derived.Deep.RegionHeld3
import Derived.Deep.RegionLaw
import Derived.Deep.RegionWith
import Derived.KernelRfl
import Derived.Laws.BitsLemmas
import Derived.Laws.BytesArg
import Derived.Laws.CopyRow
import Derived.Laws.Cover4
import Derived.Laws.Externs
import Derived.Laws.IdiomCopy
import Derived.Laws.MakeOwn
import Derived.Laws.NewBlocks
import Derived.Laws.OwnMore
import Derived.Laws.Rows
import Derived.Laws.Slices
import Derived.Laws.StructEq
import Derived.Lib.AppendStr
import Derived.Lib.AppendZeros
import Derived.Lib.AppendZerosOnto
import Derived.Lib.ConvBytes
import Derived.Lib.Hide
import Derived.Lib.JoinLaws
import Derived.Lib.Overlaps
import Derived.Lib.Walk
import Derived.MapKept
import Derived.Maps.AppendAt
import Derived.OrdersHeld
import Derived.OwnWalk
import Derived.RegionTactic
import Derived.RowKit
import Derived.RowKit3
import Derived.StillTail
import Derived.StillTailTactics
import Derived.Tactics
import Derived.Test.YtehdjdediobemaaProg
import Derived.WalkKit
import Derived.WalkSpells
import Derived.WideLaws
import Derived.Test.YtehdjdediobemaaBF9
namespace Go.Proofs.Ytehdjdediobemaa.PC
open Go.RowKit Go.Proofs.YtehdjdediobemaaW.PrintWords Go.Proofs.YtehdjdediobemaaW.PrintLast Go.Proofs.YtehdjdediobemaaW.PrintMore Go.Proofs.Ytehdjdediobemaa.K Go.Proofs.Ytehdjdediobemaa.IX Go.Proofs.Ytehdjdediobemaa.I
set_option linter.unusedVariables false
set_option linter.unusedSimpArgs false
/-- A thing in memory: what it is, and the blocks that it takes. -/
abbrev As := World → List Nat → Prop
structure Asn (A : As) : Prop where
  keep : ∀ {w w' : World} {F : List Nat}, A w F → (∀ k ∈ F, w'.heap[k]? = w.heap[k]?) → A w' F
  lt : ∀ {w : World} {F : List Nat}, A w F → ∀ k ∈ F, k < w.heap.size
def sep (A B : As) : As := fun w F => ∃ FA FB, A w FA ∧ B w FB ∧ F = FA ++ FB ∧ ∀ k ∈ FA, k ∉ FB
def emp : As := fun _ F => F = []
def isTx (p : Nat) (T : TS) : As := fun w F => Tx w F p T
def isRow {α : Type} (d : Kd α) (e : Nat) (v : Value) (xs : List α) : As := fun w F => Rw d e w v xs ∧ F = ob v
theorem asn_emp : Asn emp := ⟨fun h _ => h, fun h k hk => by rw [h] at hk; cases hk⟩
theorem asn_tx (p : Nat) (T : TS) : Asn (isTx p T) := ⟨fun h hk => Tx.keep h hk, fun h => Tx.lt h⟩
theorem asn_row {α : Type} (d : Kd α) (e : Nat) (v : Value) (xs : List α) : Asn (isRow d e v xs) := ⟨fun h hk => ⟨h.1.keep fun k m => hk k (by rw [h.2]; exact m), h.2⟩, fun h k hk => h.1.lt k (by rw [h.2] at hk; exact hk)⟩
theorem asn_sep {A B : As} (a : Asn A) (b : Asn B) : Asn (sep A B) :=
  ⟨fun ⟨FA, FB, h1, h2, e, hd⟩ hk => ⟨FA, FB, a.keep h1 (fun k m => hk k (by rw [e]; simp [m])), b.keep h2 (fun k m => hk k (by rw [e]; simp [m])), e, hd⟩,
   fun ⟨FA, FB, h1, h2, e, hd⟩ k hk => by
    rw [e, List.mem_append] at hk
    rcases hk with m | m
    · exact a.lt h1 k m
    · exact b.lt h2 k m⟩
/-- Things of the call's own: they lie in blocks made since w0, and of w0 nothing has changed. -/
def St (w0 w : World) (A : As) : Prop := ∃ F, A w F ∧ Below w0.heap.size w0 w ∧ ∀ k ∈ F, w0.heap.size ≤ k
theorem St.emp (w : World) : St w w emp := ⟨[], rfl, Below.refl _ _, fun k hk => by cases hk⟩
theorem St.bel {w0 w : World} {A : As} (h : St w0 w A) : Below w0.heap.size w0 w := by obtain ⟨F, _, h, _⟩ := h; exact h
theorem St.below {w0 w w' : World} {A : As} (h : St w0 w A) (a : Asn A) (hb : Below w.heap.size w w') : St w0 w' A := by
  obtain ⟨F, h1, h2, h3⟩ := h
  exact ⟨F, a.keep h1 (fun k m => hb.block k (a.lt h1 k m)), below_step h2 hb, h3⟩
theorem St.drew {w0 w : World} {A : As} (h : St w0 w A) (a : Asn A) : St w0 w.drew A := h.below a (Below.refl _ _).drew
theorem St.drewN {w0 w : World} {A : As} (h : St w0 w A) (a : Asn A) (n : Nat) : St w0 (w.drewN n) A := h.below a (pw_below_drewN (Below.refl _ _) n)
theorem St.swap {w0 w : World} {A B : As} (h : St w0 w (sep A B)) : St w0 w (sep B A) := by
  obtain ⟨F, ⟨FA, FB, h1, h2, e, hd⟩, hb, hn⟩ := h
  refine ⟨FB ++ FA, ⟨FB, FA, h2, h1, rfl, fun k m m2 => hd k m2 m⟩, hb, fun k m => hn k ?_⟩
  rw [e, List.mem_append]
  exact (List.mem_append.1 m).symm
theorem St.assoc {w0 w : World} {A B C : As} (h : St w0 w (sep (sep A B) C)) : St w0 w (sep A (sep B C)) := by
  obtain ⟨F, ⟨_, FC, ⟨FA, FB, h1, h2, rfl, hd⟩, h3, e, hd2⟩, hb, hn⟩ := h
  refine ⟨F, ⟨FA, FB ++ FC, h1, ⟨FB, FC, h2, h3, rfl, fun k m => hd2 k (by simp [m])⟩, by rw [e, List.append_assoc], fun k m m2 => ?_⟩, hb, hn⟩
  rcases List.mem_append.1 m2 with q | q
  · exact hd k m q
  · exact hd2 k (by simp [m]) q
theorem St.unassoc {w0 w : World} {A B C : As} (h : St w0 w (sep A (sep B C))) : St w0 w (sep (sep A B) C) := by
  obtain ⟨F, ⟨FA, _, h1, ⟨FB, FC, h2, h3, rfl, hd⟩, e, hd2⟩, hb, hn⟩ := h
  refine ⟨F, ⟨FA ++ FB, FC, ⟨FA, FB, h1, h2, rfl, fun k m m2 => hd2 k m (by simp [m2])⟩, h3, by rw [e, List.append_assoc], fun k m m2 => ?_⟩, hb, hn⟩
  rcases List.mem_append.1 m with q | q
  · exact hd2 k q (by simp [m2])
  · exact hd k q m2
/-- The second of three comes first. -/
theorem St.turn {w0 w : World} {A B C : As} (h : St w0 w (sep A (sep B C))) : St w0 w (sep B (sep A C)) := by
  obtain ⟨F, ⟨FA, _, h1, ⟨FB, FC, h2, h3, rfl, hd⟩, e, hd2⟩, hb, hn⟩ := h
  refine ⟨FB ++ (FA ++ FC), ⟨FB, FA ++ FC, h2, ⟨FA, FC, h1, h3, rfl, fun k m m2 => hd2 k m (by simp [m2])⟩, rfl, fun k m m2 => ?_⟩, hb, fun k m => hn k ?_⟩
  · rcases List.mem_append.1 m2 with q | q
    · exact hd2 k q (by simp [m])
    · exact hd k m q
  · rw [e]
    simp only [List.mem_append] at m ⊢
    rcases m with q | q | q <;> simp [q]
theorem St.fst {w0 w : World} {A B : As} (h : St w0 w (sep A B)) : St w0 w A := by
  obtain ⟨F, ⟨FA, FB, h1, h2, e, hd⟩, hb, hn⟩ := h
  exact ⟨FA, h1, hb, fun k m => hn k (by rw [e]; simp [m])⟩
theorem St.snd {w0 w : World} {A B : As} (h : St w0 w (sep A B)) : St w0 w B := h.swap.fst
theorem St.with_emp {w0 w : World} {A : As} (h : St w0 w A) : St w0 w (sep A PC.emp) := by
  obtain ⟨F, h1, hb, hn⟩ := h
  exact ⟨F, ⟨F, [], h1, rfl, by simp, fun _ _ => by simp⟩, hb, hn⟩
/-- Something new lies apart from all else. -/
theorem St.add {w0 w w' : World} {A B : As} {G : List Nat} (h : St w0 w A) (a : Asn A) (hb : Below w.heap.size w w') (hB : B w' G) (hG : ∀ k ∈ G, w.heap.size ≤ k) : St w0 w' (sep B A) := by
  obtain ⟨F, h1, h2, h3⟩ := h
  refine ⟨G ++ F, ⟨G, F, hB, a.keep h1 (fun k m => hb.block k (a.lt h1 k m)), rfl, fun k m m2 => ?_⟩, below_step h2 hb, fun k m => ?_⟩
  · have := hG k m; have := a.lt h1 k m2; omega
  · rcases List.mem_append.1 m with q | q
    · have := hG k q; have := h2.size; omega
    · exact h3 k q
/-- One thing becomes another one; what lies apart stays. -/
theorem St.upd {w0 w w' : World} {A A' B : As} {FA FB F' : List Nat} (b : Asn B) (hA : ∀ k ∈ FA, w0.heap.size ≤ k) (hB : B w FB) (hd : ∀ k ∈ FA, k ∉ FB) (hb : Below w0.heap.size w0 w) (hn : ∀ k ∈ FB, w0.heap.size ≤ k) (hf : Fr FA w w') (hA' : A' w' F') (hs : ∀ k ∈ F', k ∈ FA ∨ w.heap.size ≤ k) : St w0 w' (sep A' B) := by
  refine ⟨F' ++ FB, ⟨F', FB, hA', b.keep hB (fun k m => hf.block k (b.lt hB k m) (fun q => hd k q m)), rfl, fun k m m2 => ?_⟩, Fr.below hf hb hA, fun k m => ?_⟩
  · rcases hs k m with q | q
    · exact hd k q m2
    · have := b.lt hB k m2; omega
  · rcases List.mem_append.1 m with q | q
    · rcases hs k q with r | r
      · exact hA k r
      · have := hb.size; omega
    · exact hn k q
theorem ob_ge {α : Type} {d : Kd α} {e base : Nat} {ok : Nat → Prop} {w : World} {v : Value} {xs : List α} (h : d.R e w base ok v xs) : ∀ k ∈ ob v, base ≤ k := fun k hk => ((Kd.R_bound h).1 k (mem_ob.1 hk).symm).2.1
/-- A row that a callee has made. -/
theorem St.row {α : Type} {d : Kd α} {e : Nat} {w0 w w' : World} {A : As} {v : Value} {xs : List α} (hE : d.E = []) (h : St w0 w A) (a : Asn A) (hb : Below w.heap.size w w') (hr : d.R e w' w.heap.size (fun _ => True) v xs) : St w0 w' (sep (isRow d e v xs) A) :=
  h.add a hb ⟨Rw.of hE hr, rfl⟩ (ob_ge hr)
/-- What a row tells of its slice and its cells. -/
theorem St.reads {α : Type} {d : Kd α} {e : Nat} {w0 w : World} {A : As} {v : Value} {xs : List α} (h : St w0 w (sep (isRow d e v xs) A)) : ∃ B c, v = .slice B xs.length c ∧ xs.length ≤ c ∧ d.C w B xs.length xs := by
  obtain ⟨F, ⟨FA, FB, h1, h2, _⟩, _⟩ := h
  exact Kd.R_reads h1.1
theorem new_st {w0 w : World} {B : As} (b : Asn B) (h : St w0 w B) : Calls Try.prog 12 #[] w fun e w' => ∃ p, e = .returned (.pointer (some ⟨p, 0, none⟩)) ∧ St w0 w' (sep (isTx p T0) B) :=
  (rnew_calls w).mono fun e w' ⟨p, F, he, hT, hb, hF⟩ => ⟨p, he, h.add b hb hT hF⟩
theorem put_st {w0 w : World} {p : Nat} {T : TS} {Fo' : Fo} {B : As} (b : Asn B) (h : St w0 w (sep (isTx p T) B)) (hi : Inv T Fo') (hl : T.ops.length ≤ 100000) (o : S34) : Calls Try.prog 14 #[.pointer (some ⟨p, 0, none⟩), opV o] w fun e w' => e = .returned (.tuple #[.bool (putT T o).1.1, .int .i64 (putT T o).1.2]) ∧ St w0 w' (sep (isTx p (putT T o).2) B) := by
  obtain ⟨F, ⟨FA, FB, h1, h2, rfl, hd⟩, hb, hn⟩ := h
  have := hi.ll
  have := hi.vl
  refine (put_calls w FA p T o h1 hi.upS (by omega) (by omega) (by omega) (hi.kn o)).mono ?_
  rintro e w' ⟨he, F', k1, k2, k3⟩
  exact ⟨he, St.upd (A := isTx p T) b (fun k m => hn k (by simp [m])) h2 hd hb (fun k m => hn k (by simp [m])) k2 k1 k3⟩
theorem vis_st {w0 w : World} {p : Nat} {T : TS} {B : As} (b : Asn B) (h : St w0 w (sep (isTx p T) B)) (hl : T.l.length ≤ 100000) : Calls Try.prog 17 #[.pointer (some ⟨p, 0, none⟩)] w fun e w' => ∃ A c, e = .returned (.slice A (visS T.l).length c) ∧ St w0 w' (sep (isRow (Kd.int .i32) 21 (.slice A (visS T.l).length c) (visS T.l)) (sep (isTx p T) B)) := by
  obtain ⟨F, ⟨FA, FB, h1, h2, rfl, hd⟩, hb, hn⟩ := id h
  refine (vis_calls w FA p T h1 (by omega)).mono ?_
  rintro e w' ⟨v, rfl, hr, hb2⟩
  obtain ⟨A, c, rfl⟩ := Kd.R_slice hr
  exact ⟨A, c, rfl, St.row rfl h (asn_sep (asn_tx p T) b) hb2 hr⟩
theorem len_st {w0 w : World} {p : Nat} {T : TS} {B : As} (h : St w0 w (sep (isTx p T) B)) : Calls Try.prog 30 #[.pointer (some ⟨p, 0, none⟩)] w fun e w' => e = .returned (.int .i64 (cn (T.l.map (·.f2)) : Int)) ∧ w = w' := by
  obtain ⟨F, ⟨FA, FB, h1, h2, rfl, hd⟩, hb, hn⟩ := h
  exact tlen_calls w FA p T h1
theorem top_st {w0 w : World} {p : Nat} {T : TS} {B : As} (h : St w0 w (sep (isTx p T) B)) : Calls Try.prog 26 #[.pointer (some ⟨p, 0, none⟩)] w fun e w' => e = .returned (.int .i64 T.top) ∧ w = w' := by
  obtain ⟨F, ⟨FA, FB, h1, h2, rfl, hd⟩, hb, hn⟩ := h
  exact top_calls w FA p T h1
end Go.Proofs.Ytehdjdediobemaa.PC
namespace Go.Proofs.Ytehdjdediobemaa.PC
open Go.RowKit Go.Proofs.YtehdjdediobemaaW.PrintWords Go.Proofs.YtehdjdediobemaaW.PrintLast Go.Proofs.YtehdjdediobemaaW.PrintMore
attribute [local go_sem] max2_int min2_int max_two min_two max_three min_three max_four min_four
set_option linter.unusedVariables false
set_option linter.unusedSimpArgs false
attribute [local go_sem high] eqA31 eqA34 eqA80
def foolscapref14_SameIDs.l0 : Nat → List (S31) → List (S31) → Int → Option (Bool)
  | 0, _, _, _ => none
  | k + 1, x0, x1, x5 => if x5 < (x0.length : Int) then (if 0 ≤ x5 then (if x5 < (x1.length : Int) then (if (!(((rd_T31 x0 x5).f0) == ((rd_T31 x1 x5).f0)) || (!(((rd_T31 x0 x5).f1) == ((rd_T31 x1 x5).f1)))) = true then (some false) else (foolscapref14_SameIDs.l0 k x0 x1 (wrap64 (x5 + 1)))) else (none)) else (none)) else (some true)
def foolscapref14_SameIDs.f (k : Nat) (l0 : List (S31)) (l1 : List (S31)) : Option (Bool) := if (l0.length : Int) = (l1.length : Int) then (foolscapref14_SameIDs.l0 k l0 l1 0) else (some false)
theorem foolscapref14_SameIDs.mono_l : ∀ k, (∀ y0 y1 y2, LeO (foolscapref14_SameIDs.l0 k y0 y1 y2) (foolscapref14_SameIDs.l0 (k + 1) y0 y1 y2))
  | 0 => fun _ _ _ r h => by simp [foolscapref14_SameIDs.l0] at h
  | k + 1 => by
    have ih0 := foolscapref14_SameIDs.mono_l k
    · intro y0 y1 y2
      unfold foolscapref14_SameIDs.l0
      repeat' first
      | (with_reducible exact ih0 _ _ _)
      | (with_reducible exact LeO.refl _)
      | (with_reducible exact LeO.none _)
      | (with_reducible refine LeO.ite ?_ ?_)
      | (with_reducible refine LeO.bind ?_ (fun _ => ?_))
      | exact ih0 _ _ _
      | exact LeO.none _
      | refine LeO.ite ?_ ?_
      | refine LeO.bind ?_ (fun _ => ?_)
theorem foolscapref14_SameIDs.mono : ∀ a0 a1 k, LeO (foolscapref14_SameIDs.f k a0 a1) (foolscapref14_SameIDs.f (k + 1) a0 a1) := by
  intro a0 a1 k
  have ih0 := foolscapref14_SameIDs.mono_l k
  unfold foolscapref14_SameIDs.f
  repeat' first
      | (with_reducible exact ih0 _ _ _)
      | (with_reducible exact LeO.refl _)
      | (with_reducible exact LeO.none _)
      | (with_reducible refine LeO.ite ?_ ?_)
      | (with_reducible refine LeO.bind ?_ (fun _ => ?_))
      | exact ih0 _ _ _
      | exact LeO.none _
      | refine LeO.ite ?_ ?_
      | refine LeO.bind ?_ (fun _ => ?_)
set_option maxHeartbeats 8000000 in
set_option maxRecDepth 100000 in
theorem foolscapref14_SameIDs.calls (k : Nat) (A0 : Option Addr) (c0 : Nat) (l0 : List (S31)) (A1 : Option Addr) (c1 : Nat) (l1 : List (S31)) (r : Bool) (w : World) (hr0 : Kd.C k31 w A0 l0.length l0) (hc0 : l0.length ≤ c0) (hr1 : Kd.C k31 w A1 l1.length l1) (hc1 : l1.length ≤ c1) (h : foolscapref14_SameIDs.f k l0 l1 = some r) :
    Calls Try.prog 23 #[.slice A0 l0.length c0, .slice A1 l1.length c1] w fun e w' => e = .returned (.bool r) ∧ Drawn0 w w' := by
  have hu31 := Try.underlying31
  have HR0 := Aside0.mk hr0
  have HC0 := Aside0.mk hc0
  clear hr0 hc0
  have HR1 := Aside0.mk hr1
  have HC1 := Aside0.mk hc1
  clear hr1 hc1
  have H : (if (l0.length : Int) = (l1.length : Int) then (foolscapref14_SameIDs.l0 k l0 l1 0) else (some false)) = some r := h
  clear h
  by_cases c3 : (l0.length : Int) = (l1.length : Int)
  · rw [if_pos c3] at H
    have c3b0 : ((l0.length : Int) == (l1.length : Int)) = true := beq_iff_eq.mpr c3
    have c3b1 : ((l0.length : Int) != (l1.length : Int)) = false := bne_eq_false_iff_eq.mpr c3
    have c3b2 : (l0.length == l1.length) = true := by first | simpa using c3 | (simp at c3 ⊢; omega)
    clear c3
    have H' := Aside0.mk H
    clear H
    go_enter Try.func23, Try.ntmps23
    go_wp2
    repeat (go_quiet (fail); try go_wp2)
    go_loopg [5] k (fun kq v5 w' => ∃ (x5_1 : Int), v5 = .int .i64 x5_1 ∧ Aside0 (foolscapref14_SameIDs.l0 kq l0 l1 x5_1 = some r) ∧ Aside0 (kq ≤ k) ∧ Drawn0 w w')
    case atStart => exact ⟨(0), (by first | rfl | (simp; done) | (simp [*]; done)), H', ⟨Nat.le_refl _⟩, by repeat (first | exact Drawn0.refl _ | apply Drawn0.step)⟩
    case round =>
      clear H'
      try clear c1
      try clear c2
      try clear p2
      try clear c3
      try clear c3b0
      try clear c3b1
      try clear c3b2
      obtain ⟨x5_1, rfl, HA, HK1, ⟨m1, rfl⟩⟩ := hrel
      cases gk with
      | zero => exact absurd HA.out (by simp [foolscapref14_SameIDs.l0])
      | succ k1 =>
        have H := HA.out
        clear HA
        simp only [foolscapref14_SameIDs.l0] at H
        by_cases c4 : x5_1 < (l0.length : Int)
        · rw [if_pos c4] at H
          have c4b0 : decide (x5_1 < (l0.length : Int)) = true := decide_eq_true c4
          clear c4
          by_cases c5 : 0 ≤ x5_1
          · rw [if_pos c5] at H
            have c5b0 : decide (0 ≤ x5_1) = true := decide_eq_true c5
            clear c5
            by_cases c6 : x5_1 < (l1.length : Int)
            · rw [if_pos c6] at H
              have c6b0 : decide (x5_1 < (l1.length : Int)) = true := decide_eq_true c6
              clear c6
              by_cases c7 : (!(((rd_T31 l0 x5_1).f0) == ((rd_T31 l1 x5_1).f0)) || (!(((rd_T31 l0 x5_1).f1) == ((rd_T31 l1 x5_1).f1)))) = true
              · rw [if_pos c7] at H
                have c7b0 : (!(((rd_T31 l0 x5_1).f0) == ((rd_T31 l1 x5_1).f0)) || (!(((rd_T31 l0 x5_1).f1) == ((rd_T31 l1 x5_1).f1)))) = true := c7
                clear c7
                obtain rfl := Option.some.inj H
                have p183 : 0 ≤ (x5_1 : Int) := of_decide_eq_true (by first | (with_reducible assumption) | assumption)
                have q183 : x5_1 < (l0.length : Int) := of_decide_eq_true (by first | (with_reducible assumption) | assumption)
                obtain ⟨ad183, e183, hx183_0, hx183_1⟩ := at_T31 HR0.out x5_1 p183 q183
                cases e183
                replace p183 := eq_true p183
                replace q183 := eq_true q183
                have p184 : 0 ≤ (x5_1 : Int) := of_decide_eq_true (by first | (with_reducible assumption) | assumption)
                have q184 : x5_1 < (l1.length : Int) := of_decide_eq_true (by first | (with_reducible assumption) | assumption)
                obtain ⟨ad184, e184, hx184_0, hx184_1⟩ := at_T31 HR1.out x5_1 p184 q184
                cases e184
                replace p184 := eq_true p184
                replace q184 := eq_true q184
                go_wp2
                repeat (go_quiet (fail); try go_wp2)
                go_ret
                exact ⟨by first | rfl | (simp; done) | (simp [*]; done), by repeat (first | exact Drawn0.refl _ | apply Drawn0.step)⟩
              · rw [if_neg c7] at H
                have c7b0 : (!(((rd_T31 l0 x5_1).f0) == ((rd_T31 l1 x5_1).f0)) || (!(((rd_T31 l0 x5_1).f1) == ((rd_T31 l1 x5_1).f1)))) = false := by simpa using c7
                clear c7
                have H' := Aside0.mk H
                clear H
                have p183 : 0 ≤ (x5_1 : Int) := of_decide_eq_true (by first | (with_reducible assumption) | assumption)
                have q183 : x5_1 < (l0.length : Int) := of_decide_eq_true (by first | (with_reducible assumption) | assumption)
                obtain ⟨ad183, e183, hx183_0, hx183_1⟩ := at_T31 HR0.out x5_1 p183 q183
                cases e183
                replace p183 := eq_true p183
                replace q183 := eq_true q183
                have p184 : 0 ≤ (x5_1 : Int) := of_decide_eq_true (by first | (with_reducible assumption) | assumption)
                have q184 : x5_1 < (l1.length : Int) := of_decide_eq_true (by first | (with_reducible assumption) | assumption)
                obtain ⟨ad184, e184, hx184_0, hx184_1⟩ := at_T31 HR1.out x5_1 p184 q184
                cases e184
                replace p184 := eq_true p184
                replace q184 := eq_true q184
                go_wp2
                repeat (go_quiet (fail); try go_wp2)
                go_roundg k1
                case measure => have := HK1.out; omega
                case rel => exact ⟨(wrap64 (x5_1 + 1)), (by first | rfl | (simp; done) | (simp [*]; done)), H', ⟨by have := HK1.out; omega⟩, by repeat (first | exact Drawn0.refl _ | apply Drawn0.step)⟩
            · rw [if_neg c6] at H
              exact absurd H (by simp)
          · rw [if_neg c5] at H
            exact absurd H (by simp)
        · rw [if_neg c4] at H
          have c4b0 : decide (x5_1 < (l0.length : Int)) = false := decide_eq_false c4
          clear c4
          obtain rfl := Option.some.inj H
          go_wp2
          repeat (go_quiet (fail); try go_wp2)
          go_ret
          exact ⟨by first | rfl | (simp; done) | (simp [*]; done), by repeat (first | exact Drawn0.refl _ | apply Drawn0.step)⟩
  · rw [if_neg c3] at H
    have c3b0 : ((l0.length : Int) == (l1.length : Int)) = false := beq_eq_false_iff_ne.mpr c3
    have c3b1 : ((l0.length : Int) != (l1.length : Int)) = true := bne_iff_ne.mpr c3
    have c3b2 : (l0.length == l1.length) = false := by first | simpa using c3 | (simp at c3 ⊢; omega)
    obtain rfl := Option.some.inj H
    go_enter Try.func23, Try.ntmps23
    go_wp2
    repeat (go_quiet (fail); try go_wp2)
    go_ret
    exact ⟨by first | rfl | (simp; done) | (simp [*]; done), by repeat (first | exact Drawn0.refl _ | apply Drawn0.step)⟩
def foolscapref14_SameOps.l0 : Nat → List (S34) → List (S34) → Int → Option (Bool)
  | 0, _, _, _ => none
  | k + 1, x0, x1, x5 => if x5 < (x0.length : Int) then (if 0 ≤ x5 then (if x5 < (x1.length : Int) then (if ((!(((rd_T34 x0 x5).f0.f0) == ((rd_T34 x1 x5).f0.f0)) || (!(((rd_T34 x0 x5).f0.f1) == ((rd_T34 x1 x5).f0.f1)))) || (!(((rd_T34 x0 x5).f1) == ((rd_T34 x1 x5).f1)) || (!(((rd_T34 x0 x5).f2) == ((rd_T34 x1 x5).f2)) || ((!(((rd_T34 x0 x5).f3.f0) == ((rd_T34 x1 x5).f3.f0)) || (!(((rd_T34 x0 x5).f3.f1) == ((rd_T34 x1 x5).f3.f1)))) || (!(((rd_T34 x0 x5).f4) == ((rd_T34 x1 x5).f4))))))) = true then (some false) else (foolscapref14_SameOps.l0 k x0 x1 (wrap64 (x5 + 1)))) else (none)) else (none)) else (some true)
def foolscapref14_SameOps.f (k : Nat) (l0 : List (S34)) (l1 : List (S34)) : Option (Bool) := if (l0.length : Int) = (l1.length : Int) then (foolscapref14_SameOps.l0 k l0 l1 0) else (some false)
theorem foolscapref14_SameOps.mono_l : ∀ k, (∀ y0 y1 y2, LeO (foolscapref14_SameOps.l0 k y0 y1 y2) (foolscapref14_SameOps.l0 (k + 1) y0 y1 y2))
  | 0 => fun _ _ _ r h => by simp [foolscapref14_SameOps.l0] at h
  | k + 1 => by
    have ih0 := foolscapref14_SameOps.mono_l k
    · intro y0 y1 y2
      unfold foolscapref14_SameOps.l0
      repeat' first
      | (with_reducible exact ih0 _ _ _)
      | (with_reducible exact LeO.refl _)
      | (with_reducible exact LeO.none _)
      | (with_reducible refine LeO.ite ?_ ?_)
      | (with_reducible refine LeO.bind ?_ (fun _ => ?_))
      | exact ih0 _ _ _
      | exact LeO.none _
      | refine LeO.ite ?_ ?_
      | refine LeO.bind ?_ (fun _ => ?_)
theorem foolscapref14_SameOps.mono : ∀ a0 a1 k, LeO (foolscapref14_SameOps.f k a0 a1) (foolscapref14_SameOps.f (k + 1) a0 a1) := by
  intro a0 a1 k
  have ih0 := foolscapref14_SameOps.mono_l k
  unfold foolscapref14_SameOps.f
  repeat' first
      | (with_reducible exact ih0 _ _ _)
      | (with_reducible exact LeO.refl _)
      | (with_reducible exact LeO.none _)
      | (with_reducible refine LeO.ite ?_ ?_)
      | (with_reducible refine LeO.bind ?_ (fun _ => ?_))
      | exact ih0 _ _ _
      | exact LeO.none _
      | refine LeO.ite ?_ ?_
      | refine LeO.bind ?_ (fun _ => ?_)
set_option maxHeartbeats 8000000 in
set_option maxRecDepth 100000 in
theorem foolscapref14_SameOps.calls (k : Nat) (A0 : Option Addr) (c0 : Nat) (l0 : List (S34)) (A1 : Option Addr) (c1 : Nat) (l1 : List (S34)) (r : Bool) (w : World) (hr0 : Kd.C k34 w A0 l0.length l0) (hc0 : l0.length ≤ c0) (hr1 : Kd.C k34 w A1 l1.length l1) (hc1 : l1.length ≤ c1) (h : foolscapref14_SameOps.f k l0 l1 = some r) :
    Calls Try.prog 58 #[.slice A0 l0.length c0, .slice A1 l1.length c1] w fun e w' => e = .returned (.bool r) ∧ Drawn0 w w' := by
  have hu34 := Try.underlying34
  have HR0 := Aside0.mk hr0
  have HC0 := Aside0.mk hc0
  clear hr0 hc0
  have HR1 := Aside0.mk hr1
  have HC1 := Aside0.mk hc1
  clear hr1 hc1
  have H : (if (l0.length : Int) = (l1.length : Int) then (foolscapref14_SameOps.l0 k l0 l1 0) else (some false)) = some r := h
  clear h
  by_cases c3 : (l0.length : Int) = (l1.length : Int)
  · rw [if_pos c3] at H
    have c3b0 : ((l0.length : Int) == (l1.length : Int)) = true := beq_iff_eq.mpr c3
    have c3b1 : ((l0.length : Int) != (l1.length : Int)) = false := bne_eq_false_iff_eq.mpr c3
    have c3b2 : (l0.length == l1.length) = true := by first | simpa using c3 | (simp at c3 ⊢; omega)
    clear c3
    have H' := Aside0.mk H
    clear H
    go_enter Try.func58, Try.ntmps58
    go_wp2
    repeat (go_quiet (fail); try go_wp2)
    go_loopg [5] k (fun kq v5 w' => ∃ (x5_1 : Int), v5 = .int .i64 x5_1 ∧ Aside0 (foolscapref14_SameOps.l0 kq l0 l1 x5_1 = some r) ∧ Aside0 (kq ≤ k) ∧ Drawn0 w w')
    case atStart => exact ⟨(0), (by first | rfl | (simp; done) | (simp [*]; done)), H', ⟨Nat.le_refl _⟩, by repeat (first | exact Drawn0.refl _ | apply Drawn0.step)⟩
    case round =>
      clear H'
      try clear c1
      try clear p2
      try clear c3
      try clear c3b0
      try clear c3b1
      try clear c3b2
      obtain ⟨x5_1, rfl, HA, HK1, ⟨m1, rfl⟩⟩ := hrel
      cases gk with
      | zero => exact absurd HA.out (by simp [foolscapref14_SameOps.l0])
      | succ k1 =>
        have H := HA.out
        clear HA
        simp only [foolscapref14_SameOps.l0] at H
        by_cases c4 : x5_1 < (l0.length : Int)
        · rw [if_pos c4] at H
          have c4b0 : decide (x5_1 < (l0.length : Int)) = true := decide_eq_true c4
          clear c4
          by_cases c5 : 0 ≤ x5_1
          · rw [if_pos c5] at H
            have c5b0 : decide (0 ≤ x5_1) = true := decide_eq_true c5
            clear c5
            by_cases c6 : x5_1 < (l1.length : Int)
            · rw [if_pos c6] at H
              have c6b0 : decide (x5_1 < (l1.length : Int)) = true := decide_eq_true c6
              clear c6
              by_cases c7 : ((!(((rd_T34 l0 x5_1).f0.f0) == ((rd_T34 l1 x5_1).f0.f0)) || (!(((rd_T34 l0 x5_1).f0.f1) == ((rd_T34 l1 x5_1).f0.f1)))) || (!(((rd_T34 l0 x5_1).f1) == ((rd_T34 l1 x5_1).f1)) || (!(((rd_T34 l0 x5_1).f2) == ((rd_T34 l1 x5_1).f2)) || ((!(((rd_T34 l0 x5_1).f3.f0) == ((rd_T34 l1 x5_1).f3.f0)) || (!(((rd_T34 l0 x5_1).f3.f1) == ((rd_T34 l1 x5_1).f3.f1)))) || (!(((rd_T34 l0 x5_1).f4) == ((rd_T34 l1 x5_1).f4))))))) = true
              · rw [if_pos c7] at H
                have c7b0 : ((!(((rd_T34 l0 x5_1).f0.f0) == ((rd_T34 l1 x5_1).f0.f0)) || (!(((rd_T34 l0 x5_1).f0.f1) == ((rd_T34 l1 x5_1).f0.f1)))) || (!(((rd_T34 l0 x5_1).f1) == ((rd_T34 l1 x5_1).f1)) || (!(((rd_T34 l0 x5_1).f2) == ((rd_T34 l1 x5_1).f2)) || ((!(((rd_T34 l0 x5_1).f3.f0) == ((rd_T34 l1 x5_1).f3.f0)) || (!(((rd_T34 l0 x5_1).f3.f1) == ((rd_T34 l1 x5_1).f3.f1)))) || (!(((rd_T34 l0 x5_1).f4) == ((rd_T34 l1 x5_1).f4))))))) = true := c7
                clear c7
                obtain rfl := Option.some.inj H
                have p269 : 0 ≤ (x5_1 : Int) := of_decide_eq_true (by first | (with_reducible assumption) | assumption)
                have q269 : x5_1 < (l0.length : Int) := of_decide_eq_true (by first | (with_reducible assumption) | assumption)
                obtain ⟨ad269, e269, hx269_0, hx269_1, hx269_2, hx269_3, hx269_4, hx269_5, hx269_6⟩ := at_T34 HR0.out x5_1 p269 q269
                cases e269
                replace p269 := eq_true p269
                replace q269 := eq_true q269
                have p270 : 0 ≤ (x5_1 : Int) := of_decide_eq_true (by first | (with_reducible assumption) | assumption)
                have q270 : x5_1 < (l1.length : Int) := of_decide_eq_true (by first | (with_reducible assumption) | assumption)
                obtain ⟨ad270, e270, hx270_0, hx270_1, hx270_2, hx270_3, hx270_4, hx270_5, hx270_6⟩ := at_T34 HR1.out x5_1 p270 q270
                cases e270
                replace p270 := eq_true p270
                replace q270 := eq_true q270
                go_wp2
                repeat (go_quiet (fail); try go_wp2)
                go_ret
                exact ⟨by first | rfl | (simp; done) | (simp [*]; done), by repeat (first | exact Drawn0.refl _ | apply Drawn0.step)⟩
              · rw [if_neg c7] at H
                have c7b0 : ((!(((rd_T34 l0 x5_1).f0.f0) == ((rd_T34 l1 x5_1).f0.f0)) || (!(((rd_T34 l0 x5_1).f0.f1) == ((rd_T34 l1 x5_1).f0.f1)))) || (!(((rd_T34 l0 x5_1).f1) == ((rd_T34 l1 x5_1).f1)) || (!(((rd_T34 l0 x5_1).f2) == ((rd_T34 l1 x5_1).f2)) || ((!(((rd_T34 l0 x5_1).f3.f0) == ((rd_T34 l1 x5_1).f3.f0)) || (!(((rd_T34 l0 x5_1).f3.f1) == ((rd_T34 l1 x5_1).f3.f1)))) || (!(((rd_T34 l0 x5_1).f4) == ((rd_T34 l1 x5_1).f4))))))) = false := by simpa using c7
                clear c7
                have H' := Aside0.mk H
                clear H
                have p269 : 0 ≤ (x5_1 : Int) := of_decide_eq_true (by first | (with_reducible assumption) | assumption)
                have q269 : x5_1 < (l0.length : Int) := of_decide_eq_true (by first | (with_reducible assumption) | assumption)
                obtain ⟨ad269, e269, hx269_0, hx269_1, hx269_2, hx269_3, hx269_4, hx269_5, hx269_6⟩ := at_T34 HR0.out x5_1 p269 q269
                cases e269
                replace p269 := eq_true p269
                replace q269 := eq_true q269
                have p270 : 0 ≤ (x5_1 : Int) := of_decide_eq_true (by first | (with_reducible assumption) | assumption)
                have q270 : x5_1 < (l1.length : Int) := of_decide_eq_true (by first | (with_reducible assumption) | assumption)
                obtain ⟨ad270, e270, hx270_0, hx270_1, hx270_2, hx270_3, hx270_4, hx270_5, hx270_6⟩ := at_T34 HR1.out x5_1 p270 q270
                cases e270
                replace p270 := eq_true p270
                replace q270 := eq_true q270
                go_wp2
                repeat (go_quiet (fail); try go_wp2)
                go_roundg k1
                case measure => have := HK1.out; omega
                case rel => exact ⟨(wrap64 (x5_1 + 1)), (by first | rfl | (simp; done) | (simp [*]; done)), H', ⟨by have := HK1.out; omega⟩, by repeat (first | exact Drawn0.refl _ | apply Drawn0.step)⟩
            · rw [if_neg c6] at H
              exact absurd H (by simp)
          · rw [if_neg c5] at H
            exact absurd H (by simp)
        · rw [if_neg c4] at H
          have c4b0 : decide (x5_1 < (l0.length : Int)) = false := decide_eq_false c4
          clear c4
          obtain rfl := Option.some.inj H
          go_wp2
          repeat (go_quiet (fail); try go_wp2)
          go_ret
          exact ⟨by first | rfl | (simp; done) | (simp [*]; done), by repeat (first | exact Drawn0.refl _ | apply Drawn0.step)⟩
  · rw [if_neg c3] at H
    have c3b0 : ((l0.length : Int) == (l1.length : Int)) = false := beq_eq_false_iff_ne.mpr c3
    have c3b1 : ((l0.length : Int) != (l1.length : Int)) = true := bne_iff_ne.mpr c3
    have c3b2 : (l0.length == l1.length) = false := by first | simpa using c3 | (simp at c3 ⊢; omega)
    obtain rfl := Option.some.inj H
    go_enter Try.func58, Try.ntmps58
    go_wp2
    repeat (go_quiet (fail); try go_wp2)
    go_ret
    exact ⟨by first | rfl | (simp; done) | (simp [*]; done), by repeat (first | exact Drawn0.refl _ | apply Drawn0.step)⟩
def foolscaplaw14_id.f (a0 : Int) (a1 : Int) : Option (Int × Int) := some (a0, a1)
set_option maxHeartbeats 8000000 in
set_option maxRecDepth 100000 in
theorem foolscaplaw14_id.calls (a0 : Int) (a1 : Int) (r1 : Int) (r2 : Int) (w : World) (h : foolscaplaw14_id.f a0 a1 = some (r1, r2)) :
    Calls Try.prog 15 #[.int .i64 a0, .int .i64 a1] w fun e w' => e = .returned (.agg #[.int .i64 r1, .int .i64 r2]) ∧ Below w.heap.size w w' := by
  have hu31 := Try.underlying31
  have HB := Aside0.mk (Below.refl w.heap.size w)
  have H : (some (a0, a1)) = some (r1, r2) := h
  clear h
  simp only [Option.some.injEq, Prod.mk.injEq] at H
  obtain ⟨rfl, rfl⟩ := H
  go_enter Try.func15, Try.ntmps15
  go_wp2_with (first | ((with_reducible refine gate_dst (N := 4) rfl ?_); refine box_event ?hg (N := 4) ?hd (cs := #[.int .i64 0, .int .i64 0]) (t := 31) ?hr ?_; (case hd => rfl); (case hg => rfl); (case hr => first | (go_simp; done) | (go_simp; rfl)); intro gb165 hg w3 hbox hb; have n0_ := Aside0.mk (below_step (by repeat (first | (with_reducible first | exact HB.out | apply below_alloc | apply pw_below_drewN | apply below_drew1) | exact HB.out)) hb); have n1_ := Aside0.mk (hbox); have n2_ := Aside0.mk ((by rw [hg]; exact (below_size (by repeat (first | (with_reducible first | exact HB.out | apply below_alloc | apply pw_below_drewN | apply below_drew1) | exact HB.out))) : w.heap.size ≤ gb165)); have n3_ := Aside0.mk ((by rw [hg]; exact (below_size (by repeat (first | (with_reducible first | exact HB.out | apply below_alloc | apply pw_below_drewN | apply below_drew1) | exact HB.out))) : w.heap.size ≤ gb165)); clear HB; have HB := n0_; have BK165 := n1_; have GW165 := n2_; have GE165 := n3_; clear n0_ n1_ n2_ n3_; clear hb hbox hg; have hcz4_0 : w3.cell? ⟨gb165, 0, none⟩ = some (.int .i64 0) := (blk_cell BK165.out 0).trans rfl; have hcz4_1 : w3.cell? ⟨gb165, 1, none⟩ = some (.int .i64 0) := (blk_cell BK165.out 1).trans rfl; have hfz4_0 := blk_frozen BK165.out 0; have hfz4_1 := blk_frozen BK165.out 1))
  refine bodyPost_ret (results_cell_row rfl _ _ gb165 31 #[.int .i64 a0, .int .i64 a1] (0, 0) _ rfl (by (with_reducible repeat (first | refine blk_drewN ?_ _ | refine blk_drew ?_ | refine blk_alloc ?_ _)); refine blk_put (cs := #[.int .i64 a0, .int .i64 0]) ?_ 1 _ rfl; (with_reducible repeat (first | refine blk_drewN ?_ _ | refine blk_drew ?_ | refine blk_alloc ?_ _)); refine blk_put (cs := #[.int .i64 0, .int .i64 0]) ?_ 0 _ rfl; (with_reducible repeat (first | refine blk_drewN ?_ _ | refine blk_drew ?_ | refine blk_alloc ?_ _)); exact BK165.out) Try.underlying31 rfl (by kernel_rfl)) rfl ?_
  exact ⟨by first | rfl | (simp [errW_none, errW_some] <;> rfl) | (simp [*, errW_none, errW_some] <;> rfl), by repeat (first | (with_reducible first | exact HB.out | apply below_alloc | apply pw_below_drewN | apply below_drew1 | refine below_set ?_ GE165.out) | exact HB.out)⟩
end Go.Proofs.Ytehdjdediobemaa.PC
namespace Go.Proofs.Ytehdjdediobemaa.PC
open Go.RowKit Go.Proofs.YtehdjdediobemaaW.PrintWords Go.Proofs.YtehdjdediobemaaW.PrintLast Go.Proofs.YtehdjdediobemaaW.PrintMore Go.Proofs.Ytehdjdediobemaa.K Go.Proofs.Ytehdjdediobemaa.IX Go.Proofs.Ytehdjdediobemaa.I
set_option linter.unusedVariables false
set_option linter.unusedSimpArgs false
theorem wrap_n (i : Nat) (h : i ≤ 1000000) : wrap64 ((i : Int) + 1) = ((i + 1 : Nat) : Int) := by
  unfold wrap64; omega
theorem same01_self (l : List Int) (hl : l.length ≤ 1000000) : foolscapref01_Same.f (l.length + 1) l l = some true := by
  unfold foolscapref01_Same.f
  rw [if_pos rfl]
  have key : ∀ (m i : Nat), i + m = l.length → foolscapref01_Same.l0 (m + 1) l l (i : Int) = some true := by
    intro m
    induction m with
    | zero =>
      intro i hi
      simp only [foolscapref01_Same.l0]
      rw [if_neg (by omega)]
    | succ m ih =>
      intro i hi
      rw [foolscapref01_Same.l0, if_pos (by omega), if_pos (by omega), if_pos (by omega), if_pos rfl, wrap_n i (by omega)]
      exact ih (i + 1) (by omega)
  exact key l.length 0 (by omega)
theorem same01_is {w : World} {A B : Option Addr} {c d : Nat} {l : List Int} (h1 : Kd.C (Kd.int .i32) w A l.length l) (hc : l.length ≤ c) (h2 : Kd.C (Kd.int .i32) w B l.length l) (hd : l.length ≤ d) (hl : l.length ≤ 1000000) : Calls Try.prog 16 #[.slice A l.length c, .slice B l.length d] w fun e w' => e = .returned (.bool true) ∧ ∃ n, w' = w.drewN n :=
  (foolscapref01_Same.calls _ A c l B d l true w h1 hc h2 hd (same01_self l hl)).mono fun _ _ h => ⟨h.1, h.2.out⟩
/-- A character's size: 0 of what is none. -/
def sizS (c : Int) : Int := ((foolscapref01_Size.f 1 c).getD 0)
theorem sizS_pos (c : Int) : sizS c > 0 ↔ chP c := by
  obtain ⟨n, h1, h2⟩ := size_f 0 c
  unfold sizS
  rw [h1]
  exact h2
theorem size_is (w : World) (c : Int) : Calls Try.prog 13 #[.int .i32 c] w fun e w' => e = .returned (.int .i64 (sizS c)) ∧ ∃ n, w' = w.drewN n := by
  obtain ⟨n, h1, h2⟩ := size_f 0 c
  have : sizS c = n := by unfold sizS; rw [h1]; rfl
  rw [this]
  exact (foolscapref01_Size.calls 1 c n w h1).mono fun _ _ h => ⟨h.1, h.2.out⟩
theorem id_is (w : World) (a b : Int) : Calls Try.prog 15 #[.int .i64 a, .int .i64 b] w fun e w' => e = .returned (.agg #[.int .i64 a, .int .i64 b]) ∧ Below w.heap.size w w' :=
  foolscaplaw14_id.calls a b a b w rfl
end Go.Proofs.Ytehdjdediobemaa.PC
namespace Go.Proofs.Ytehdjdediobemaa.PC
open Go.RowKit Go.Proofs.YtehdjdediobemaaW.PrintWords Go.Proofs.YtehdjdediobemaaW.PrintLast Go.Proofs.YtehdjdediobemaaW.PrintMore Go.Proofs.Ytehdjdediobemaa.K Go.Proofs.Ytehdjdediobemaa.IX Go.Proofs.Ytehdjdediobemaa.I
attribute [local go_sem] max2_int min2_int max_two min_two max_three min_three max_four min_four
attribute [local go_sem high] eqA31
set_option linter.unusedVariables false
set_option linter.unusedSimpArgs false
theorem putT_len (T : TS) (o : S34) : (putT T o).2.ops.length ≤ T.ops.length + 1 := by
  unfold putT
  cases refS T o with
  | some e => exact Nat.le_succ _
  | none =>
    show (T.ops ++ [o]).length ≤ _
    rw [List.length_append]
    exact Nat.le_refl _
/-- What a Put answers, its value named. -/
theorem put_named {w0 w : World} {p : Nat} {T T' : TS} {F : Fo} {B : As} {r : Bool} {n : Int} {o : S34} (hp : putT T o = ((r, n), T')) (hi : Inv T F) (hl : T.ops.length ≤ 1000) (b : Asn B) (h : St w0 w (sep (isTx p T) B)) :
    Calls Try.prog 14 #[.pointer (some ⟨p, 0, none⟩), opV o] w fun e w' => e = .returned (.tuple #[.bool r, .int .i64 n]) ∧ St w0 w' (sep (isTx p T') B) := by
  have := put_st b h hi (by omega) o
  rw [hp] at this
  exact this
theorem conv_three {w0 w : World} {A : Option Addr} {c : Nat} {a b d : Int} {B : As} (h : St w0 w (sep (isRow (Kd.int .i32) 21 (.slice A 3 c) [a, b, d]) B)) :
    ∃ ad, A = some ad ∧ (convert 22 9 (.slice (some ad) 3 c)).run Try.prog w = .ok (.string (runesBytes [a, b, d])) w := by
  obtain ⟨A', c', e, hc, hr⟩ := h.reads
  injection e with e1 _ e2
  subst e1 e2
  obtain ⟨ad, rfl, hcell⟩ := hr.2.2 (by simp)
  refine ⟨ad, rfl, ?_⟩
  exact run_convert_runes w 22 9 21 ad 3 c [a, b, d] (Nat.le_refl _) Try.underlying22 Try.underlying21 Try.underlying9 (fun j hj => by
    obtain ⟨cs, hl, hk, hc⟩ := hcell j _ (List.getElem?_eq_getElem hj)
    have hk : cs = [.int .i32 ([a, b, d][j])] := hk
    have := hc 0 (.int .i32 ([a, b, d][j])) (by rw [hk]; rfl)
    have e1 : j * (Kd.int .i32).sz + 0 = j := Nat.mul_one j
    rw [e1] at this
    rw [this, List.getD_eq_getElem?_getD, List.getElem?_eq_getElem hj]
    rfl)
def so1 : S34 := ⟨⟨1, 0⟩, 1, true, ⟨0, 0⟩, 97⟩
def so2 : S34 := ⟨⟨1, 1⟩, 1, true, ⟨0, 0⟩, 98⟩
def so3 : S34 := ⟨⟨2, 0⟩, 2, true, ⟨1, 0⟩, 99⟩
def so4 : S34 := ⟨⟨2, 1⟩, 3, false, ⟨1, 0⟩, 0⟩
def st1 : TS := (putT T0 so1).2
def st2 : TS := (putT st1 so2).2
def st3 : TS := (putT st2 so3).2
theorem sp1 : putT T0 so1 = ((true, 0), st1) := Prod.ext (by decide +kernel) rfl
theorem sp2 : putT st1 so2 = ((true, 0), st2) := Prod.ext (by decide +kernel) rfl
theorem sp3 : putT st2 so3 = ((true, 0), st3) := Prod.ext (by decide +kernel) rfl
theorem sp4 : putT st3 so4 = ((false, 6), st3) := by
  have h : refS st3 so4 = some 6 := by decide +kernel
  exact putT_no h
theorem sb : runesBytes [98, 97, 99] = { data := #[98, 97, 99] } := by decide +kernel
theorem sv : visS st3.l = [98, 97, 99] := by decide +kernel
theorem sc : (cn (st3.l.map (·.f2)) : Int) = 3 := by decide +kernel
theorem stp : st3.top = 2 := by decide +kernel
theorem inv1 : ∃ F, Inv st1 F := inv_put inv0 so1
theorem inv2 : ∃ F, Inv st2 F := by obtain ⟨F, h⟩ := inv1; exact inv_put h so2
theorem inv3 : ∃ F, Inv st3 F := by obtain ⟨F, h⟩ := inv2; exact inv_put h so3
set_option maxHeartbeats 4000000 in
set_option maxRecDepth 100000 in
theorem shown14_calls (w : World) : Calls Try.prog 11 #[] w fun e w' => e = .returned (.bool true) ∧ Below w.heap.size w w' := by
  obtain ⟨F1, i1⟩ := inv1
  obtain ⟨F2, i2⟩ := inv2
  obtain ⟨F3, i3⟩ := inv3
  have l1 : st1.ops.length ≤ 1 := putT_len T0 so1
  have l2 : st2.ops.length ≤ 2 := Nat.le_trans (putT_len st1 so2) (by omega)
  have l3 : st3.ops.length ≤ 3 := Nat.le_trans (putT_len st2 so3) (by omega)
  have K1 := Lib.hid (fun p W (h : St w W (sep (isTx p T0) emp)) => put_named sp1 inv0 (by decide) asn_emp h)
  have K2 := Lib.hid (fun p W (h : St w W (sep (isTx p st1) emp)) => put_named sp2 i1 (by omega) asn_emp h)
  have K3 := Lib.hid (fun p W (h : St w W (sep (isTx p st2) emp)) => put_named sp3 i2 (by omega) asn_emp h)
  have K4 := Lib.hid (fun p W (h : St w W (sep (isTx p st3) emp)) => put_named sp4 i3 (by omega) asn_emp h)
  have K5 := Lib.hid (fun p W (h : St w W (sep (isTx p st3) emp)) => vis_st asn_emp h (by have := i3.ll; omega))
  have K6 := Lib.hid (fun p W (h : St w W (sep (isTx p st3) emp)) => len_st h)
  have K7 := Lib.hid (fun p W (h : St w W (sep (isTx p st3) emp)) => top_st h)
  rw [sv] at K5
  rw [sc] at K6
  rw [stp] at K7
  unfold opV so1 at K1
  unfold opV so2 at K2
  unfold opV so3 at K3
  unfold opV so4 at K4
  simp only [List.length_cons, List.length_nil, Nat.zero_add, Nat.reduceAdd] at K5
  have HS := Lib.hid (St.emp w)
  clear l1 l2 l3 i1 i2 i3
  go_enter Try.func11, Try.ntmps11
  go_wp2_with (first
    | (go_at_call 12; refine (new_st asn_emp HS.out).mono ?_; rintro e w1 ⟨p, rfl, hS⟩; have HS := Lib.hid hS; clear hS)
    | (go_at_call 15; refine (id_is _ _ _).mono ?_; rintro e w2 ⟨rfl, hb⟩; have HS := Lib.hid (HS.out.below (asn_sep (asn_tx _ _) asn_emp) hb); clear hb)
    | (go_at_call 14; with_reducible refine (K1.out _ _ HS.out).mono ?_; rintro e w3 ⟨rfl, hS⟩; have HS := Lib.hid hS; clear hS)
    | (go_at_call 14; with_reducible refine (K2.out _ _ HS.out).mono ?_; rintro e w3 ⟨rfl, hS⟩; have HS := Lib.hid hS; clear hS)
    | (go_at_call 14; with_reducible refine (K3.out _ _ HS.out).mono ?_; rintro e w3 ⟨rfl, hS⟩; have HS := Lib.hid hS; clear hS)
    | (go_at_call 14; with_reducible refine (K4.out _ _ HS.out).mono ?_; rintro e w3 ⟨rfl, hS⟩; have HS := Lib.hid hS; clear hS)
    | (go_at_call 17; with_reducible refine (K5.out _ _ HS.out).mono ?_; rintro e w4 ⟨A, c, rfl, hS⟩; have HS := Lib.hid hS.snd; obtain ⟨ad, rfl, hcv⟩ := conv_three hS; rw [sb] at hcv; clear hS)
    | (go_at_call 30; with_reducible refine (K6.out _ _ HS.out).mono ?_; rintro e w4 ⟨rfl, rfl⟩)
    | (go_at_call 26; with_reducible refine (K7.out _ _ HS.out).mono ?_; rintro e w4 ⟨rfl, rfl⟩))
  go_ret
  exact ⟨rfl, HS.out.bel⟩
end Go.Proofs.Ytehdjdediobemaa.PC
namespace Go.Proofs.Ytehdjdediobemaa.PC
open Go.RowKit Go.Proofs.YtehdjdediobemaaW.PrintWords Go.Proofs.YtehdjdediobemaaW.PrintLast Go.Proofs.YtehdjdediobemaaW.PrintMore Go.Proofs.Ytehdjdediobemaa.K Go.Proofs.Ytehdjdediobemaa.IX
set_option linter.unusedVariables false
set_option linter.unusedSimpArgs false
/-- A kind whose elements are plain cells. -/
structure Flat {α : Type} (d : Kd α) (fl : α → List Value) : Prop where
  len : ∀ x, (fl x).length = d.sz
  K : ∀ {w : World} {x : α} {cs : List Value}, d.K w x cs → cs = fl x
  M : ∀ {w : World} {base : Nat} {ok : Nat → Prop} {x : α} {cs : List Value}, d.M w base ok x cs → cs = fl x
  mk_ : ∀ (w : World) (base : Nat) (ok : Nat → Prop) (x : α), d.M w base ok x (fl x)
  one : ∀ x, ∀ u ∈ fl x, u.oneCell' = true
  pos : 0 < d.sz
  E : d.E = []
theorem Flat.owns {α : Type} {d : Kd α} {fl : α → List Value} (hf : Flat d fl) {e : Nat} {w : World} {base : Nat} {ok : Nat → Prop} {v : Value} {xs : List α} (h : d.R e w base ok v xs) : w.ownsRow base e d.sz v xs.length (xs.flatMap fl) :=
  owns_of_R hf.len (fun h => hf.M h) h
theorem Flat.R {α : Type} {d : Kd α} {fl : α → List Value} (hf : Flat d fl) {e : Nat} {w : World} {base : Nat} {v : Value} {xs : List α} (h : w.ownsRow base e d.sz v xs.length (xs.flatMap fl)) : d.R e w base (fun _ => True) v xs :=
  R_of_owns hf.len (fun _ _ _ _ => hf.mk_ _ _ _ _) (fun _ _ => trivial) h
theorem flat_all {α : Type} {fl : α → List Value} (h1 : ∀ x, ∀ u ∈ fl x, u.oneCell' = true) (xs : List α) : ∀ u ∈ xs.flatMap fl, u.oneCell' = true := fun u hu => by
  obtain ⟨x, _, hx⟩ := List.mem_flatMap.1 hu
  exact h1 x u hx
theorem flat_len {α : Type} {fl : α → List Value} {sz : Nat} (h : ∀ x, (fl x).length = sz) (xs : List α) : (xs.flatMap fl).length = xs.length * sz := by
  induction xs with
  | nil => simp
  | cons x xs ih => rw [List.flatMap_cons, List.length_append, ih, h, List.length_cons, Nat.succ_mul, Nat.add_comm]
/-- A row that is read, cell by cell. -/
theorem Flat.cells {α : Type} {d : Kd α} {fl : α → List Value} (hf : Flat d fl) {w : World} {A : Option Addr} {xs : List α} (h : Kd.C d w A xs.length xs) (hn : 0 < xs.length) : ∃ ad, A = some ad ∧ ∀ i u, (xs.flatMap fl)[i]? = some u → w.cell? (ad.add i) = some u := by
  obtain ⟨ad, rfl, hc⟩ := h.2.2 hn
  refine ⟨ad, rfl, ?_⟩
  have key : ∀ (ys : List α) (k : Nat), (∀ j p, ys[j]? = some p → ∀ i u, (fl p)[i]? = some u → w.cell? (ad.add ((k + j) * d.sz + i)) = some u) → ∀ i u, (ys.flatMap fl)[i]? = some u → w.cell? (ad.add (k * d.sz + i)) = some u := by
    intro ys
    induction ys with
    | nil => intro k _ i u h; simp at h
    | cons y ys ih =>
      intro k hy i u hi
      rw [List.flatMap_cons] at hi
      by_cases hlt : i < (fl y).length
      · rw [List.getElem?_append_left hlt] at hi
        have := hy 0 y rfl i u hi
        rwa [Nat.add_zero] at this
      · rw [List.getElem?_append_right (by omega), hf.len] at hi
        have := ih (k + 1) (fun j p hj i u hu => by
          have := hy (j + 1) p (by simpa using hj) i u hu
          rwa [show k + (j + 1) = k + 1 + j by omega] at this) _ u hi
        rwa [show (k + 1) * d.sz + (i - d.sz) = k * d.sz + i by rw [Nat.succ_mul]; have := hf.len y; omega] at this
  intro i u hi
  have := key xs 0 (fun j p hj i u hu => by
    obtain ⟨c, hl, hk, hcell⟩ := hc j p hj
    rw [Nat.zero_add]
    exact hcell i u (by rw [hf.K hk]; exact hu)) i u hi
  rwa [Nat.zero_mul, Nat.zero_add] at this
theorem appRow {α : Type} {d : Kd α} {fl : α → List Value} (hf : Flat d fl) {t e bytes : Nat} {z : Value} (ht : Try.prog.underlying t = some (.slice e)) (hinfo : (Try.prog.info? e).map (fun i => (i.zero, i.size, i.bytes)) = some (some z, d.sz, bytes)) (hz : z.cells.size = d.sz) (hb0 : 0 < bytes)
    (W : World) (v : Value) (xs : List α) (h : Rw d e W v xs) (A : Option Addr) (c : Nat) (ys : List α) (hr : Kd.C d W A ys.length ys) (hc : ys.length ≤ c) (hl : (xs.length + ys.length) * bytes ≤ 140737488355328) (ty : TypeId) :
    ∃ B n c' w1, (Builtin.append_ #[t, t] ty #[v, .slice A ys.length c]).run Try.prog W = .ok (.slice B n c') w1 ∧ n = (xs ++ ys).length ∧ Rw d e w1 (.slice B n c') (xs ++ ys) ∧ W.grownBy w1 v.ownBlock ∧ ∀ k ∈ ob (.slice B n c'), k ∈ ob v ∨ W.heap.size ≤ k := by
  obtain ⟨i0, hi, hzz⟩ := Option.map_eq_some_iff.1 hinfo
  simp only [Prod.mk.injEq] at hzz
  obtain ⟨hz0, hz1, hz2⟩ := hzz
  have hown := hf.owns h
  have hlen : xs.length + ys.length ≤ 140737488355328 := Nat.le_trans (Nat.le_mul_of_pos_right _ hb0) hl
  have key : ∃ v1 w1, (Builtin.append_ #[t, t] ty #[v, .slice A ys.length c]).run Try.prog W = .ok v1 w1 ∧ Rw d e w1 v1 (xs ++ ys) ∧ W.grownBy w1 v.ownBlock ∧ ∀ k ∈ ob v1, k ∈ ob v ∨ W.heap.size ≤ k := by
    rcases Nat.eq_zero_or_pos ys.length with h0 | h0
    · obtain rfl : ys = [] := List.eq_nil_of_length_eq_zero h0
      refine ⟨v, W, ?_, by rw [List.append_nil]; exact h, World.grownBy.refl W _, fun k hk => .inl hk⟩
      rcases hown.2 with ⟨rfl, hn⟩ | ⟨g, cap, cur, rfl, _, _, hnc, _⟩
      · cases A <;> simp [Builtin.append_, run_underlying ht, sizeOf, typeInfo, hi, Builtin.lenOf, Builtin.firstCells, storeCells, loadCells, loadCellsFrom]
      · cases A <;> simp [Builtin.append_, run_underlying ht, sizeOf, typeInfo, hi, Builtin.lenOf, Builtin.firstCells, hnc, storeCells, loadCells, loadCellsFrom]
    · obtain ⟨ad, rfl, hcell⟩ := hf.cells hr h0
      obtain ⟨v1, w1, hrun, h2, hg, _, hat⟩ := run_append_own_at (P := Try.prog) W 0 t ty e i0 z d.sz bytes ht hi hz0 hz1 hz2 hz hf.pos v xs.length _ hown ad ys.length c (ys.flatMap fl) (flat_len hf.len ys) hcell (flat_all hf.one ys) (by simp only [maxLen]; omega) hl (Nat.zero_le _)
      have e1 : xs.flatMap fl ++ ys.flatMap fl = (xs ++ ys).flatMap fl := by simp
      rw [e1, ← List.length_append] at h2
      refine ⟨v1, w1, hrun, Rw.of hf.E (hf.R h2), hg, fun k hk => ?_⟩
      have hk2 := mem_ob.1 hk
      rcases hat with q | q
      · exact .inl (mem_ob.2 (hk2.trans q))
      · rw [q] at hk2
        injection hk2 with hk2
        exact .inr (by omega)
  obtain ⟨v1, w1, k1, k2, k3, k4⟩ := key
  obtain ⟨B, c', rfl⟩ := Kd.R_slice k2
  exact ⟨B, _, c', w1, k1, rfl, k2, k3, k4⟩
theorem flat_i32 : Flat (Kd.int .i32) (fun x => [Value.int .i32 x]) := ⟨fun _ => rfl, fun h => h, fun h => h, fun _ _ _ _ => rfl, fun x u hu => by rw [List.mem_singleton.1 hu]; rfl, Nat.one_pos, rfl⟩
end Go.Proofs.Ytehdjdediobemaa.PC
namespace Go.Proofs.Ytehdjdediobemaa.PC
open Go.RowKit Go.Proofs.YtehdjdediobemaaW.PrintWords Go.Proofs.YtehdjdediobemaaW.PrintLast Go.Proofs.YtehdjdediobemaaW.PrintMore Go.Proofs.Ytehdjdediobemaa.K Go.Proofs.Ytehdjdediobemaa.IX Go.Proofs.Ytehdjdediobemaa.I
set_option linter.unusedVariables false
set_option linter.unusedSimpArgs false
theorem lit_row {α : Type} {d : Kd α} {fl : α → List Value} (hf : Flat d fl) (e : Nat) (W : World) (x : α) : d.R e (W.alloc (.cells (fl x).toArray e)) W.heap.size (fun _ => True) (.slice (some ⟨W.heap.size, 0, none⟩) 1 1) [x] := by
  have h := World.ownsRow_lit (base := W.heap.size) (e := e) (size := d.sz) W (fl x).toArray 1 (Nat.le_refl _) (by unfold maxLen; omega) (by simp [hf.len])
  have h2 : (W.alloc (.cells (fl x).toArray e)).ownsRow W.heap.size e d.sz (.slice (some ⟨W.heap.size, 0, none⟩) 1 1) [x].length ([x].flatMap fl) := by simpa using h
  exact hf.R h2
theorem lit_st {α : Type} {d : Kd α} {fl : α → List Value} (hf : Flat d fl) (e : Nat) {w0 W : World} {B : As} (b : Asn B) (h : St w0 W B) (x : α) : St w0 (W.alloc (.cells (fl x).toArray e)) (sep (isRow d e (.slice (some ⟨W.heap.size, 0, none⟩) 1 1) [x]) B) :=
  St.row hf.E h b ((Below.refl _ W).alloc (Nat.le_refl _) _) (lit_row hf e W x)
theorem St.nil {α : Type} (d : Kd α) (e : Nat) {w0 W : World} {B : As} (b : Asn B) (h : St w0 W B) : St w0 W (sep (isRow d e (.slice none 0 0) []) B) :=
  h.add (G := []) b (Below.refl _ _) ⟨Kd.R_nil _ _ _ _ _, rfl⟩ (fun k hk => by cases hk)
/-- A row appended to a row. -/
theorem app_st {α : Type} {d : Kd α} {fl : α → List Value} (hf : Flat d fl) {t e bytes : Nat} {z : Value} (ht : Try.prog.underlying t = some (.slice e)) (hinfo : (Try.prog.info? e).map (fun i => (i.zero, i.size, i.bytes)) = some (some z, d.sz, bytes)) (hz : z.cells.size = d.sz) (hb0 : 0 < bytes)
    {w0 W : World} {B : As} (b : Asn B) {v : Value} {xs : List α} (h : St w0 W (sep (isRow d e v xs) B)) {A : Option Addr} {c : Nat} {ys : List α} (hr : Kd.C d W A ys.length ys) (hc : ys.length ≤ c) (hl : (xs.length + ys.length) * bytes ≤ 140737488355328) (ty : TypeId) :
    ∃ B' n c' w1, (Builtin.append_ #[t, t] ty #[v, .slice A ys.length c]).run Try.prog W = .ok (.slice B' n c') w1 ∧ n = (xs ++ ys).length ∧ St w0 w1 (sep (isRow d e (.slice B' n c') (xs ++ ys)) B) := by
  obtain ⟨F, ⟨FA, FB, h1, h2, rfl, hd⟩, hb, hn⟩ := h
  obtain ⟨B', n, c', w1, k1, k2, k3, k4, k5⟩ := appRow hf ht hinfo hz hb0 W v xs h1.1 A c ys hr hc hl ty
  refine ⟨B', n, c', w1, k1, k2, St.upd (A := isRow d e v xs) b (fun k m => hn k (by simp [m])) h2 hd hb (fun k m => hn k (by simp [m])) (Fr.of_grown k4 (fun g hg => by rw [h1.2]; exact mem_ob.2 hg.symm)) ⟨k3, rfl⟩ (fun k hk => by rw [h1.2]; exact k5 k hk)⟩
end Go.Proofs.Ytehdjdediobemaa.PC
namespace Go.Proofs.Ytehdjdediobemaa.PC
open Go.RowKit Go.Proofs.YtehdjdediobemaaW.PrintWords Go.Proofs.Ytehdjdediobemaa.K Go.Proofs.Ytehdjdediobemaa.IX Go.Proofs.Ytehdjdediobemaa.I
set_option linter.unusedVariables false
set_option linter.unusedSimpArgs false
def frontOp (n : Int) (c : Int) : S34 := ⟨⟨n, 7⟩, n, true, ⟨0, 0⟩, c⟩
structure FrontI (T : TS) (n : Nat) (want : List Int) : Prop where
  inv : ∃ F, Inv T F
  vis : visS T.l = want
  low : ∀ e ∈ T.l, e.f0.f0 ≤ n
  seq : I.sq (ens T.v) 7 = n
  last : T.last 7 = n
  len : T.ops.length = n
theorem front0 : FrontI T0 0 [] := ⟨⟨_, inv0⟩, rfl, fun e h => (by simp [T0] at h), rfl, rfl, rfl⟩
theorem skip_zero (x : S31) (l : List S75) (h : ∀ e ∈ l, e.f0.f0 < x.f0) : skipS x l = 0 := by
  cases l with
  | nil => rfl
  | cons e l =>
    simp only [skipS]
    rw [if_neg]
    rw [lessI_iff]
    have := h e (by simp)
    unfold LTi
    omega
theorem front_ref {T : TS} {n : Nat} {want : List Int} (h : FrontI T n want) (hn : n < 1000) {c : Int} (hc : chP c) : refS T (frontOp (n + 1) c) = none := by
  obtain ⟨F, hi⟩ := h.inv
  have hr : rightS (frontOp (n + 1) c) := by
    refine ⟨⟨by show (1 : Int) ≤ n + 1; omega, by show (n : Int) + 1 ≤ 4294967295; omega, by show (0 : Int) ≤ 7; omega, by show (7 : Int) ≤ 4194303; omega⟩, by show (1 : Int) ≤ n + 1; omega, by show (n : Int) + 1 ≤ 4294967295; omega, by show (0 : Int) < n + 1; omega, .inl ⟨rfl, .inr ⟨rfl, rfl⟩, hc⟩⟩
  have hk : knownS T (frontOp (n + 1) c) = n := h.seq
  unfold refS
  rw [if_neg (fun k => k hr), hk, if_neg (by show ¬ ((n : Int) + 1 ≤ n); omega), if_neg, if_neg]
  · show ¬ ((n : Int) + 1 ≤ T.last 7)
    rw [h.last]; omega
  · rintro (k | ⟨_, k⟩)
    · have k : (n : Int) + 1 < n + 1 := k
      omega
    · have : idq (⟨0, 0⟩ : S31) zid = true := rfl
      rw [show (frontOp (n + 1) c).f3 = ⟨0, 0⟩ from rfl, this] at k
      cases k
theorem front_step {T : TS} {n : Nat} {want : List Int} (h : FrontI T n want) (hn : n < 1000) {c : Int} (hc : chP c) : putT T (frontOp (n + 1) c) = ((true, 0), takeS T (frontOp (n + 1) c)) ∧ FrontI (takeS T (frontOp (n + 1) c)) (n + 1) (c :: want) := by
  have hr := front_ref h hn hc
  obtain ⟨F, hi⟩ := h.inv
  refine ⟨by unfold putT; rw [hr], ?_⟩
  have hpl : placeS T.l zid < 0 := by
    have := (hi.place zid).1
    apply Decidable.byContradiction
    intro k
    exact hi.zid_no (this (by omega))
  have hrg := placeS_range T.l zid
  have e : takeS T (frontOp (n + 1) c) = ⟨elOf (frontOp (n + 1) c) :: T.l, T.ops ++ [frontOp (n + 1) c], wtS T.v 7 (n + 1), upd T.last 7 (n + 1), max T.top (n + 1)⟩ := by
    unfold takeS
    rw [if_pos (show (frontOp (n + 1) c).f2 = true from rfl)]
    congr 1
    show insT T.l (skT T.l (placeS T.l zid + 1).toNat (frontOp (n + 1) c)) (frontOp (n + 1) c) = _
    have e0 : (placeS T.l zid + 1).toNat = 0 := by omega
    rw [e0]
    unfold skT
    rw [List.drop_zero, skip_zero _ _ (fun e he => by have := h.low e he; show e.f0.f0 < (n : Int) + 1; omega)]
    unfold insT
    simp
  rw [e]
  refine ⟨by rw [← e]; exact inv_take hi hr, ?_, fun x hx => ?_, ?_, ?_, ?_⟩
  · show visS (elOf _ :: T.l) = _
    unfold visS
    rw [List.filter_cons, if_pos (show (elOf (frontOp (n + 1) c)).f2 = true from rfl), List.map_cons]
    show c :: visS T.l = _
    rw [h.vis]
  · have hx : x ∈ elOf (frontOp (n + 1) c) :: T.l := hx
    rcases List.mem_cons.1 hx with rfl | hx
    · show (n : Int) + 1 ≤ ((n + 1 : Nat) : Int)
      omega
    · have := h.low x hx
      omega
  · show I.sq (ens (wtS T.v 7 (n + 1))) 7 = ((n + 1 : Nat) : Int)
    rw [wtS_eq hi.upS, wt_sq hi.vec (by omega), if_pos rfl, h.seq]
    omega
  · show upd T.last 7 (n + 1) 7 = ((n + 1 : Nat) : Int)
    unfold upd
    rw [if_pos rfl]
    omega
  · show (T.ops ++ [frontOp (n + 1) c]).length = n + 1
    rw [List.length_append, h.len]
    rfl
end Go.Proofs.Ytehdjdediobemaa.PC
namespace Go.Proofs.Ytehdjdediobemaa.PC
open Go.RowKit Go.Proofs.YtehdjdediobemaaW.PrintWords Go.Proofs.YtehdjdediobemaaW.PrintLast Go.Proofs.YtehdjdediobemaaW.PrintMore Go.Proofs.Ytehdjdediobemaa.K Go.Proofs.Ytehdjdediobemaa.IX Go.Proofs.Ytehdjdediobemaa.I
attribute [local go_sem] max2_int min2_int max_two min_two max_three min_three max_four min_four
set_option linter.unusedVariables false
set_option linter.unusedSimpArgs false
theorem cell_rune {w wr : World} {A : Option Addr} {l : List Int} (h : Kd.C (Kd.int .i32) w A l.length l) (hb : Below w.heap.size w wr) (i : Nat) (hi : i < l.length) : ∃ ad, A = some ad ∧ wr.cell? (ad.add i) = some (.int .i32 l[i]) := by
  obtain ⟨ad, e, hc⟩ := h.2.2 (by omega)
  obtain ⟨c, _, hk, hcell⟩ := hc i l[i] (List.getElem?_eq_getElem hi)
  have hk : c = [Value.int .i32 l[i]] := hk
  subst hk
  have h0 := hcell 0 _ rfl
  have h0 : w.cell? (ad.add i) = some (.int .i32 l[i]) := by
    have e2 : i * (Kd.int .i32).sz + 0 = i := by show i * 1 + 0 = i; omega
    rw [e2] at h0; exact h0
  exact ⟨ad, e, (hb.cell (World.block_lt_of_cell? w _ h0)).trans h0⟩
theorem sizS_nonneg (c : Int) : 0 ≤ sizS c := by
  unfold sizS foolscapref01_Size.f
  repeat' split
  all_goals
    unfold foolscapref01_Size.j0
    repeat' split
  all_goals simp
/-- The state of the loop: the text, what it should show. -/
def FrontS (w wr : World) (p : Nat) (v : Value) (n : Nat) : Prop := ∃ T want, FrontI T n want ∧ St w wr (sep (isRow (Kd.int .i32) 21 v want) (sep (isTx p T) emp))
set_option maxHeartbeats 4000000 in
set_option maxRecDepth 100000 in
theorem front_row (A : Option Addr) (cap : Nat) (l : List Int) (w : World) (hr : Kd.C (Kd.int .i32) w A l.length l) (hc : l.length ≤ cap) (hy : l.length * 4 ≤ 140737488351232) (hg : ∀ y ∈ l, (Lit.int .i32 y).wf = true) :
    Calls Try.prog 3 #[.slice A l.length cap] w fun e w' => e = .returned (.bool true) ∧ Below w.heap.size w w' := by
  have HRD := Lib.hid hr
  have HG := Lib.hid hg
  obtain ⟨len, hlen⟩ : ∃ len, l.length = len := ⟨_, rfl⟩
  have HLEN := Lib.hid hlen
  rw [hlen] at hc hy
  obtain ⟨N, hN⟩ : ∃ N, min len 30 = N := ⟨_, rfl⟩
  have hN1 : N ≤ len := by omega
  have hN2 : N ≤ 30 := by omega
  have HN3 := Lib.hid (show len ≤ N ∨ N = 30 by omega)
  have hl2 : len ≤ 140737488351232 := by omega
  have HSH := Lib.hid (shown14_calls w)
  rw [hlen]
  clear hr hg hy hN hlen
  go_enter Try.func3, Try.ntmps3
  go_wp2_with (first
    | (go_at_call 11; refine HSH.out.mono ?_; rintro e w1 ⟨rfl, hb⟩; have HS := Lib.hid ((St.emp w).below asn_emp hb); clear hb)
    | (go_at_call 12; refine (new_st asn_emp HS.out).mono ?_; rintro e w2 ⟨p, rfl, hS⟩; have HS := Lib.hid (show FrontS w w2 p (.slice none 0 0) 0 from ⟨T0, [], front0, hS.nil _ _ (asn_sep (asn_tx _ _) asn_emp)⟩); clear hS))
  go_loopg [5, 6, 7] N (fun kq v5 v6 v7 wr => ∃ (i n : Nat), v7 = .int .i64 (i : Int) ∧ v6 = .int .i64 (n : Int) ∧ Aside0 (kq + i = N ∧ n ≤ i ∧ FrontS w wr p v5 n))
  case atStart => exact ⟨0, 0, rfl, rfl, by omega, Nat.le_refl _, HS.out⟩
  case round =>
    obtain ⟨i, n, rfl, rfl, HI⟩ := hrel
    obtain ⟨T, want, hF, hS⟩ := HI.out.2.2
    obtain ⟨B, c5, rfl, hc5, hr5⟩ := hS.reads
    have hki := HI.out.1
    have hni := HI.out.2.1
    have AS := Lib.hid (asn_sep (asn_row (Kd.int .i32) 21 (.slice B want.length c5) want) asn_emp)
    have HST := Lib.hid hS.turn
    by_cases hlt : i < N
    · have hil : i < l.length := by rw [HLEN.out]; omega
      obtain ⟨ad, rfl, c0⟩ := cell_rune HRD.out hS.bel i hil
      have HCG := Lib.hid (fun W (hb : Below w.heap.size w W) => show W.cell? (ad.add i) = some (.int .i32 l[i]) from by
        obtain ⟨ad2, e2, c2⟩ := cell_rune HRD.out hb i hil
        injection e2 with e2
        rw [e2]; exact c2)
      generalize l[i] = ch at c0 HCG
      have hd1 : decide ((i : Int) < (len : Int)) = true := by simp; omega
      have hd2 : decide ((i : Int) < 30) = true := by simp; omega
      have hsz := sizS_pos ch
      have hs0 := sizS_nonneg ch
      have K0 := Lib.hid (fun W => size_is W ch)
      generalize sizS ch = s at K0 hsz hs0
      by_cases hch : chP ch
      · have hs1 : s > 0 := hsz.2 hch
        have hb1 : (s == 0) = false := by simp; omega
        obtain ⟨e1, hF'⟩ := front_step hF (by omega) hch
        obtain ⟨Fo', hI⟩ := hF.inv
        have hln := hF.len
        have K1 := Lib.hid (fun W (h : St w W (sep (isTx p T) (sep (isRow (Kd.int .i32) 21 (.slice B want.length c5) want) emp))) => put_named e1 hI (by omega) AS.out h)
        generalize takeS T (frontOp (n + 1) ch) = T' at K1 hF'
        unfold opV frontOp at K1
        have HF' := Lib.hid hF'
        have HWL := Lib.hid (show want.length ≤ 1000 by
          have := hF.vis
          have := visS_len T.l
          have := hI.ll
          rw [← hF.vis]; omega)
        have HR5 := Lib.hid hc5
        have hw1 : IntKind.i64.wrap ((n : Int) + 1) = (n : Int) + 1 := by rw [IntKind.wrap_i64]; omega
        clear hF hF' hS hr5 hsz hs0 hs1 e1 hI hln hc5
        go_wp2_with (go_at_call 13; refine (K0.out _).mono ?_; rintro e w3 ⟨rfl, n3, hw3⟩; have HS3 := Lib.hid (show St w w3.drew _ from (hw3 ▸ HST.out.drewN (asn_sep (asn_tx _ _) AS.out) n3).drew (asn_sep (asn_tx _ _) AS.out)); clear hw3)
        go_region_held3 (fun W => W.cell? (ad.add i) = some (.int .i32 ch)) ((first | exact HCG.out _ HS3.out.bel | exact HCG.out _ HS4.out.bel | exact HCG.out _ HS5.out.bel)) (first
          | (go_at_call 15; refine (id_is _ _ _).mono ?_; rintro e w4 ⟨rfl, hb⟩; have HS4 := Lib.hid (HS3.out.below (asn_sep (asn_tx _ _) AS.out) hb); clear hb)
          | (go_at_call 14; with_reducible refine (K1.out _ HS4.out).mono ?_; rintro e w5 ⟨rfl, hS5⟩; have HS5 := Lib.hid hS5; clear hS5))
        have c9 : w5.cell? (ad.add i) = some (.int .i32 ch) := HCG.out _ HS5.out.bel
        have HL6 := Lib.hid (lit_st flat_i32 21 (asn_sep (asn_tx _ _) AS.out) HS5.out ch)
        obtain ⟨B5, c55, e5, hc5', hr5'⟩ := HL6.out.snd.snd.reads
        injection e5 with e5 _ e55
        subst e5 e55
        obtain ⟨B6, n6, c6, w7, e7, hn7, hS7⟩ := app_st flat_i32 (t := 22) (e := 21) (bytes := 4) Try.underlying22 info21 rfl (by decide) (asn_sep (asn_tx _ _) AS.out) HL6.out hr5' hc5' (by have := HWL.out; simp only [List.length_singleton]; omega) 22
        have HE7 := Lib.hid e7
        have HS7 := Lib.hid hS7
        clear e7 hS7 hr5' hc5' hn7
        go_wp2_with (at_builtin; refine Lib.wpList_append_run _ rfl _ _ _ _ rfl _ _ rfl rfl _ _ HE7.out ?_)
        go_roundg (N - (i + 1))
        case measure => omega
        case rel => exact ⟨i + 1, n + 1, by go_num, by go_num, by omega, by omega, T', ch :: want, HF'.out, HS7.out.unassoc.swap.snd.with_emp.assoc⟩
      · have hs1 : ¬ s > 0 := fun k => hch (hsz.1 k)
        have hb1 : (s == 0) = true := by simp; omega
        have HFF := Lib.hid (show ∀ W, St w W (sep (isRow (Kd.int .i32) 21 (.slice B want.length c5) want) (sep (isTx p T) emp)) → FrontS w W p (.slice B want.length c5) n from fun W h => ⟨T, want, hF, h⟩)
        have HSW := Lib.hid hS
        clear hF hS hr5 hsz hs0 hs1 hc5
        go_wp2_with (go_at_call 13; refine (K0.out _).mono ?_; rintro e w3 ⟨rfl, n3, hw3⟩; have HS3 := Lib.hid (show St w w3 _ from (hw3 ▸ HSW.out.drewN (asn_sep (asn_row _ _ _ _) (asn_sep (asn_tx _ _) asn_emp)) n3)); clear hw3)
        go_roundg (N - (i + 1))
        case measure => omega
        case rel => exact ⟨i + 1, n, by go_num, rfl, by omega, by omega, HFF.out _ HS3.out⟩
    · obtain rfl : i = N := by omega
      obtain ⟨Fo', hI⟩ := hF.inv
      have hln := hF.len
      have hwl : want.length ≤ 1000 := by
        have := hF.vis
        have := visS_len T.l
        have := hI.ll
        rw [← hF.vis]; omega
      have K5 := Lib.hid (fun W (h : St w W (sep (isTx p T) (sep (isRow (Kd.int .i32) 21 (.slice B want.length c5) want) emp))) => vis_st AS.out h (by have := hI.ll; omega))
      rw [hF.vis] at K5
      have HWL := Lib.hid hwl
      obtain ⟨nw, hnw⟩ : ∃ nw, want.length = nw := ⟨_, rfl⟩
      have HNW := Lib.hid hnw
      have KSM := Lib.hid (fun W A1 d1 (h : St w W (sep (isRow (Kd.int .i32) 21 (.slice A1 nw d1) want) (sep (isTx p T) (sep (isRow (Kd.int .i32) 21 (.slice B nw c5) want) emp)))) => show Calls Try.prog 16 #[.slice A1 nw d1, .slice B nw c5] W fun e w' => e = .returned (.bool true) ∧ St w w' emp from by
        obtain ⟨x1, x2, ex, x3, x4⟩ := h.reads
        obtain ⟨y1, y2, ey, y3, y4⟩ := h.snd.snd.reads
        injection ex with ex1 ex2 ex3
        injection ey with ey1 ey2 ey3
        subst ex1 ex3 ey1 ey3
        have hq := same01_is x4 x3 y4 y3 (by omega)
        rw [← ex2] at hq
        refine hq.mono ?_
        rintro e w' ⟨he, m, rfl⟩
        exact ⟨he, (h.snd.snd.snd.drewN asn_emp m)⟩)
      rw [hnw] at K5 HST ⊢
      clear hF hS hr5 hc5 hI hln hwl hnw HI
      rcases HN3.out with k | k
      · have hd1 : decide (i < len) = false := by simp; omega
        clear k
        go_wp2_with (first
          | (go_at_call 17; with_reducible refine (K5.out _ HST.out).mono ?_; rintro e w8 ⟨A8, c8, rfl, hS8⟩; have HS8 := Lib.hid hS8; clear hS8)
          | (go_at_call 16; with_reducible refine (KSM.out _ _ _ HS8.out).mono ?_; rintro e w9 ⟨rfl, hS9⟩; have HS9 := Lib.hid hS9; clear hS9))
        all_goals go_ret
        all_goals exact ⟨rfl, HS9.out.bel⟩
      · have hd2 : decide ((i : Int) < 30) = false := by simp; omega
        clear k
        by_cases h3 : i < len
        all_goals
          go_wp2_with (first
            | (go_at_call 17; with_reducible refine (K5.out _ HST.out).mono ?_; rintro e w8 ⟨A8, c8, rfl, hS8⟩; have HS8 := Lib.hid hS8; clear hS8)
            | (go_at_call 16; with_reducible refine (KSM.out _ _ _ HS8.out).mono ?_; rintro e w9 ⟨rfl, hS9⟩; have HS9 := Lib.hid hS9; clear hS9))
          all_goals go_ret
          all_goals exact ⟨rfl, HS9.out.bel⟩
end Go.Proofs.Ytehdjdediobemaa.PC
