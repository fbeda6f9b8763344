/- A part of the proof of rgaFront_holds: its texts, one behind the other, as far as the proof stands on them. (Lines of its texts on the printed words and functions began as lines that a program of the kit had written for this statement.) -/
import Derived.ArgAppend
import Derived.Below
import Derived.BigQuiet
import Derived.BigRegion
import Derived.ChangeMaps4
import Derived.ChangeMaps5
import Derived.Deep.AppendLies
import Derived.Deep.CutBlock
import Derived.Deep.CutRange
import Derived.Deep.DeepCutAuto
import Derived.Deep.DrawnRows
import Derived.Deep.Draws
import Derived.Deep.LoopGhost
import Derived.Deep.OwnRows
import Derived.Deep.QuietTactic
import Derived.Deep.RegionHeld3
import Derived.Deep.RegionLaw
import Derived.Deep.RegionWith
import Derived.KernelRfl
import Derived.Laws.BitsLemmas
import Derived.Laws.BytesArg
import Derived.Laws.CopyRow
import Derived.Laws.Externs
import Derived.Laws.IdiomCopy
import Derived.Laws.MakeOwn
import Derived.Laws.NewBlocks
import Derived.Laws.OwnMore
import Derived.Laws.Rows
import Derived.Laws.Slices
import Derived.Laws.StructEq
import Derived.Lib.AppendStr
import Derived.Lib.AppendZerosOnto
import Derived.Lib.ConvBytes
import Derived.Lib.Hide
import Derived.Lib.JoinLaws
import Derived.Lib.Overlaps
import Derived.Lib.Walk
import Derived.MapKept
import Derived.Maps.AppendAt
import Derived.OrdersHeld
import Derived.OwnWalk
import Derived.RegionTactic
import Derived.RowKit
import Derived.RowKit3
import Derived.StillTailTactics
import Derived.Tactics
import Derived.Test.YtehdjdediobemaaProg
import Derived.WalkKit
import Derived.WalkSpells
import Derived.WideLaws
import Derived.Test.YtehdjdediobemaaBF5
namespace Go.Proofs.Ytehdjdediobemaa.PC
open Go.RowKit Go.Proofs.YtehdjdediobemaaW.PrintWords Go.Proofs.YtehdjdediobemaaW.PrintLast Go.Proofs.YtehdjdediobemaaW.PrintMore Go.Proofs.Ytehdjdediobemaa.K Go.Proofs.Ytehdjdediobemaa.IX
attribute [local go_sem] max2_int min2_int max_two min_two max_three min_three max_four min_four
attribute [local go_sem high] eqA31
set_option linter.unusedVariables false
set_option linter.unusedSimpArgs false
def idq (a b : S31) : Bool := a.f0 == b.f0 && a.f1 == b.f1
theorem idq_iff (a b : S31) : idq a b = true ↔ a = b := by
  cases a; cases b
  simp [idq]
theorem idq_self (a : S31) : idq a a = true := (idq_iff a a).2 rfl
/-- Where an element stands; -1: nowhere. -/
def placeS : List S75 → S31 → Int
  | [], _ => -1
  | e :: l, x => if idq e.f0 x = true then 0 else if placeS l x < 0 then -1 else placeS l x + 1
theorem placeS_range (l : List S75) (x : S31) : -1 ≤ placeS l x ∧ placeS l x < l.length := by
  induction l with
  | nil => simp [placeS]
  | cons e l ih =>
    simp only [placeS, List.length_cons]
    split
    · omega
    · split <;> omega
theorem placeS_app (a b : List S75) (x : S31) (h : ∀ e ∈ a, idq e.f0 x = false) : placeS (a ++ b) x = if placeS b x < 0 then -1 else placeS b x + a.length := by
  induction a with
  | nil =>
    have := placeS_range b x
    simp only [List.nil_append, List.length_nil]
    split <;> omega
  | cons e a ih =>
    simp only [List.cons_append, placeS, ih (fun y hy => h y (by simp [hy])), h e (by simp), List.length_cons, Bool.false_eq_true, if_false]
    by_cases hb : placeS b x < 0
    · simp [hb]
    · simp only [hb, if_false]
      split <;> omega
theorem placeS_at (a b : List S75) (e : S75) (x : S31) (h : ∀ e ∈ a, idq e.f0 x = false) (he : idq e.f0 x = true) : placeS (a ++ e :: b) x = a.length := by
  rw [placeS_app a _ x h]
  simp [placeS, he]
theorem placeS_none (l : List S75) (x : S31) (h : ∀ e ∈ l, idq e.f0 x = false) : placeS l x = -1 := by
  have := placeS_app l [] x h
  simpa [placeS] using this
theorem placeS_some (l : List S75) (x : S31) (h : 0 ≤ placeS l x) : ∃ e, l[(placeS l x).toNat]? = some e ∧ e.f0 = x := by
  induction l with
  | nil => simp [placeS] at h
  | cons e l ih =>
    by_cases he : idq e.f0 x = true
    · exact ⟨e, by simp [placeS, he], (idq_iff _ _).1 he⟩
    · by_cases h2 : placeS l x < 0
      · simp [placeS, he, h2] at h
      · obtain ⟨y, h3, h4⟩ := ih (by omega)
        refine ⟨y, ?_, h4⟩
        simp only [placeS, he, h2, if_false, Bool.false_eq_true]
        rw [show (placeS l x + 1).toNat = (placeS l x).toNat + 1 by omega]
        simpa using h3
def elV (e : S75) : Value := .agg #[.int .i64 e.f0.f0, .int .i64 e.f0.f1, .int .i32 e.f1, .bool e.f2]
theorem cplace_calls (e : S75) (x : S31) (b : Nat) (w : World) (h0 : w.cell? ⟨b, 0, none⟩ = some (.int .i64 x.f0)) (h1 : w.cell? ⟨b, 1, none⟩ = some (.int .i64 x.f1)) :
    Calls Try.prog 65 #[elV e, .pointer (some ⟨b, 0, none⟩)] w fun e' w' => e' = .returned (.bool (idq e.f0 x)) ∧ Below w.heap.size w w' := by
  unfold elV idq
  have hu := Try.underlying31
  have hb := World.block_lt_of_cell? w _ h0
  have g0 : (w.alloc (.cells #[.int .i64 e.f0.f0, .int .i64 e.f0.f1, .int .i32 e.f1, .bool e.f2] 75)).cell? ⟨b, 0, none⟩ = some (.int .i64 x.f0) := (((Below.refl _ w).alloc (Nat.le_refl _) _).cell hb).trans h0
  have g1 : (w.alloc (.cells #[.int .i64 e.f0.f0, .int .i64 e.f0.f1, .int .i32 e.f1, .bool e.f2] 75)).cell? ⟨b, 1, none⟩ = some (.int .i64 x.f1) := (((Below.refl _ w).alloc (Nat.le_refl _) _).cell (World.block_lt_of_cell? w _ h1)).trans h1
  go_enter Try.func65, Try.ntmps65
  go_wp2
  go_ret
  exact ⟨rfl, (Below.refl _ w).alloc (Nat.le_refl _) _⟩
set_option maxHeartbeats 4000000 in
theorem idx_calls (l : List S75) (x : S31) (b : Nat) (A : Option Addr) (c : Nat) (w : World) (hr : Kd.C k75 w A l.length l) (hc : l.length ≤ c) (hl : l.length ≤ 1000000) (h0 : w.cell? ⟨b, 0, none⟩ = some (.int .i64 x.f0)) (h1 : w.cell? ⟨b, 1, none⟩ = some (.int .i64 x.f1)) :
    Calls Try.prog 64 #[.slice A l.length c, .func (Fn.func 65) #[] #[.pointer (some ⟨b, 0, none⟩)]] w fun e w' => e = .returned (.int .i64 (placeS l x)) ∧ Below w.heap.size w w' := by
  have HR := Aside0.mk hr
  have H0 := Lib.hid h0
  have H1 := Lib.hid h1
  clear hr h0 h1
  go_enter Try.func64, Try.ntmps64
  go_wp2
  go_loopw [8] (fun v8 w' => ∃ i : Nat, v8 = .int .i64 (i : Int) ∧ i ≤ l.length ∧ Aside0 ((∀ e ∈ l.take i, idq e.f0 x = false) ∧ Below w.heap.size w w')) (fun v8 _ => l.length - (intOf v8).toNat)
  case atStart => exact ⟨0, rfl, by omega, ⟨by simp, Below.refl _ _⟩⟩
  case round =>
    obtain ⟨i, rfl, hi, HI⟩ := hrel
    by_cases hlt : i < l.length
    · obtain ⟨ad, eA, c0, c1, c2, c3⟩ := at_T75 HR.out (i : Int) (by omega) (by omega)
      subst eA
      have hrd : rd_T75 l (i : Int) = l[i] := by unfold rd_T75; simp [hlt]
      have hta : l.take (i + 1) = l.take i ++ [l[i]] := (List.take_append_getElem hlt).symm
      have hspl : l = l.take i ++ l[i] :: l.drop (i + 1) := by rw [← List.drop_eq_getElem_cons hlt, List.take_append_drop]
      simp only [Int.toNat_natCast] at c0 c1 c2 c3
      replace c0 := (HI.out.2.cell (World.block_lt_of_cell? w _ c0)).trans c0
      replace c1 := (HI.out.2.cell (World.block_lt_of_cell? w _ c1)).trans c1
      replace c2 := (HI.out.2.cell (World.block_lt_of_cell? w _ c2)).trans c2
      replace c3 := (HI.out.2.cell (World.block_lt_of_cell? w _ c3)).trans c3
      rw [hrd] at c0 c1 c2 c3
      obtain ⟨e, he⟩ : ∃ e, l[i] = e := ⟨_, rfl⟩
      rw [he] at c0 c1 c2 c3 hta hspl
      have HT := Lib.hid hta
      have HS := Lib.hid hspl
      have K1 := Lib.hid (fun w2 (hb : Below w.heap.size w w2) => cplace_calls e x b w2 ((hb.cell (World.block_lt_of_cell? w _ H0.out)).trans H0.out) ((hb.cell (World.block_lt_of_cell? w _ H1.out)).trans H1.out))
      unfold elV at K1
      clear hrd hta he hspl
      by_cases hq : idq e.f0 x = true
      · rw [hq] at K1
        have hfin : placeS l x = (i : Int) := by
          have := placeS_at (l.take i) (l.drop (i + 1)) e x HI.out.1 hq
          rw [← HS.out, List.length_take, Nat.min_eq_left hi] at this
          exact this
        have HF := Lib.hid hfin
        have HQ := Lib.hid hq
        clear hfin hq
        go_wp2_with (go_at_call 65; refine (K1.out _ HI.out.2).mono ?_; rintro e' w' ⟨rfl, hb⟩; have HB2 := Lib.hid (below_step HI.out.2 hb); clear hb)
        go_ret
        exact ⟨by rw [HF.out]; rfl, HB2.out⟩
      · have hq2 : idq e.f0 x = false := by simpa using hq
        rw [hq2] at K1
        have HQ := Lib.hid hq2
        clear hq hq2
        go_wp2_with (go_at_call 65; refine (K1.out _ HI.out.2).mono ?_; rintro e' w' ⟨rfl, hb⟩; have HB2 := Lib.hid (below_step HI.out.2 hb); clear hb)
        go_roundw
        case rel =>
          refine ⟨i + 1, by go_num, by omega, ⟨fun y hy => ?_, HB2.out⟩⟩
          rw [HT.out] at hy
          rcases List.mem_append.1 hy with h | h
          · exact HI.out.1 y h
          · rw [List.mem_singleton] at h
            rw [h]; exact HQ.out
        case measure => simp [intOf]; omega
    · obtain rfl : i = l.length := by omega
      have hfin : placeS l x = -1 := placeS_none l x (fun e he => HI.out.1 e (by rw [List.take_length]; exact he))
      have HF := Lib.hid hfin
      have HB2 := Lib.hid HI.out.2
      clear hfin
      go_wp2
      go_ret
      exact ⟨by rw [HF.out]; rfl, HB2.out⟩
set_option maxHeartbeats 4000000 in
theorem place_calls' (p : Nat) (l : List S75) (x : S31) (A : Option Addr) (c : Nat) (w : World) (hp : w.cell? ⟨p, 0, none⟩ = some (.slice A l.length c)) (hr : Kd.C k75 w A l.length l) (hc : l.length ≤ c) (hl : l.length ≤ 1000000) :
    Calls Try.prog 43 #[.pointer (some ⟨p, 0, none⟩), .agg #[.int .i64 x.f0, .int .i64 x.f1]] w fun e w' => e = .returned (.int .i64 (placeS l x)) ∧ Below w.heap.size w w' := by
  obtain ⟨x0, x1⟩ := x
  have hb : Below w.heap.size w (w.alloc (.cells #[.int .i64 x0, .int .i64 x1] 31)) := (Below.refl _ w).alloc (Nat.le_refl _) _
  have K1 := Lib.hid (idx_calls l ⟨x0, x1⟩ w.heap.size A c (w.alloc (.cells #[.int .i64 x0, .int .i64 x1] 31)) (Kd.C_below hr hb) hc hl ((cell_of (heap_new w _) 0).trans rfl) ((cell_of (heap_new w _) 1).trans rfl))
  have HB := Lib.hid hb
  have hp2 := (hb.cell (World.block_lt_of_cell? w _ hp)).trans hp
  clear hr hb
  go_enter Try.func43, Try.ntmps43
  go_wp2_with (go_at_call 64; refine K1.out.mono ?_; rintro e' w' ⟨rfl, hb⟩; have HB2 := Lib.hid (below_step HB.out hb); clear hb)
  go_ret
  exact ⟨rfl, HB2.out⟩
end Go.Proofs.Ytehdjdediobemaa.PC
namespace Go.Proofs.Ytehdjdediobemaa.PC
open Go.RowKit Go.Proofs.YtehdjdediobemaaW.PrintWords Go.Proofs.YtehdjdediobemaaW.PrintLast Go.Proofs.YtehdjdediobemaaW.PrintMore Go.Proofs.Ytehdjdediobemaa.K Go.Proofs.Ytehdjdediobemaa.IX
attribute [local go_sem] max2_int min2_int max_two min_two max_three min_three max_four min_four
attribute [local go_sem high] eqA31
set_option linter.unusedVariables false
set_option linter.unusedSimpArgs false
/-- What operations make: the elements in order, the operations, the vector, of each author the greatest counter, the greatest of all. -/
structure TS where
  l : List S75
  ops : List S34
  v : List S80
  last : Int → Int
  top : Int
/-- A row of the program's own in memory, held by its own block alone. -/
def Rw {α : Type} (d : Kd α) (e : Nat) (w : World) (v : Value) (xs : List α) : Prop := d.R e w 0 (fun k => some k = v.ownBlock) v xs
theorem mem_ob {v : Value} {k : Nat} : k ∈ ob v ↔ some k = v.ownBlock := by
  unfold ob
  rw [Option.mem_toList]
  exact eq_comm
theorem Rw.keep {α : Type} {d : Kd α} {e : Nat} {w w' : World} {v : Value} {xs : List α} (h : Rw d e w v xs) (hk : ∀ k ∈ ob v, w'.heap[k]? = w.heap[k]?) : Rw d e w' v xs :=
  Kd.R_move h fun k hk2 => hk k (mem_ob.2 hk2)
theorem Rw.of {α : Type} {d : Kd α} {e base : Nat} {ok : Nat → Prop} {w : World} {v : Value} {xs : List α} (hE : d.E = []) (h : d.R e w base ok v xs) : Rw d e w v xs := Kd.R_lower (Kd.R_tight hE h) (Nat.zero_le _)
theorem Rw.lt {α : Type} {d : Kd α} {e : Nat} {w : World} {v : Value} {xs : List α} (h : Rw d e w v xs) : ∀ k ∈ ob v, k < w.heap.size := fun k hk => Kd.R_lt h k (mem_ob.1 hk).symm
theorem Rw.typed {α : Type} {d : Kd α} {e : Nat} {w : World} {v : Value} {xs : List α} (h : Rw d e w v xs) : ∀ k ∈ ob v, ∃ cs, w.heap[k]? = some (.cells cs e (0, 0)) := fun k hk => Kd.R_typed h k (mem_ob.1 hk).symm
/-- A text in memory; the blocks that it takes. -/
def Tx (w : World) (F : List Nat) (p : Nat) (T : TS) : Prop :=
  ∃ (lv : Value) (x : Nat) (ov vv : Value) (mb : Nat) (FI : List Nat), w.heap[p]? = some (.cells #[lv, .pointer (some ⟨x, 0, none⟩), ov, vv, .map (some mb), .int .i64 T.top] 71 (0, 0)) ∧
    Rw k75 75 w lv T.l ∧ Ix w FI x (T.l.map (·.f2)) ∧ Rw k34 34 w ov T.ops ∧ Rw k80 80 w vv T.v ∧ IM w mb T.last ∧ F = p :: mb :: (ob lv ++ (FI ++ (ob ov ++ ob vv)))
theorem Tx.keep {w w' : World} {F : List Nat} {p : Nat} {T : TS} (h : Tx w F p T) (hk : ∀ k ∈ F, w'.heap[k]? = w.heap[k]?) : Tx w' F p T := by
  obtain ⟨lv, x, ov, vv, mb, FI, h1, h2, h3, h4, h5, h6, rfl⟩ := h
  exact ⟨lv, x, ov, vv, mb, FI, (hk p (by simp)).trans h1, h2.keep fun k hm => hk k (by simp [hm]), h3.keep fun k hm => hk k (by simp [hm]), h4.keep fun k hm => hk k (by simp [hm]), h5.keep fun k hm => hk k (by simp [hm]), h6.keep (hk mb (by simp)), rfl⟩
theorem Tx.lt {w : World} {F : List Nat} {p : Nat} {T : TS} (h : Tx w F p T) : ∀ k ∈ F, k < w.heap.size := by
  obtain ⟨lv, x, ov, vv, mb, FI, h1, h2, h3, h4, h5, h6, rfl⟩ := h
  intro k hk
  simp only [List.mem_cons, List.mem_append] at hk
  rcases hk with rfl | rfl | hk | hk | hk | hk
  · exact lt_of h1
  · exact h6.lt
  · exact h2.lt k hk
  · exact h3.lt k hk
  · exact h4.lt k hk
  · exact h5.lt k hk
theorem Tx.fr {w w' : World} {F G : List Nat} {p : Nat} {T : TS} (h : Tx w F p T) (hf : Fr G w w') (hd : ∀ k ∈ F, k ∉ G) : Tx w' F p T := h.keep fun k hk => hf.block k (h.lt k hk) (hd k hk)
theorem Tx.below {w w' : World} {F : List Nat} {p : Nat} {T : TS} (h : Tx w F p T) (hb : Below w.heap.size w w') : Tx w' F p T := h.keep fun k hk => hb.block k (h.lt k hk)
/-- What the walk reads of a text. -/
theorem Tx.read {w : World} {F : List Nat} {p : Nat} {T : TS} (h : Tx w F p T) : ∃ (A1 : Option Addr) (c1 x : Nat) (A2 : Option Addr) (c2 : Nat) (A3 : Option Addr) (c3 mb : Nat) (FI : List Nat),
    w.cell? ⟨p, 0, none⟩ = some (.slice A1 T.l.length c1) ∧ w.cell? ⟨p, 1, none⟩ = some (.pointer (some ⟨x, 0, none⟩)) ∧ w.cell? ⟨p, 2, none⟩ = some (.slice A2 T.ops.length c2) ∧ w.cell? ⟨p, 3, none⟩ = some (.slice A3 T.v.length c3) ∧ w.cell? ⟨p, 4, none⟩ = some (.map (some mb)) ∧ w.cell? ⟨p, 5, none⟩ = some (.int .i64 T.top) ∧
    (T.l.length ≤ c1 ∧ Kd.C k75 w A1 T.l.length T.l) ∧ Ix w FI x (T.l.map (·.f2)) ∧ (T.ops.length ≤ c2 ∧ Kd.C k34 w A2 T.ops.length T.ops) ∧ (T.v.length ≤ c3 ∧ Kd.C k80 w A3 T.v.length T.v) ∧ IM w mb T.last := by
  obtain ⟨lv, x, ov, vv, mb, FI, h1, h2, h3, h4, h5, h6, rfl⟩ := h
  obtain ⟨A1, c1, rfl, e1, r1⟩ := Kd.R_reads h2
  obtain ⟨A2, c2, rfl, e2, r2⟩ := Kd.R_reads h4
  obtain ⟨A3, c3, rfl, e3, r3⟩ := Kd.R_reads h5
  exact ⟨A1, c1, x, A2, c2, A3, c3, mb, FI, (cell_of h1 0).trans rfl, (cell_of h1 1).trans rfl, (cell_of h1 2).trans rfl, (cell_of h1 3).trans rfl, (cell_of h1 4).trans rfl, (cell_of h1 5).trans rfl, ⟨e1, r1⟩, h3, ⟨e2, r2⟩, ⟨e3, r3⟩, h6⟩
theorem top_calls (w : World) (F : List Nat) (p : Nat) (T : TS) (h : Tx w F p T) : Calls Try.prog 26 #[.pointer (some ⟨p, 0, none⟩)] w fun e w' => e = .returned (.int .i64 T.top) ∧ w = w' := by
  obtain ⟨A1, c1, x, A2, c2, A3, c3, mb, FI, h0, h1, h2, h3, h4, h5, _⟩ := h.read
  generalize T.top = t at *
  clear h
  go_enter Try.func26, Try.ntmps26
  go_wp2
  go_ret
  exact ⟨rfl, rfl⟩
theorem tlen_calls (w : World) (F : List Nat) (p : Nat) (T : TS) (h : Tx w F p T) : Calls Try.prog 30 #[.pointer (some ⟨p, 0, none⟩)] w fun e w' => e = .returned (.int .i64 (cn (T.l.map (·.f2)) : Int)) ∧ w = w' := by
  obtain ⟨A1, c1, x, A2, c2, A3, c3, mb, FI, h0, h1, h2, h3, h4, h5, _, hx, _⟩ := h.read
  have K1 := Lib.hid (count_calls w FI x _ hx)
  generalize (cn (T.l.map (·.f2)) : Int) = t at *
  clear h hx
  go_enter Try.func30, Try.ntmps30
  go_wp2_with (go_at_call 52; refine K1.out.mono ?_; rintro e w' ⟨rfl, rfl⟩)
  go_ret
  exact ⟨rfl, rfl⟩
end Go.Proofs.Ytehdjdediobemaa.PC
namespace Go.Proofs.Ytehdjdediobemaa.PC
open Go.RowKit Go.Proofs.YtehdjdediobemaaW.PrintWords Go.Proofs.YtehdjdediobemaaW.PrintLast Go.Proofs.YtehdjdediobemaaW.PrintMore Go.Proofs.Ytehdjdediobemaa.K Go.Proofs.Ytehdjdediobemaa.IX
attribute [local go_sem] max2_int min2_int max_two min_two max_three min_three max_four min_four
attribute [local go_sem high] eqA31
set_option linter.unusedVariables false
set_option linter.unusedSimpArgs false
theorem info21 : (Try.prog.info? 21).map (fun i => (i.zero, i.size, i.bytes)) = some (some (.int .i32 0), 1, 4) := by kernel_rfl
def visS (l : List S75) : List Int := (l.filter (·.f2)).map (·.f1)
theorem visS_snoc (l : List S75) (e : S75) : visS (l ++ [e]) = if e.f2 = true then visS l ++ [e.f1] else visS l := by
  unfold visS
  rw [List.filter_append, List.map_append]
  cases h : e.f2 <;> simp [h]
theorem visS_len (l : List S75) : (visS l).length ≤ l.length := by
  unfold visS
  rw [List.length_map]
  exact List.length_filter_le _ _
/-- An element of a row, as the walk reads it in a later world. -/
theorem cell_el {w wr : World} {A : Option Addr} {l : List S75} (h : Kd.C k75 w A l.length l) (hb : Below w.heap.size w wr) (i : Nat) (hi : i < l.length) : ∃ ad, A = some ad ∧ wr.cell? (ad.add (i * 4)) = some (.int .i64 l[i].f0.f0) ∧ wr.cell? ⟨(ad.add (i * 4)).block, (ad.add (i * 4)).off + 1, none⟩ = some (.int .i64 l[i].f0.f1) ∧
    wr.cell? ⟨(ad.add (i * 4)).block, (ad.add (i * 4)).off + 2, none⟩ = some (.int .i32 l[i].f1) ∧ wr.cell? ⟨(ad.add (i * 4)).block, (ad.add (i * 4)).off + 3, none⟩ = some (.bool l[i].f2) := by
  obtain ⟨ad, eA, c0, c1, c2, c3⟩ := at_T75 h (i : Int) (by omega) (by omega)
  have hrd : rd_T75 l (i : Int) = l[i] := by unfold rd_T75; simp [hi]
  simp only [Int.toNat_natCast] at c0 c1 c2 c3
  rw [hrd] at c0 c1 c2 c3
  exact ⟨ad, eA, (hb.cell (World.block_lt_of_cell? w _ c0)).trans c0, (hb.cell (World.block_lt_of_cell? w _ c1)).trans c1, (hb.cell (World.block_lt_of_cell? w _ c2)).trans c2, (hb.cell (World.block_lt_of_cell? w _ c3)).trans c3⟩
set_option maxHeartbeats 4000000 in
set_option maxRecDepth 100000 in
theorem vis_calls (w : World) (F : List Nat) (p : Nat) (T : TS) (h : Tx w F p T) (hl : T.l.length ≤ 1000000) : Calls Try.prog 17 #[.pointer (some ⟨p, 0, none⟩)] w fun e w' => ∃ v, e = .returned v ∧ Kd.R (Kd.int .i32) 21 w' w.heap.size (fun _ => True) v (visS T.l) ∧ Below w.heap.size w w' := by
  obtain ⟨A1, c1, x, A2, c2, A3, c3, mb, FI, h0, h1, h2, h3, h4, h5, ⟨hc, hr⟩, _⟩ := h.read
  generalize T.l = l at *
  have HR := Lib.hid hr
  clear h h1 h2 h3 h4 h5 hr
  go_enter Try.func17, Try.ntmps17
  go_wp2
  go_loopw [3, 11] (fun v3 v11 w' => ∃ i : Nat, v11 = .int .i64 (i : Int) ∧ i ≤ l.length ∧ Aside0 (Kd.R (Kd.int .i32) 21 w' w.heap.size (fun _ => True) v3 (visS (l.take i)) ∧ Below w.heap.size w w')) (fun _ v11 _ => l.length - (intOf v11).toNat)
  case atStart => exact ⟨0, rfl, by omega, ⟨Kd.R_nil _ _ _ _ _, Below.refl _ _⟩⟩
  case round =>
    obtain ⟨i, rfl, hi, HI⟩ := hrel
    by_cases hlt : i < l.length
    · obtain ⟨ad, eA, e0, e1, e2, e3⟩ := cell_el HR.out HI.out.2 i hlt
      subst eA
      have hta : visS (l.take (i + 1)) = if (l[i]).f2 = true then visS (l.take i) ++ [(l[i]).f1] else visS (l.take i) := by rw [show l.take (i + 1) = l.take i ++ [l[i]] from (List.take_append_getElem hlt).symm]; exact visS_snoc _ _
      have hvl := visS_len (l.take i)
      rw [List.length_take] at hvl
      obtain ⟨e, he⟩ : ∃ e, l[i] = e := ⟨_, rfl⟩
      rw [he] at e0 e1 e2 e3 hta
      obtain ⟨vs, hvs⟩ : ∃ vs, visS (l.take i) = vs := ⟨_, rfl⟩
      rw [hvs] at hta hvl
      have HO := Lib.hid (show Kd.R (Kd.int .i32) 21 wr w.heap.size (fun _ => True) u3 vs from by rw [← hvs]; exact HI.out.1)
      have HB := Lib.hid HI.out.2
      have HT := Lib.hid hta
      have HVL := Lib.hid (show vs.length ≤ 1000000 by omega)
      clear hta he hvs hvl HI
      cases hq : e.f2 with
      | true =>
        rw [hq] at e3
        have HQ := Lib.hid hq
        clear hq
        go_wp2_with ((with_reducible refine gate_builtin (b := .append) (xs := #[.tmp 17, .tmp 20]) rfl ?_); at_builtin; refine Kd.R_append (Kd.int .i32) (w0 := w) w.heap.size rfl (.tmp 17) (.tmp 20) 22 21 (.int .i32 0) 4 rfl Try.underlying22 info21 rfl (by decide) (by omega) u3 vs e.f1 [.int .i32 e.f1] (fun _ => True) (fun _ => False) rfl ?aX ?aP (fun _ hk => hk.elim) ?aF ?aO ?aB ?aS ?aL ?_; (case aX => (show Value.slice (some ⟨wr.heap.size + 1, 0, none⟩) 1 1 = _; rw [alloc_sz])); (case aP => exact rfl); (case aF => exact (fun _ _ => trivial)); (case aO => exact Kd.R_alloc HO.out _); (case aB => exact below_alloc HB.out _); (case aS => exact below_size (below_alloc HB.out _)); (case aL => have := HVL.out; omega); intro v7 w7 ho7 hb hg hat; have HO7 := Lib.hid ho7; have HB7 := Lib.hid hb; clear ho7 hb hg hat)
        go_roundw
        case rel => exact ⟨i + 1, by go_num, by omega, ⟨by rw [HT.out, if_pos HQ.out]; exact HO7.out, HB7.out⟩⟩
        case measure => simp [intOf]; omega
      | false =>
        rw [hq] at e3
        have HQ := Lib.hid hq
        clear hq
        go_wp2
        go_roundw
        case rel => exact ⟨i + 1, by go_num, by omega, ⟨by rw [HT.out, if_neg (by rw [HQ.out]; decide)]; exact Kd.R_alloc HO.out _, below_alloc HB.out _⟩⟩
        case measure => simp [intOf]; omega
    · obtain rfl : i = l.length := by omega
      have HO := Lib.hid (show Kd.R (Kd.int .i32) 21 wr w.heap.size (fun _ => True) u3 (visS l) from by have := HI.out.1; rw [List.take_length] at this; exact this)
      have HB := Lib.hid HI.out.2
      clear HI
      go_wp2
      go_ret
      exact ⟨_, rfl, HO.out, HB.out⟩
end Go.Proofs.Ytehdjdediobemaa.PC
namespace Go.Proofs.Ytehdjdediobemaa.PC
open Go.RowKit Go.Proofs.YtehdjdediobemaaW.PrintWords Go.Proofs.YtehdjdediobemaaW.PrintLast Go.Proofs.YtehdjdediobemaaW.PrintMore Go.Proofs.Ytehdjdediobemaa.K Go.Proofs.Ytehdjdediobemaa.IX
attribute [local go_sem] max2_int min2_int max_two min_two max_three min_three max_four min_four
attribute [local go_sem high] eqA31
set_option linter.unusedVariables false
set_option linter.unusedSimpArgs false
theorem info34 : (Try.prog.info? 34).map (fun i => (i.zero, i.size, i.bytes)) = some (some (.agg #[(.int .i64 0), (.int .i64 0), (.int .i64 0), (.bool false), (.int .i64 0), (.int .i64 0), (.int .i32 0)]), 7, 56) := by kernel_rfl
theorem tplace_calls (w : World) (F : List Nat) (p : Nat) (T : TS) (x : S31) (h : Tx w F p T) (hl : T.l.length ≤ 1000000) : Calls Try.prog 43 #[.pointer (some ⟨p, 0, none⟩), .agg #[.int .i64 x.f0, .int .i64 x.f1]] w fun e w' => e = .returned (.int .i64 (placeS T.l x)) ∧ Below w.heap.size w w' := by
  obtain ⟨A1, c1, _, A2, c2, A3, c3, mb, FI, h0, h1, h2, h3, h4, h5, ⟨hc, hr⟩, _⟩ := h.read
  exact place_calls' p T.l x A1 c1 w h0 hr hc hl
end Go.Proofs.Ytehdjdediobemaa.PC
namespace Go.Proofs.Ytehdjdediobemaa.PC
open Go.RowKit Go.Proofs.YtehdjdediobemaaW.PrintWords Go.Proofs.YtehdjdediobemaaW.PrintLast Go.Proofs.YtehdjdediobemaaW.PrintMore Go.Proofs.Ytehdjdediobemaa.K Go.Proofs.Ytehdjdediobemaa.I
attribute [local go_sem] max2_int min2_int max_two min_two max_three min_three max_four min_four
set_option linter.unusedVariables false
set_option linter.unusedSimpArgs false
theorem ens_len (xs : List S80) : (ens xs).length = xs.length := List.length_map _
theorem wtS_len {xs : List S80} (h : upS xs) (a s : Int) : (wtS xs a s).length ≤ xs.length + 1 := by
  rw [← ens_len, wtS_eq h, ← ens_len xs]
  exact wt_len _ _ _
end Go.Proofs.Ytehdjdediobemaa.PC
namespace Go.Proofs.Ytehdjdediobemaa.PC
open Go.RowKit Go.Proofs.YtehdjdediobemaaW.PrintWords Go.Proofs.YtehdjdediobemaaW.PrintLast Go.Proofs.YtehdjdediobemaaW.PrintMore
attribute [local go_sem] max2_int min2_int max_two min_two max_three min_three max_four min_four
set_option linter.unusedVariables false
set_option linter.unusedSimpArgs false
attribute [local go_sem high] eqA31 eqA34 eqA80
def foolscapref12_Same.l0 : Nat → List (S80) → List (S80) → Int → Option (Bool)
  | 0, _, _, _ => none
  | k + 1, x0, x1, x5 => if x5 < (x0.length : Int) then (if 0 ≤ x5 then (if x5 < (x1.length : Int) then (if (!(((rd_T80 x0 x5).f0) == ((rd_T80 x1 x5).f0)) || (!(((rd_T80 x0 x5).f1) == ((rd_T80 x1 x5).f1)))) = true then (some false) else (foolscapref12_Same.l0 k x0 x1 (wrap64 (x5 + 1)))) else (none)) else (none)) else (some true)
def foolscapref12_Same.f (k : Nat) (l0 : List (S80)) (l1 : List (S80)) : Option (Bool) := if (l0.length : Int) = (l1.length : Int) then (foolscapref12_Same.l0 k l0 l1 0) else (some false)
theorem foolscapref12_Same.mono_l : ∀ k, (∀ y0 y1 y2, LeO (foolscapref12_Same.l0 k y0 y1 y2) (foolscapref12_Same.l0 (k + 1) y0 y1 y2))
  | 0 => fun _ _ _ r h => by simp [foolscapref12_Same.l0] at h
  | k + 1 => by
    have ih0 := foolscapref12_Same.mono_l k
    · intro y0 y1 y2
      unfold foolscapref12_Same.l0
      repeat' first
      | (with_reducible exact ih0 _ _ _)
      | (with_reducible exact LeO.refl _)
      | (with_reducible exact LeO.none _)
      | (with_reducible refine LeO.ite ?_ ?_)
      | (with_reducible refine LeO.bind ?_ (fun _ => ?_))
      | exact ih0 _ _ _
      | exact LeO.none _
      | refine LeO.ite ?_ ?_
      | refine LeO.bind ?_ (fun _ => ?_)
theorem foolscapref12_Same.mono : ∀ a0 a1 k, LeO (foolscapref12_Same.f k a0 a1) (foolscapref12_Same.f (k + 1) a0 a1) := by
  intro a0 a1 k
  have ih0 := foolscapref12_Same.mono_l k
  unfold foolscapref12_Same.f
  repeat' first
      | (with_reducible exact ih0 _ _ _)
      | (with_reducible exact LeO.refl _)
      | (with_reducible exact LeO.none _)
      | (with_reducible refine LeO.ite ?_ ?_)
      | (with_reducible refine LeO.bind ?_ (fun _ => ?_))
      | exact ih0 _ _ _
      | exact LeO.none _
      | refine LeO.ite ?_ ?_
      | refine LeO.bind ?_ (fun _ => ?_)
set_option maxHeartbeats 8000000 in
set_option maxRecDepth 100000 in
theorem foolscapref12_Same.calls (k : Nat) (A0 : Option Addr) (c0 : Nat) (l0 : List (S80)) (A1 : Option Addr) (c1 : Nat) (l1 : List (S80)) (r : Bool) (w : World) (hr0 : Kd.C k80 w A0 l0.length l0) (hc0 : l0.length ≤ c0) (hr1 : Kd.C k80 w A1 l1.length l1) (hc1 : l1.length ≤ c1) (h : foolscapref12_Same.f k l0 l1 = some r) :
    Calls Try.prog 25 #[.slice A0 l0.length c0, .slice A1 l1.length c1] w fun e w' => e = .returned (.bool r) ∧ Drawn0 w w' := by
  have hu80 := Try.underlying80
  have HR0 := Aside0.mk hr0
  have HC0 := Aside0.mk hc0
  clear hr0 hc0
  have HR1 := Aside0.mk hr1
  have HC1 := Aside0.mk hc1
  clear hr1 hc1
  have H : (if (l0.length : Int) = (l1.length : Int) then (foolscapref12_Same.l0 k l0 l1 0) else (some false)) = some r := h
  clear h
  by_cases c3 : (l0.length : Int) = (l1.length : Int)
  · rw [if_pos c3] at H
    have c3b0 : ((l0.length : Int) == (l1.length : Int)) = true := beq_iff_eq.mpr c3
    have c3b1 : ((l0.length : Int) != (l1.length : Int)) = false := bne_eq_false_iff_eq.mpr c3
    have c3b2 : (l0.length == l1.length) = true := by first | simpa using c3 | (simp at c3 ⊢; omega)
    clear c3
    have H' := Aside0.mk H
    clear H
    go_enter Try.func25, Try.ntmps25
    go_wp2
    repeat (go_quiet (fail); try go_wp2)
    go_loopg [5] k (fun kq v5 w' => ∃ (x5_1 : Int), v5 = .int .i64 x5_1 ∧ Aside0 (foolscapref12_Same.l0 kq l0 l1 x5_1 = some r) ∧ Aside0 (kq ≤ k) ∧ Drawn0 w w')
    case atStart => exact ⟨(0), (by first | rfl | (simp; done) | (simp [*]; done)), H', ⟨Nat.le_refl _⟩, by repeat (first | exact Drawn0.refl _ | apply Drawn0.step)⟩
    case round =>
      clear H'
      try clear c1
      try clear c2
      try clear p2
      try clear c3
      try clear c3b0
      try clear c3b1
      try clear c3b2
      obtain ⟨x5_1, rfl, HA, HK1, ⟨m1, rfl⟩⟩ := hrel
      cases gk with
      | zero => exact absurd HA.out (by simp [foolscapref12_Same.l0])
      | succ k1 =>
        have H := HA.out
        clear HA
        simp only [foolscapref12_Same.l0] at H
        by_cases c4 : x5_1 < (l0.length : Int)
        · rw [if_pos c4] at H
          have c4b0 : decide (x5_1 < (l0.length : Int)) = true := decide_eq_true c4
          clear c4
          by_cases c5 : 0 ≤ x5_1
          · rw [if_pos c5] at H
            have c5b0 : decide (0 ≤ x5_1) = true := decide_eq_true c5
            clear c5
            by_cases c6 : x5_1 < (l1.length : Int)
            · rw [if_pos c6] at H
              have c6b0 : decide (x5_1 < (l1.length : Int)) = true := decide_eq_true c6
              clear c6
              by_cases c7 : (!(((rd_T80 l0 x5_1).f0) == ((rd_T80 l1 x5_1).f0)) || (!(((rd_T80 l0 x5_1).f1) == ((rd_T80 l1 x5_1).f1)))) = true
              · rw [if_pos c7] at H
                have c7b0 : (!(((rd_T80 l0 x5_1).f0) == ((rd_T80 l1 x5_1).f0)) || (!(((rd_T80 l0 x5_1).f1) == ((rd_T80 l1 x5_1).f1)))) = true := c7
                clear c7
                obtain rfl := Option.some.inj H
                have p185 : 0 ≤ (x5_1 : Int) := of_decide_eq_true (by first | (with_reducible assumption) | assumption)
                have q185 : x5_1 < (l0.length : Int) := of_decide_eq_true (by first | (with_reducible assumption) | assumption)
                obtain ⟨ad185, e185, hx185_0, hx185_1⟩ := at_T80 HR0.out x5_1 p185 q185
                cases e185
                replace p185 := eq_true p185
                replace q185 := eq_true q185
                have p186 : 0 ≤ (x5_1 : Int) := of_decide_eq_true (by first | (with_reducible assumption) | assumption)
                have q186 : x5_1 < (l1.length : Int) := of_decide_eq_true (by first | (with_reducible assumption) | assumption)
                obtain ⟨ad186, e186, hx186_0, hx186_1⟩ := at_T80 HR1.out x5_1 p186 q186
                cases e186
                replace p186 := eq_true p186
                replace q186 := eq_true q186
                go_wp2
                repeat (go_quiet (fail); try go_wp2)
                go_ret
                exact ⟨by first | rfl | (simp; done) | (simp [*]; done), by repeat (first | exact Drawn0.refl _ | apply Drawn0.step)⟩
              · rw [if_neg c7] at H
                have c7b0 : (!(((rd_T80 l0 x5_1).f0) == ((rd_T80 l1 x5_1).f0)) || (!(((rd_T80 l0 x5_1).f1) == ((rd_T80 l1 x5_1).f1)))) = false := by simpa using c7
                clear c7
                have H' := Aside0.mk H
                clear H
                have p185 : 0 ≤ (x5_1 : Int) := of_decide_eq_true (by first | (with_reducible assumption) | assumption)
                have q185 : x5_1 < (l0.length : Int) := of_decide_eq_true (by first | (with_reducible assumption) | assumption)
                obtain ⟨ad185, e185, hx185_0, hx185_1⟩ := at_T80 HR0.out x5_1 p185 q185
                cases e185
                replace p185 := eq_true p185
                replace q185 := eq_true q185
                have p186 : 0 ≤ (x5_1 : Int) := of_decide_eq_true (by first | (with_reducible assumption) | assumption)
                have q186 : x5_1 < (l1.length : Int) := of_decide_eq_true (by first | (with_reducible assumption) | assumption)
                obtain ⟨ad186, e186, hx186_0, hx186_1⟩ := at_T80 HR1.out x5_1 p186 q186
                cases e186
                replace p186 := eq_true p186
                replace q186 := eq_true q186
                go_wp2
                repeat (go_quiet (fail); try go_wp2)
                go_roundg k1
                case measure => have := HK1.out; omega
                case rel => exact ⟨(wrap64 (x5_1 + 1)), (by first | rfl | (simp; done) | (simp [*]; done)), H', ⟨by have := HK1.out; omega⟩, by repeat (first | exact Drawn0.refl _ | apply Drawn0.step)⟩
            · rw [if_neg c6] at H
              exact absurd H (by simp)
          · rw [if_neg c5] at H
            exact absurd H (by simp)
        · rw [if_neg c4] at H
          have c4b0 : decide (x5_1 < (l0.length : Int)) = false := decide_eq_false c4
          clear c4
          obtain rfl := Option.some.inj H
          go_wp2
          repeat (go_quiet (fail); try go_wp2)
          go_ret
          exact ⟨by first | rfl | (simp; done) | (simp [*]; done), by repeat (first | exact Drawn0.refl _ | apply Drawn0.step)⟩
  · rw [if_neg c3] at H
    have c3b0 : ((l0.length : Int) == (l1.length : Int)) = false := beq_eq_false_iff_ne.mpr c3
    have c3b1 : ((l0.length : Int) != (l1.length : Int)) = true := bne_iff_ne.mpr c3
    have c3b2 : (l0.length == l1.length) = false := by first | simpa using c3 | (simp at c3 ⊢; omega)
    obtain rfl := Option.some.inj H
    go_enter Try.func25, Try.ntmps25
    go_wp2
    repeat (go_quiet (fail); try go_wp2)
    go_ret
    exact ⟨by first | rfl | (simp; done) | (simp [*]; done), by repeat (first | exact Drawn0.refl _ | apply Drawn0.step)⟩
def foolscapref12_Seq.l0 : Nat → List (S80) → Int → Int → Option (Int)
  | 0, _, _, _ => none
  | k + 1, x0, x1, x5 => if x5 < (x0.length : Int) then (if 0 ≤ x5 then (if ((rd_T80 x0 x5).f0) = x1 then (some ((rd_T80 x0 x5).f1)) else (foolscapref12_Seq.l0 k x0 x1 (wrap64 (x5 + 1)))) else (none)) else (some 0)
def foolscapref12_Seq.f (k : Nat) (l0 : List (S80)) (a1 : Int) : Option (Int) := foolscapref12_Seq.l0 k l0 a1 0
theorem foolscapref12_Seq.mono_l : ∀ k, (∀ y0 y1 y2, LeO (foolscapref12_Seq.l0 k y0 y1 y2) (foolscapref12_Seq.l0 (k + 1) y0 y1 y2))
  | 0 => fun _ _ _ r h => by simp [foolscapref12_Seq.l0] at h
  | k + 1 => by
    have ih0 := foolscapref12_Seq.mono_l k
    · intro y0 y1 y2
      unfold foolscapref12_Seq.l0
      repeat' first
      | (with_reducible exact ih0 _ _ _)
      | (with_reducible exact LeO.refl _)
      | (with_reducible exact LeO.none _)
      | (with_reducible refine LeO.ite ?_ ?_)
      | (with_reducible refine LeO.bind ?_ (fun _ => ?_))
      | exact ih0 _ _ _
      | exact LeO.none _
      | refine LeO.ite ?_ ?_
      | refine LeO.bind ?_ (fun _ => ?_)
theorem foolscapref12_Seq.mono : ∀ a0 a1 k, LeO (foolscapref12_Seq.f k a0 a1) (foolscapref12_Seq.f (k + 1) a0 a1) := by
  intro a0 a1 k
  have ih0 := foolscapref12_Seq.mono_l k
  unfold foolscapref12_Seq.f
  repeat' first
      | (with_reducible exact ih0 _ _ _)
      | (with_reducible exact LeO.refl _)
      | (with_reducible exact LeO.none _)
      | (with_reducible refine LeO.ite ?_ ?_)
      | (with_reducible refine LeO.bind ?_ (fun _ => ?_))
      | exact ih0 _ _ _
      | exact LeO.none _
      | refine LeO.ite ?_ ?_
      | refine LeO.bind ?_ (fun _ => ?_)
set_option maxHeartbeats 8000000 in
set_option maxRecDepth 100000 in
theorem foolscapref12_Seq.calls (k : Nat) (A0 : Option Addr) (c0 : Nat) (l0 : List (S80)) (a1 : Int) (r : Int) (w : World) (hr0 : Kd.C k80 w A0 l0.length l0) (hc0 : l0.length ≤ c0) (h : foolscapref12_Seq.f k l0 a1 = some r) :
    Calls Try.prog 20 #[.slice A0 l0.length c0, .int .i64 a1] w fun e w' => e = .returned (.int .i64 r) ∧ Drawn0 w w' := by
  have HR0 := Aside0.mk hr0
  have HC0 := Aside0.mk hc0
  clear hr0 hc0
  have H : (foolscapref12_Seq.l0 k l0 a1 0) = some r := h
  clear h
  have H' := Aside0.mk H
  clear H
  go_enter Try.func20, Try.ntmps20
  go_wp2
  go_loopg [5] k (fun kq v5 w' => ∃ (x5_1 : Int), v5 = .int .i64 x5_1 ∧ Aside0 (foolscapref12_Seq.l0 kq l0 a1 x5_1 = some r) ∧ Aside0 (kq ≤ k) ∧ Drawn0 w w')
  case atStart => exact ⟨(0), (by first | rfl | (simp; done) | (simp [*]; done)), H', ⟨Nat.le_refl _⟩, by repeat (first | exact Drawn0.refl _ | apply Drawn0.step)⟩
  case round =>
    clear H'
    try clear c2
    try clear p2
    obtain ⟨x5_1, rfl, HA, HK1, ⟨m1, rfl⟩⟩ := hrel
    cases gk with
    | zero => exact absurd HA.out (by simp [foolscapref12_Seq.l0])
    | succ k1 =>
      have H := HA.out
      clear HA
      simp only [foolscapref12_Seq.l0] at H
      by_cases c3 : x5_1 < (l0.length : Int)
      · rw [if_pos c3] at H
        have c3b0 : decide (x5_1 < (l0.length : Int)) = true := decide_eq_true c3
        clear c3
        by_cases c4 : 0 ≤ x5_1
        · rw [if_pos c4] at H
          have c4b0 : decide (0 ≤ x5_1) = true := decide_eq_true c4
          clear c4
          by_cases c5 : ((rd_T80 l0 x5_1).f0) = a1
          · rw [if_pos c5] at H
            have c5b0 : (((rd_T80 l0 x5_1).f0) == a1) = true := beq_iff_eq.mpr c5
            have c5b1 : (((rd_T80 l0 x5_1).f0) != a1) = false := bne_eq_false_iff_eq.mpr c5
            clear c5
            obtain rfl := Option.some.inj H
            have p238 : 0 ≤ (x5_1 : Int) := of_decide_eq_true (by first | (with_reducible assumption) | assumption)
            have q238 : x5_1 < (l0.length : Int) := of_decide_eq_true (by first | (with_reducible assumption) | assumption)
            obtain ⟨ad238, e238, hx238_0, hx238_1⟩ := at_T80 HR0.out x5_1 p238 q238
            cases e238
            replace p238 := eq_true p238
            replace q238 := eq_true q238
            have p239 : 0 ≤ (x5_1 : Int) := of_decide_eq_true (by first | (with_reducible assumption) | assumption)
            have q239 : x5_1 < (l0.length : Int) := of_decide_eq_true (by first | (with_reducible assumption) | assumption)
            obtain ⟨ad239, e239, hx239_0, hx239_1⟩ := at_T80 HR0.out x5_1 p239 q239
            obtain rfl : ad238 = ad239 := (by injection e239)
            replace p239 := eq_true p239
            replace q239 := eq_true q239
            go_wp2
            go_ret
            exact ⟨by first | rfl | (simp; done) | (simp [*]; done), by repeat (first | exact Drawn0.refl _ | apply Drawn0.step)⟩
          · rw [if_neg c5] at H
            have c5b0 : (((rd_T80 l0 x5_1).f0) == a1) = false := beq_eq_false_iff_ne.mpr c5
            have c5b1 : (((rd_T80 l0 x5_1).f0) != a1) = true := bne_iff_ne.mpr c5
            have H' := Aside0.mk H
            clear H
            have p238 : 0 ≤ (x5_1 : Int) := of_decide_eq_true (by first | (with_reducible assumption) | assumption)
            have q238 : x5_1 < (l0.length : Int) := of_decide_eq_true (by first | (with_reducible assumption) | assumption)
            obtain ⟨ad238, e238, hx238_0, hx238_1⟩ := at_T80 HR0.out x5_1 p238 q238
            cases e238
            replace p238 := eq_true p238
            replace q238 := eq_true q238
            go_wp2
            go_roundg k1
            case measure => have := HK1.out; omega
            case rel => exact ⟨(wrap64 (x5_1 + 1)), (by first | rfl | (simp; done) | (simp [*]; done)), H', ⟨by have := HK1.out; omega⟩, by repeat (first | exact Drawn0.refl _ | apply Drawn0.step)⟩
        · rw [if_neg c4] at H
          exact absurd H (by simp)
      · rw [if_neg c3] at H
        have c3b0 : decide (x5_1 < (l0.length : Int)) = false := decide_eq_false c3
        clear c3
        obtain rfl := Option.some.inj H
        go_wp2
        go_ret
        exact ⟨by first | rfl | (simp; done) | (simp [*]; done), by repeat (first | exact Drawn0.refl _ | apply Drawn0.step)⟩
mutual
def foolscapref12_With.l0 : Nat → List (S80) → Int → Int → List (S80) → Bool → Int → Option ((List (S80)))
  | 0, _, _, _, _, _, _ => none
  | k + 1, x0, x1, x2, x7, x8, x9 => if x9 < (x0.length : Int) then (if x8 = true then (foolscapref12_With.j1 k x0 x1 x2 x7 x8 x9 false) else (if 0 ≤ x9 then (foolscapref12_With.j1 k x0 x1 x2 x7 x8 x9 (decide (((rd_T80 x0 x9).f0) ≥ x1))) else (none))) else (if x8 = true then (some x7) else (if x7.length < 8796093022208 then (some (x7 ++ [(⟨x1, x2⟩ : S80)])) else (none)))
def foolscapref12_With.j1 : Nat → List (S80) → Int → Int → List (S80) → Bool → Int → Bool → Option ((List (S80)))
  | 0, _, _, _, _, _, _, _ => none
  | k + 1, x0, x1, x2, x7, x8, x9, x34 => if x34 = true then (if x7.length < 8796093022208 then ((some (x7 ++ [(⟨x1, x2⟩ : S80)] : List (S80))).bind fun y251 => (if 0 ≤ x9 then (if x9 < (x0.length : Int) then (if ((rd_T80 x0 x9).f0) = x1 then (foolscapref12_With.l0 k x0 x1 x2 y251 true (wrap64 (x9 + 1))) else (if y251.length < 8796093022208 then (foolscapref12_With.l0 k x0 x1 x2 (y251 ++ [(⟨(rd_T80 x0 x9).f0, (rd_T80 x0 x9).f1⟩ : S80)]) true (wrap64 (x9 + 1))) else (none))) else (none)) else (none))) else (none)) else (if 0 ≤ x9 then (if x9 < (x0.length : Int) then (if ((rd_T80 x0 x9).f0) = x1 then (foolscapref12_With.l0 k x0 x1 x2 x7 x8 (wrap64 (x9 + 1))) else (if x7.length < 8796093022208 then (foolscapref12_With.l0 k x0 x1 x2 (x7 ++ [(⟨(rd_T80 x0 x9).f0, (rd_T80 x0 x9).f1⟩ : S80)]) x8 (wrap64 (x9 + 1))) else (none))) else (none)) else (none))
end
def foolscapref12_With.f (k : Nat) (l0 : List (S80)) (a1 : Int) (a2 : Int) : Option ((List (S80))) := (foolscapref12_Seq.f k l0 a1).bind fun t240 => (if t240 ≥ a2 then ((some (([] : List (S80)) : List (S80))).bind fun y241 => (if y241.length + l0.length < 8796093022208 then (some (y241 ++ l0)) else (none))) else (foolscapref12_With.l0 k l0 a1 a2 ([] : List (S80)) false 0))
theorem foolscapref12_With.mono_l : ∀ k, (∀ y0 y1 y2 y3 y4 y5, LeO (foolscapref12_With.l0 k y0 y1 y2 y3 y4 y5) (foolscapref12_With.l0 (k + 1) y0 y1 y2 y3 y4 y5)) ∧ (∀ y0 y1 y2 y3 y4 y5 y6, LeO (foolscapref12_With.j1 k y0 y1 y2 y3 y4 y5 y6) (foolscapref12_With.j1 (k + 1) y0 y1 y2 y3 y4 y5 y6))
  | 0 => ⟨fun _ _ _ _ _ _ r h => by simp [foolscapref12_With.l0] at h, fun _ _ _ _ _ _ _ r h => by simp [foolscapref12_With.j1] at h⟩
  | k + 1 => by
    obtain ⟨ih0, ih1⟩ := foolscapref12_With.mono_l k
    refine ⟨?_, ?_⟩
    · intro y0 y1 y2 y3 y4 y5
      unfold foolscapref12_With.l0
      repeat' first
      | (with_reducible exact ih0 _ _ _ _ _ _)
      | (with_reducible exact ih1 _ _ _ _ _ _ _)
      | (with_reducible exact foolscapref12_Seq.mono _ _ _)
      | (with_reducible exact LeO.refl _)
      | (with_reducible exact LeO.none _)
      | (with_reducible refine LeO.ite ?_ ?_)
      | (with_reducible refine LeO.bind ?_ (fun _ => ?_))
      | exact ih0 _ _ _ _ _ _
      | exact ih1 _ _ _ _ _ _ _
      | exact foolscapref12_Seq.mono _ _ _
      | exact LeO.none _
      | refine LeO.ite ?_ ?_
      | refine LeO.bind ?_ (fun _ => ?_)
    · intro y0 y1 y2 y3 y4 y5 y6
      unfold foolscapref12_With.j1
      repeat' first
      | (with_reducible exact ih0 _ _ _ _ _ _)
      | (with_reducible exact ih1 _ _ _ _ _ _ _)
      | (with_reducible exact foolscapref12_Seq.mono _ _ _)
      | (with_reducible exact LeO.refl _)
      | (with_reducible exact LeO.none _)
      | (with_reducible refine LeO.ite ?_ ?_)
      | (with_reducible refine LeO.bind ?_ (fun _ => ?_))
      | exact ih0 _ _ _ _ _ _
      | exact ih1 _ _ _ _ _ _ _
      | exact foolscapref12_Seq.mono _ _ _
      | exact LeO.none _
      | refine LeO.ite ?_ ?_
      | refine LeO.bind ?_ (fun _ => ?_)
theorem foolscapref12_With.mono : ∀ a0 a1 a2 k, LeO (foolscapref12_With.f k a0 a1 a2) (foolscapref12_With.f (k + 1) a0 a1 a2) := by
  intro a0 a1 a2 k
  obtain ⟨ih0, ih1⟩ := foolscapref12_With.mono_l k
  unfold foolscapref12_With.f
  repeat' first
      | (with_reducible exact ih0 _ _ _ _ _ _)
      | (with_reducible exact ih1 _ _ _ _ _ _ _)
      | (with_reducible exact foolscapref12_Seq.mono _ _ _)
      | (with_reducible exact LeO.refl _)
      | (with_reducible exact LeO.none _)
      | (with_reducible refine LeO.ite ?_ ?_)
      | (with_reducible refine LeO.bind ?_ (fun _ => ?_))
      | exact ih0 _ _ _ _ _ _
      | exact ih1 _ _ _ _ _ _ _
      | exact foolscapref12_Seq.mono _ _ _
      | exact LeO.none _
      | refine LeO.ite ?_ ?_
      | refine LeO.bind ?_ (fun _ => ?_)
set_option maxHeartbeats 8000000 in
set_option maxRecDepth 100000 in
theorem foolscapref12_With.calls (k : Nat) (A0 : Option Addr) (c0 : Nat) (l0 : List (S80)) (a1 : Int) (a2 : Int) (r : List (S80)) (w : World) (hr0 : Kd.C k80 w A0 l0.length l0) (hc0 : l0.length ≤ c0) (h : foolscapref12_With.f k l0 a1 a2 = some r) :
    Calls Try.prog 73 #[.slice A0 l0.length c0, .int .i64 a1, .int .i64 a2] w fun e w' => ∃ v0_ : Value, e = .returned (v0_) ∧ Kd.R k80 80 w' w.heap.size (fun _ => True) v0_ r ∧ Below w.heap.size w w' := by
  have hu80 := Try.underlying80
  have HR0 := Aside0.mk hr0
  have HC0 := Aside0.mk hc0
  clear hr0 hc0
  have HB := Aside0.mk (Below.refl w.heap.size w)
  have H : ((foolscapref12_Seq.f k l0 a1).bind fun t240 => (if t240 ≥ a2 then ((some (([] : List (S80)) : List (S80))).bind fun y241 => (if y241.length + l0.length < 8796093022208 then (some (y241 ++ l0)) else (none))) else (foolscapref12_With.l0 k l0 a1 a2 ([] : List (S80)) false 0))) = some r := h
  clear h
  replace H := Option.bind_eq_some_iff.mp H
  obtain ⟨t240, A40, H⟩ := H
  replace H : (if t240 ≥ a2 then ((some (([] : List (S80)) : List (S80))).bind fun y241 => (if y241.length + l0.length < 8796093022208 then (some (y241 ++ l0)) else (none))) else (foolscapref12_With.l0 k l0 a1 a2 ([] : List (S80)) false 0)) = some r := H
  have A4 := Aside0.mk A40
  clear A40
  by_cases c5 : t240 ≥ a2
  · rw [if_pos c5] at H
    have c5b0 : decide (a2 ≤ t240) = true := decide_eq_true c5
    clear c5
    obtain ⟨y241, hy241⟩ : ∃ y_ : List (S80), y_ = (([] : List (S80))) := ⟨_, rfl⟩
    replace H : (if y241.length + l0.length < 8796093022208 then (some (y241 ++ l0)) else (none)) = some r := by first | (rw [hy241]; with_reducible exact H) | (have H2_ := (Option.bind_some _ _).symm.trans H; rw [hy241]; with_reducible exact H2_) | (have H2_ := (Option.bind_some _ _).symm.trans H; with_reducible exact H2_) | with_reducible exact H | (rw [hy241]; exact H) | exact H
    have Ny241 := Aside0.mk hy241
    clear hy241
    by_cases c6 : y241.length + l0.length < 8796093022208
    · rw [if_pos c6] at H
      have LMc6 := Aside0.mk c6
      clear c6
      obtain ⟨y244, hy244⟩ : ∃ y_ : List (S80), y_ = (y241 ++ l0) := ⟨_, rfl⟩
      replace H : (some y244) = some r := by first | (rw [hy244]; with_reducible exact H) | (have H2_ := (Option.bind_some _ _).symm.trans H; rw [hy244]; with_reducible exact H2_) | (have H2_ := (Option.bind_some _ _).symm.trans H; with_reducible exact H2_) | with_reducible exact H | (rw [hy244]; exact H) | exact H
      have Ny244 := Aside0.mk hy244
      clear hy244
      obtain rfl := Option.some.inj H
      go_enter Try.func73, Try.ntmps73
      go_wp2_with (first | ((with_reducible refine gate_callee (f := 20) rfl ?_); refine goesL_ (some 12) rfl rfl Try.func20 (by kernel_rfl) rfl #[.slice A0 l0.length c0, .int .i64 a1] rfl (by (try simp only [List.map_toArray, List.map_cons, List.map_nil]); first | done | rfl | (simp only [List.length_drop, List.length_take]; rfl)) ?_; (with_reducible refine (foolscapref12_Seq.calls k _ _ l0 a1 t240 _ ?side1 ?side2 A4.out).mono ?_); (case side1 => repeat (first | exact HR0.out | (with_reducible refine Kd.C_alloc ?_ _) | (with_reducible refine Kd.C_drewN ?_ _) | (with_reducible refine Kd.C_drew ?_))); (case side2 => exact HC0.out); rintro e w' ⟨rfl, ⟨nd, rfl⟩⟩; refine ⟨_, rfl, ?_⟩) | ((with_reducible refine gate_dst (N := 15) rfl ?_); refine Kd.R_lit k80 _ 80 ?hg (N := 15) ?hd (xs := ([] : List (S80))) (inner := []) (ok := fun _ => True) (okp := fun _ => True) ?hr ?hp (fun _ hk => hk) trivial (Below.refl _ _) (Nat.le_refl _) (by simp) ?_; (case hd => rfl); (case hg => rfl); (case hr => first | (go_simp; done) | (go_simp; rfl)); (case hp => exact (Reps.none _ _)); intro v242 w7 ho8 hb hg_ hnew_; clear hg_ hnew_; (first | rw [← Ny241.out] at ho8 | (simp only [Int.reduceToNat] at ho8; rw [← Ny241.out] at ho8)); have n0_ := Aside0.mk (Kd.R_lower ho8 (below_size (by repeat (first | (with_reducible first | exact HB.out | apply below_alloc | apply pw_below_drewN | apply below_drew1) | exact HB.out)))); have n1_ := Aside0.mk (below_step (by repeat (first | (with_reducible first | exact HB.out | apply below_alloc | apply pw_below_drewN | apply below_drew1) | exact HB.out)) hb); clear HB; have HO243 := n0_; have HB := n1_; clear n0_ n1_; clear hb ho8) | ((with_reducible refine gate_builtin (b := .append) (xs := #[.tmp 15, .tmp 16]) rfl ?_); at_builtin; refine Kd.R_append_rows k80 (w0 := w) w.heap.size rfl (.tmp 15) (.tmp 16) 43 80 (.agg #[(.int .i64 0), (.int .i64 0)]) 16 rfl Try.underlying43 info80 rfl (by decide) (by omega) v242 y241 l0 _ _ _ (fun _ => True) (fun _ => False) rfl rfl ?aO ?aR (fun _ _ h => h) (fun _ h => h.elim) ?aF ?aB ?aS ?aL ?_; (case aR => repeat (first | exact (Kd.C_below HR0.out HB.out) | (with_reducible refine Kd.C_alloc ?_ _) | (with_reducible refine Kd.C_drewN ?_ _) | (with_reducible refine Kd.C_drew ?_))); (case aB => exact (by repeat (first | (with_reducible first | exact HB.out | apply below_alloc | apply pw_below_drewN | apply below_drew1) | exact HB.out))); (case aF => exact (fun _ _ => trivial)); (case aO => exact (by (with_reducible repeat (first | apply Kd.R_alloc | apply Kd.R_drewN | apply Kd.R_drew)); exact HO243.out)); (case aS => exact (below_size (by repeat (first | (with_reducible first | exact HB.out | apply below_alloc | apply pw_below_drewN | apply below_drew1) | exact HB.out)))); (case aL => have := LMc6.out; omega); intro v245 w9 ho hb hg hat; rw [← Ny244.out] at ho; have n0_ := Aside0.mk (hb); have n1_ := Aside0.mk (ho); clear HB; clear HO243; have HB := n0_; have HO246 := n1_; clear n0_ n1_; clear ho hb hg hat))
      go_ret
      exact ⟨_, by first | rfl | (simp [errW_none, errW_some] <;> rfl) | (simp [*, errW_none, errW_some] <;> rfl), by (with_reducible repeat (first | apply Kd.R_alloc | apply Kd.R_drewN | apply Kd.R_drew)); exact HO246.out, by repeat (first | (with_reducible first | exact HB.out | apply below_alloc | apply pw_below_drewN | apply below_drew1) | exact HB.out)⟩
    · rw [if_neg c6] at H
      exact absurd H (by simp)
  · rw [if_neg c5] at H
    have c5b0 : decide (a2 ≤ t240) = false := decide_eq_false c5
    clear c5
    have H' := Aside0.mk H
    clear H
    go_enter Try.func73, Try.ntmps73
    go_wp2_with (first | ((with_reducible refine gate_callee (f := 20) rfl ?_); refine goesL_ (some 12) rfl rfl Try.func20 (by kernel_rfl) rfl #[.slice A0 l0.length c0, .int .i64 a1] rfl (by (try simp only [List.map_toArray, List.map_cons, List.map_nil]); first | done | rfl | (simp only [List.length_drop, List.length_take]; rfl)) ?_; (with_reducible refine (foolscapref12_Seq.calls k _ _ l0 a1 t240 _ ?side1 ?side2 A4.out).mono ?_); (case side1 => repeat (first | exact HR0.out | (with_reducible refine Kd.C_alloc ?_ _) | (with_reducible refine Kd.C_drewN ?_ _) | (with_reducible refine Kd.C_drew ?_))); (case side2 => exact HC0.out); rintro e w' ⟨rfl, ⟨nd, rfl⟩⟩; refine ⟨_, rfl, ?_⟩))
    go_loopg [7, 8, 9] k (fun kq v7 v8 v9 w' => ∃ (x7_1 : List (S80)) (x8_1 : Bool) (x9_1 : Int), v8 = .bool x8_1 ∧ v9 = .int .i64 x9_1 ∧ Aside0 (foolscapref12_With.l0 kq l0 a1 a2 x7_1 x8_1 x9_1 = some r) ∧ Aside0 (kq ≤ k) ∧ Aside0 (Kd.R k80 80 w' w.heap.size (fun _ => True) v7 x7_1) ∧ Aside0 (Below w.heap.size w w'))
    case atStart => exact ⟨(([] : List (S80))), (false), (0), (by first | rfl | (simp; done) | (simp [*]; done)), (by first | rfl | (simp; done) | (simp [*]; done)), H', ⟨Nat.le_refl _⟩, ⟨by first | exact Kd.R_nil _ _ _ _ _ | exact Kd.N_nil _ _ _ _ _ | exact Kd.V_nil _ _ _ _ _ | exact Kd.Q_nil _ _ _ _ _ | exact Kd.S_nil _ _ _ _ _⟩, ⟨by repeat (first | (with_reducible first | exact HB.out | apply below_alloc | apply pw_below_drewN | apply below_drew1) | exact HB.out)⟩⟩
    case round =>
      clear H'
      try clear c2
      try clear p2
      try clear c5
      try clear c5b0
      try clear c6
      try clear c7
      obtain ⟨x7_1, x8_1, x9_1, rfl, rfl, HA, HK1, HO_7, HB⟩ := hrel
      cases gk with
      | zero => exact absurd HA.out (by simp [foolscapref12_With.l0])
      | succ k1 =>
        have H := HA.out
        clear HA
        simp only [foolscapref12_With.l0] at H
        by_cases c10 : x9_1 < (l0.length : Int)
        · rw [if_pos c10] at H
          have c10b0 : decide (x9_1 < (l0.length : Int)) = true := decide_eq_true c10
          clear c10
          have HC11 := Aside0.mk H
          clear H
          go_upto_region 8 with (fail)
          go_cut [34] (fun v34 wc => ∃ (kq : Nat) (x34_10 : Bool), v34 = .bool x34_10 ∧ Aside0 (foolscapref12_With.j1 kq l0 a1 a2 x7_1 x8_1 x9_1 x34_10 = some r) ∧ Aside0 (kq ≤ k1) ∧ Aside0 (Kd.R k80 80 wc w.heap.size (fun _ => True) u7 x7_1) ∧ Aside0 (Below w.heap.size w wc))
          case first =>
            have H := HC11.out
            clear HC11
            by_cases c12 : x8_1 = true
            · subst c12
              have H1 : (foolscapref12_With.j1 k1 l0 a1 a2 x7_1 true x9_1 false) = some r := by rw [if_pos rfl] at H; exact H
              clear H
              have H := H1
              clear H1
              have H' := Aside0.mk H
              clear H
              go_wp2
              go_meet
              case rel => exact ⟨_, (false), (by first | rfl | (simp; done) | (simp [*]; done)), H', ⟨by have := HK1.out; first | omega | exact Nat.le_refl _⟩, ⟨by (with_reducible repeat (first | apply Kd.R_alloc | apply Kd.R_drewN | apply Kd.R_drew)); exact HO_7.out⟩, ⟨by repeat (first | (with_reducible first | exact HB.out | apply below_alloc | apply pw_below_drewN | apply below_drew1) | exact HB.out)⟩⟩
            · replace c12 := Bool.eq_false_iff.mpr c12
              subst c12
              have H1 : (if 0 ≤ x9_1 then (foolscapref12_With.j1 k1 l0 a1 a2 x7_1 false x9_1 (decide (((rd_T80 l0 x9_1).f0) ≥ a1))) else (none)) = some r := by rw [if_neg (show ¬ (false = true) by decide)] at H; exact H
              clear H
              have H := H1
              clear H1
              by_cases c13 : 0 ≤ x9_1
              · rw [if_pos c13] at H
                have c13b0 : decide (0 ≤ x9_1) = true := decide_eq_true c13
                clear c13
                (first | rw [c13b0] | (simp only [i64_w, i32_w]; rw [c13b0]) | skip)
                have H' := Aside0.mk H
                clear H
                have p250 : 0 ≤ (x9_1 : Int) := of_decide_eq_true (by first | (with_reducible assumption) | assumption)
                have q250 : x9_1 < (l0.length : Int) := of_decide_eq_true (by first | (with_reducible assumption) | assumption)
                obtain ⟨ad250, e250, hx250_0, hx250_1⟩ := at_T80 HR0.out x9_1 p250 q250
                cases e250
                replace hx250_0 := (HB.out.cell (World.block_lt_of_cell? w _ hx250_0)).trans hx250_0
                replace hx250_1 := (HB.out.cell (World.block_lt_of_cell? w _ hx250_1)).trans hx250_1
                replace p250 := eq_true p250
                replace q250 := eq_true q250
                go_wp2
                go_meet
                case rel => exact ⟨_, (decide (((rd_T80 l0 x9_1).f0) ≥ a1)), (by first | rfl | (simp; done) | (simp [*]; done)), H', ⟨by have := HK1.out; first | omega | exact Nat.le_refl _⟩, ⟨by (with_reducible repeat (first | apply Kd.R_alloc | apply Kd.R_drewN | apply Kd.R_drew)); exact HO_7.out⟩, ⟨by repeat (first | (with_reducible first | exact HB.out | apply below_alloc | apply pw_below_drewN | apply below_drew1) | exact HB.out)⟩⟩
              · rw [if_neg c13] at H
                exact absurd H (by simp)
          case rest =>
            clear HC11
            try clear c1
            try clear c2
            try clear p2
            try clear q2
            try clear hx2
            try clear c5
            try clear c5b0
            try clear c6
            try clear c7
            try clear c10
            try clear c10b0
            try clear c12
            try clear c13
            try clear c13b0
            try clear hx250_0
            try clear hx250_1
            try clear p2
            try clear p250
            try clear q250
            obtain ⟨kq, x34_10, rfl, HA, HJ10, HO_7, HB⟩ := hcut
            cases kq with
            | zero => exact absurd HA.out (by simp [foolscapref12_With.j1])
            | succ kj10 =>
              have H := HA.out
              clear HA
              simp only [foolscapref12_With.j1] at H
              by_cases c14 : x34_10 = true
              · subst c14
                have H1 : (if x7_1.length < 8796093022208 then ((some (x7_1 ++ [(⟨a1, a2⟩ : S80)] : List (S80))).bind fun y251 => (if 0 ≤ x9_1 then (if x9_1 < (l0.length : Int) then (if ((rd_T80 l0 x9_1).f0) = a1 then (foolscapref12_With.l0 kj10 l0 a1 a2 y251 true (wrap64 (x9_1 + 1))) else (if y251.length < 8796093022208 then (foolscapref12_With.l0 kj10 l0 a1 a2 (y251 ++ [(⟨(rd_T80 l0 x9_1).f0, (rd_T80 l0 x9_1).f1⟩ : S80)]) true (wrap64 (x9_1 + 1))) else (none))) else (none)) else (none))) else (none)) = some r := by rw [if_pos rfl] at H; exact H
                clear H
                have H := H1
                clear H1
                by_cases c15 : x7_1.length < 8796093022208
                · rw [if_pos c15] at H
                  have LMc15 := Aside0.mk c15
                  clear c15
                  obtain ⟨y251, hy251⟩ : ∃ y_ : List (S80), y_ = (x7_1 ++ [(⟨a1, a2⟩ : S80)]) := ⟨_, rfl⟩
                  replace H : (if 0 ≤ x9_1 then (if x9_1 < (l0.length : Int) then (if ((rd_T80 l0 x9_1).f0) = a1 then (foolscapref12_With.l0 kj10 l0 a1 a2 y251 true (wrap64 (x9_1 + 1))) else (if y251.length < 8796093022208 then (foolscapref12_With.l0 kj10 l0 a1 a2 (y251 ++ [(⟨(rd_T80 l0 x9_1).f0, (rd_T80 l0 x9_1).f1⟩ : S80)]) true (wrap64 (x9_1 + 1))) else (none))) else (none)) else (none)) = some r := by first | (rw [hy251]; with_reducible exact H) | (have H2_ := (Option.bind_some _ _).symm.trans H; rw [hy251]; with_reducible exact H2_) | (have H2_ := (Option.bind_some _ _).symm.trans H; with_reducible exact H2_) | with_reducible exact H | (rw [hy251]; exact H) | exact H
                  have Ny251 := Aside0.mk hy251
                  clear hy251
                  by_cases c16 : 0 ≤ x9_1
                  · rw [if_pos c16] at H
                    have c16b0 : decide (0 ≤ x9_1) = true := decide_eq_true c16
                    clear c16
                    by_cases c17 : x9_1 < (l0.length : Int)
                    · rw [if_pos c17] at H
                      have c17b0 : decide (x9_1 < (l0.length : Int)) = true := decide_eq_true c17
                      clear c17
                      by_cases c18 : ((rd_T80 l0 x9_1).f0) = a1
                      · rw [if_pos c18] at H
                        have c18b0 : (((rd_T80 l0 x9_1).f0) == a1) = true := beq_iff_eq.mpr c18
                        have c18b1 : (((rd_T80 l0 x9_1).f0) != a1) = false := bne_eq_false_iff_eq.mpr c18
                        clear c18
                        have H' := Aside0.mk H
                        clear H
                        go_wp2_with (first | ((with_reducible refine gate_builtin (b := .append) (xs := #[.tmp 35, .tmp 39]) rfl ?_); at_builtin; refine Kd.R_append k80 (w0 := w) w.heap.size rfl (.tmp 35) (.tmp 39) 43 80 (.agg #[(.int .i64 0), (.int .i64 0)]) 16 rfl Try.underlying43 info80 rfl (by decide) (by omega) u7 x7_1 (⟨a1, a2⟩ : S80) [.int .i64 a1, .int .i64 a2] (fun _ => True) (fun _ => False) rfl rfl ?aP (fun _ hk => hk.elim) ?aF ?aO ?aB ?aS ?aL ?_; (case aP => exact k80_mkM _ _ _ (⟨a1, a2⟩ : S80)); (case aB => exact (by repeat (first | (with_reducible first | exact HB.out | apply below_alloc | apply pw_below_drewN | apply below_drew1) | exact HB.out))); (case aF => exact (fun _ _ => trivial)); (case aO => exact (by (with_reducible repeat (first | apply Kd.R_alloc | apply Kd.R_drewN | apply Kd.R_drew)); exact HO_7.out)); (case aS => exact (below_size (by repeat (first | (with_reducible first | exact HB.out | apply below_alloc | apply pw_below_drewN | apply below_drew1) | exact HB.out)))); (case aL => have := LMc15.out; omega); intro v252 w19 ho hb hg hat; rw [← Ny251.out] at ho; have n0_ := Aside0.mk (hb); have n1_ := Aside0.mk (ho); clear HB; clear HO_7; have HB := n0_; have HO253 := n1_; clear n0_ n1_; clear ho hb hg hat; have p254 : 0 ≤ (x9_1 : Int) := of_decide_eq_true (by first | (with_reducible assumption) | assumption); have q254 : x9_1 < (l0.length : Int) := of_decide_eq_true (by first | (with_reducible assumption) | assumption); obtain ⟨ad254, e254, hx254_0, hx254_1⟩ := at_T80 HR0.out x9_1 p254 q254; cases e254; replace hx254_0 := (HB.out.cell (World.block_lt_of_cell? w _ hx254_0)).trans hx254_0; replace hx254_1 := (HB.out.cell (World.block_lt_of_cell? w _ hx254_1)).trans hx254_1; replace p254 := eq_true p254; replace q254 := eq_true q254))
                        go_roundg kj10
                        case measure => have := HK1.out; have := HJ10.out; omega
                        case rel => exact ⟨(y251), (true), (wrap64 (x9_1 + 1)), (by first | rfl | (simp; done) | (simp [*]; done)), (by first | rfl | (simp; done) | (simp [*]; done)), H', ⟨by have := HK1.out; have := HJ10.out; omega⟩, ⟨by (with_reducible repeat (first | apply Kd.R_alloc | apply Kd.R_drewN | apply Kd.R_drew)); exact HO253.out⟩, ⟨by repeat (first | (with_reducible first | exact HB.out | apply below_alloc | apply pw_below_drewN | apply below_drew1) | exact HB.out)⟩⟩
                      · rw [if_neg c18] at H
                        have c18b0 : (((rd_T80 l0 x9_1).f0) == a1) = false := beq_eq_false_iff_ne.mpr c18
                        have c18b1 : (((rd_T80 l0 x9_1).f0) != a1) = true := bne_iff_ne.mpr c18
                        by_cases c20 : y251.length < 8796093022208
                        · rw [if_pos c20] at H
                          have LMc20 := Aside0.mk c20
                          clear c20
                          obtain ⟨y256, hy256⟩ : ∃ y_ : List (S80), y_ = (y251 ++ [(⟨(rd_T80 l0 x9_1).f0, (rd_T80 l0 x9_1).f1⟩ : S80)]) := ⟨_, rfl⟩
                          replace H : (foolscapref12_With.l0 kj10 l0 a1 a2 y256 true (wrap64 (x9_1 + 1))) = some r := by first | (rw [hy256]; with_reducible exact H) | (have H2_ := (Option.bind_some _ _).symm.trans H; rw [hy256]; with_reducible exact H2_) | (have H2_ := (Option.bind_some _ _).symm.trans H; with_reducible exact H2_) | with_reducible exact H | (rw [hy256]; exact H) | exact H
                          have Ny256 := Aside0.mk hy256
                          clear hy256
                          have H' := Aside0.mk H
                          clear H
                          go_wp2_with (first | ((with_reducible refine gate_builtin (b := .append) (xs := #[.tmp 35, .tmp 39]) rfl ?_); at_builtin; refine Kd.R_append k80 (w0 := w) w.heap.size rfl (.tmp 35) (.tmp 39) 43 80 (.agg #[(.int .i64 0), (.int .i64 0)]) 16 rfl Try.underlying43 info80 rfl (by decide) (by omega) u7 x7_1 (⟨a1, a2⟩ : S80) [.int .i64 a1, .int .i64 a2] (fun _ => True) (fun _ => False) rfl rfl ?aP (fun _ hk => hk.elim) ?aF ?aO ?aB ?aS ?aL ?_; (case aP => exact k80_mkM _ _ _ (⟨a1, a2⟩ : S80)); (case aB => exact (by repeat (first | (with_reducible first | exact HB.out | apply below_alloc | apply pw_below_drewN | apply below_drew1) | exact HB.out))); (case aF => exact (fun _ _ => trivial)); (case aO => exact (by (with_reducible repeat (first | apply Kd.R_alloc | apply Kd.R_drewN | apply Kd.R_drew)); exact HO_7.out)); (case aS => exact (below_size (by repeat (first | (with_reducible first | exact HB.out | apply below_alloc | apply pw_below_drewN | apply below_drew1) | exact HB.out)))); (case aL => have := LMc15.out; omega); intro v252 w21 ho hb hg hat; rw [← Ny251.out] at ho; have n0_ := Aside0.mk (hb); have n1_ := Aside0.mk (ho); clear HB; clear HO_7; have HB := n0_; have HO253 := n1_; clear n0_ n1_; clear ho hb hg hat; have p254 : 0 ≤ (x9_1 : Int) := of_decide_eq_true (by first | (with_reducible assumption) | assumption); have q254 : x9_1 < (l0.length : Int) := of_decide_eq_true (by first | (with_reducible assumption) | assumption); obtain ⟨ad254, e254, hx254_0, hx254_1⟩ := at_T80 HR0.out x9_1 p254 q254; cases e254; replace hx254_0 := (HB.out.cell (World.block_lt_of_cell? w _ hx254_0)).trans hx254_0; replace hx254_1 := (HB.out.cell (World.block_lt_of_cell? w _ hx254_1)).trans hx254_1; replace p254 := eq_true p254; replace q254 := eq_true q254; have p255 : 0 ≤ (x9_1 : Int) := of_decide_eq_true (by first | (with_reducible assumption) | assumption); have q255 : x9_1 < (l0.length : Int) := of_decide_eq_true (by first | (with_reducible assumption) | assumption); obtain ⟨ad255, e255, hx255_0, hx255_1⟩ := at_T80 HR0.out x9_1 p255 q255; obtain rfl : ad254 = ad255 := (by injection e255); replace hx255_0 := (HB.out.cell (World.block_lt_of_cell? w _ hx255_0)).trans hx255_0; replace hx255_1 := (HB.out.cell (World.block_lt_of_cell? w _ hx255_1)).trans hx255_1; replace p255 := eq_true p255; replace q255 := eq_true q255) | ((with_reducible refine gate_builtin (b := .append) (xs := #[.tmp 48, .tmp 53]) rfl ?_); at_builtin; refine Kd.R_append k80 (w0 := w) w.heap.size rfl (.tmp 48) (.tmp 53) 43 80 (.agg #[(.int .i64 0), (.int .i64 0)]) 16 rfl Try.underlying43 info80 rfl (by decide) (by omega) v252 y251 (⟨(rd_T80 l0 x9_1).f0, (rd_T80 l0 x9_1).f1⟩ : S80) [.int .i64 ((rd_T80 l0 x9_1).f0), .int .i64 ((rd_T80 l0 x9_1).f1)] (fun _ => True) (fun _ => False) rfl rfl ?aP (fun _ hk => hk.elim) ?aF ?aO ?aB ?aS ?aL ?_; (case aP => exact k80_mkM _ _ _ (⟨(rd_T80 l0 x9_1).f0, (rd_T80 l0 x9_1).f1⟩ : S80)); (case aB => exact (by repeat (first | (with_reducible first | exact HB.out | apply below_alloc | apply pw_below_drewN | apply below_drew1) | exact HB.out))); (case aF => exact (fun _ _ => trivial)); (case aO => exact (by (with_reducible repeat (first | apply Kd.R_alloc | apply Kd.R_drewN | apply Kd.R_drew)); exact HO253.out)); (case aS => exact (below_size (by repeat (first | (with_reducible first | exact HB.out | apply below_alloc | apply pw_below_drewN | apply below_drew1) | exact HB.out)))); (case aL => have := LMc20.out; omega); intro v257 w22 ho hb hg hat; rw [← Ny256.out] at ho; have n0_ := Aside0.mk (hb); have n1_ := Aside0.mk (ho); clear HB; clear HO253; have HB := n0_; have HO258 := n1_; clear n0_ n1_; clear ho hb hg hat))
                          go_roundg kj10
                          case measure => have := HK1.out; have := HJ10.out; omega
                          case rel => exact ⟨(y256), (true), (wrap64 (x9_1 + 1)), (by first | rfl | (simp; done) | (simp [*]; done)), (by first | rfl | (simp; done) | (simp [*]; done)), H', ⟨by have := HK1.out; have := HJ10.out; omega⟩, ⟨by (with_reducible repeat (first | apply Kd.R_alloc | apply Kd.R_drewN | apply Kd.R_drew)); exact HO258.out⟩, ⟨by repeat (first | (with_reducible first | exact HB.out | apply below_alloc | apply pw_below_drewN | apply below_drew1) | exact HB.out)⟩⟩
                        · rw [if_neg c20] at H
                          exact absurd H (by simp)
                    · rw [if_neg c17] at H
                      exact absurd H (by simp)
                  · rw [if_neg c16] at H
                    exact absurd H (by simp)
                · rw [if_neg c15] at H
                  exact absurd H (by simp)
              · replace c14 := Bool.eq_false_iff.mpr c14
                subst c14
                have H1 : (if 0 ≤ x9_1 then (if x9_1 < (l0.length : Int) then (if ((rd_T80 l0 x9_1).f0) = a1 then (foolscapref12_With.l0 kj10 l0 a1 a2 x7_1 x8_1 (wrap64 (x9_1 + 1))) else (if x7_1.length < 8796093022208 then (foolscapref12_With.l0 kj10 l0 a1 a2 (x7_1 ++ [(⟨(rd_T80 l0 x9_1).f0, (rd_T80 l0 x9_1).f1⟩ : S80)]) x8_1 (wrap64 (x9_1 + 1))) else (none))) else (none)) else (none)) = some r := by rw [if_neg (show ¬ (false = true) by decide)] at H; exact H
                clear H
                have H := H1
                clear H1
                by_cases c23 : 0 ≤ x9_1
                · rw [if_pos c23] at H
                  have c23b0 : decide (0 ≤ x9_1) = true := decide_eq_true c23
                  clear c23
                  by_cases c24 : x9_1 < (l0.length : Int)
                  · rw [if_pos c24] at H
                    have c24b0 : decide (x9_1 < (l0.length : Int)) = true := decide_eq_true c24
                    clear c24
                    by_cases c25 : ((rd_T80 l0 x9_1).f0) = a1
                    · rw [if_pos c25] at H
                      have c25b0 : (((rd_T80 l0 x9_1).f0) == a1) = true := beq_iff_eq.mpr c25
                      have c25b1 : (((rd_T80 l0 x9_1).f0) != a1) = false := bne_eq_false_iff_eq.mpr c25
                      clear c25
                      have H' := Aside0.mk H
                      clear H
                      have p259 : 0 ≤ (x9_1 : Int) := of_decide_eq_true (by first | (with_reducible assumption) | assumption)
                      have q259 : x9_1 < (l0.length : Int) := of_decide_eq_true (by first | (with_reducible assumption) | assumption)
                      obtain ⟨ad259, e259, hx259_0, hx259_1⟩ := at_T80 HR0.out x9_1 p259 q259
                      cases e259
                      replace hx259_0 := (HB.out.cell (World.block_lt_of_cell? w _ hx259_0)).trans hx259_0
                      replace hx259_1 := (HB.out.cell (World.block_lt_of_cell? w _ hx259_1)).trans hx259_1
                      replace p259 := eq_true p259
                      replace q259 := eq_true q259
                      go_wp2
                      go_roundg kj10
                      case measure => have := HK1.out; have := HJ10.out; omega
                      case rel => exact ⟨(x7_1), (x8_1), (wrap64 (x9_1 + 1)), (by first | rfl | (simp; done) | (simp [*]; done)), (by first | rfl | (simp; done) | (simp [*]; done)), H', ⟨by have := HK1.out; have := HJ10.out; omega⟩, ⟨by (with_reducible repeat (first | apply Kd.R_alloc | apply Kd.R_drewN | apply Kd.R_drew)); exact HO_7.out⟩, ⟨by repeat (first | (with_reducible first | exact HB.out | apply below_alloc | apply pw_below_drewN | apply below_drew1) | exact HB.out)⟩⟩
                    · rw [if_neg c25] at H
                      have c25b0 : (((rd_T80 l0 x9_1).f0) == a1) = false := beq_eq_false_iff_ne.mpr c25
                      have c25b1 : (((rd_T80 l0 x9_1).f0) != a1) = true := bne_iff_ne.mpr c25
                      by_cases c26 : x7_1.length < 8796093022208
                      · rw [if_pos c26] at H
                        have LMc26 := Aside0.mk c26
                        clear c26
                        obtain ⟨y261, hy261⟩ : ∃ y_ : List (S80), y_ = (x7_1 ++ [(⟨(rd_T80 l0 x9_1).f0, (rd_T80 l0 x9_1).f1⟩ : S80)]) := ⟨_, rfl⟩
                        replace H : (foolscapref12_With.l0 kj10 l0 a1 a2 y261 x8_1 (wrap64 (x9_1 + 1))) = some r := by first | (rw [hy261]; with_reducible exact H) | (have H2_ := (Option.bind_some _ _).symm.trans H; rw [hy261]; with_reducible exact H2_) | (have H2_ := (Option.bind_some _ _).symm.trans H; with_reducible exact H2_) | with_reducible exact H | (rw [hy261]; exact H) | exact H
                        have Ny261 := Aside0.mk hy261
                        clear hy261
                        have H' := Aside0.mk H
                        clear H
                        have p259 : 0 ≤ (x9_1 : Int) := of_decide_eq_true (by first | (with_reducible assumption) | assumption)
                        have q259 : x9_1 < (l0.length : Int) := of_decide_eq_true (by first | (with_reducible assumption) | assumption)
                        obtain ⟨ad259, e259, hx259_0, hx259_1⟩ := at_T80 HR0.out x9_1 p259 q259
                        cases e259
                        replace hx259_0 := (HB.out.cell (World.block_lt_of_cell? w _ hx259_0)).trans hx259_0
                        replace hx259_1 := (HB.out.cell (World.block_lt_of_cell? w _ hx259_1)).trans hx259_1
                        replace p259 := eq_true p259
                        replace q259 := eq_true q259
                        have p260 : 0 ≤ (x9_1 : Int) := of_decide_eq_true (by first | (with_reducible assumption) | assumption)
                        have q260 : x9_1 < (l0.length : Int) := of_decide_eq_true (by first | (with_reducible assumption) | assumption)
                        obtain ⟨ad260, e260, hx260_0, hx260_1⟩ := at_T80 HR0.out x9_1 p260 q260
                        obtain rfl : ad259 = ad260 := (by injection e260)
                        replace hx260_0 := (HB.out.cell (World.block_lt_of_cell? w _ hx260_0)).trans hx260_0
                        replace hx260_1 := (HB.out.cell (World.block_lt_of_cell? w _ hx260_1)).trans hx260_1
                        replace p260 := eq_true p260
                        replace q260 := eq_true q260
                        go_wp2_with (first | ((with_reducible refine gate_builtin (b := .append) (xs := #[.tmp 48, .tmp 53]) rfl ?_); at_builtin; refine Kd.R_append k80 (w0 := w) w.heap.size rfl (.tmp 48) (.tmp 53) 43 80 (.agg #[(.int .i64 0), (.int .i64 0)]) 16 rfl Try.underlying43 info80 rfl (by decide) (by omega) u7 x7_1 (⟨(rd_T80 l0 x9_1).f0, (rd_T80 l0 x9_1).f1⟩ : S80) [.int .i64 ((rd_T80 l0 x9_1).f0), .int .i64 ((rd_T80 l0 x9_1).f1)] (fun _ => True) (fun _ => False) rfl rfl ?aP (fun _ hk => hk.elim) ?aF ?aO ?aB ?aS ?aL ?_; (case aP => exact k80_mkM _ _ _ (⟨(rd_T80 l0 x9_1).f0, (rd_T80 l0 x9_1).f1⟩ : S80)); (case aB => exact (by repeat (first | (with_reducible first | exact HB.out | apply below_alloc | apply pw_below_drewN | apply below_drew1) | exact HB.out))); (case aF => exact (fun _ _ => trivial)); (case aO => exact (by (with_reducible repeat (first | apply Kd.R_alloc | apply Kd.R_drewN | apply Kd.R_drew)); exact HO_7.out)); (case aS => exact (below_size (by repeat (first | (with_reducible first | exact HB.out | apply below_alloc | apply pw_below_drewN | apply below_drew1) | exact HB.out)))); (case aL => have := LMc26.out; omega); intro v262 w27 ho hb hg hat; rw [← Ny261.out] at ho; have n0_ := Aside0.mk (hb); have n1_ := Aside0.mk (ho); clear HB; clear HO_7; have HB := n0_; have HO263 := n1_; clear n0_ n1_; clear ho hb hg hat))
                        go_roundg kj10
                        case measure => have := HK1.out; have := HJ10.out; omega
                        case rel => exact ⟨(y261), (x8_1), (wrap64 (x9_1 + 1)), (by first | rfl | (simp; done) | (simp [*]; done)), (by first | rfl | (simp; done) | (simp [*]; done)), H', ⟨by have := HK1.out; have := HJ10.out; omega⟩, ⟨by (with_reducible repeat (first | apply Kd.R_alloc | apply Kd.R_drewN | apply Kd.R_drew)); exact HO263.out⟩, ⟨by repeat (first | (with_reducible first | exact HB.out | apply below_alloc | apply pw_below_drewN | apply below_drew1) | exact HB.out)⟩⟩
                      · rw [if_neg c26] at H
                        exact absurd H (by simp)
                  · rw [if_neg c24] at H
                    exact absurd H (by simp)
                · rw [if_neg c23] at H
                  exact absurd H (by simp)
        · rw [if_neg c10] at H
          have c10b0 : decide (x9_1 < (l0.length : Int)) = false := decide_eq_false c10
          clear c10
          by_cases c28 : x8_1 = true
          · subst c28
            have H1 : (some x7_1) = some r := by rw [if_pos rfl] at H; exact H
            clear H
            have H := H1
            clear H1
            obtain rfl := Option.some.inj H
            go_wp2
            go_ret
            exact ⟨_, by first | rfl | (simp [errW_none, errW_some] <;> rfl) | (simp [*, errW_none, errW_some] <;> rfl), by (with_reducible repeat (first | apply Kd.R_alloc | apply Kd.R_drewN | apply Kd.R_drew)); exact HO_7.out, by repeat (first | (with_reducible first | exact HB.out | apply below_alloc | apply pw_below_drewN | apply below_drew1) | exact HB.out)⟩
          · replace c28 := Bool.eq_false_iff.mpr c28
            subst c28
            have H1 : (if x7_1.length < 8796093022208 then (some (x7_1 ++ [(⟨a1, a2⟩ : S80)])) else (none)) = some r := by rw [if_neg (show ¬ (false = true) by decide)] at H; exact H
            clear H
            have H := H1
            clear H1
            by_cases c29 : x7_1.length < 8796093022208
            · rw [if_pos c29] at H
              have LMc29 := Aside0.mk c29
              clear c29
              obtain ⟨y247, hy247⟩ : ∃ y_ : List (S80), y_ = (x7_1 ++ [(⟨a1, a2⟩ : S80)]) := ⟨_, rfl⟩
              replace H : (some y247) = some r := by first | (rw [hy247]; with_reducible exact H) | (have H2_ := (Option.bind_some _ _).symm.trans H; rw [hy247]; with_reducible exact H2_) | (have H2_ := (Option.bind_some _ _).symm.trans H; with_reducible exact H2_) | with_reducible exact H | (rw [hy247]; exact H) | exact H
              have Ny247 := Aside0.mk hy247
              clear hy247
              obtain rfl := Option.some.inj H
              go_wp2_with (first | ((with_reducible refine gate_builtin (b := .append) (xs := #[.tmp 57, .tmp 61]) rfl ?_); at_builtin; refine Kd.R_append k80 (w0 := w) w.heap.size rfl (.tmp 57) (.tmp 61) 43 80 (.agg #[(.int .i64 0), (.int .i64 0)]) 16 rfl Try.underlying43 info80 rfl (by decide) (by omega) u7 x7_1 (⟨a1, a2⟩ : S80) [.int .i64 a1, .int .i64 a2] (fun _ => True) (fun _ => False) rfl rfl ?aP (fun _ hk => hk.elim) ?aF ?aO ?aB ?aS ?aL ?_; (case aP => exact k80_mkM _ _ _ (⟨a1, a2⟩ : S80)); (case aB => exact (by repeat (first | (with_reducible first | exact HB.out | apply below_alloc | apply pw_below_drewN | apply below_drew1) | exact HB.out))); (case aF => exact (fun _ _ => trivial)); (case aO => exact (by (with_reducible repeat (first | apply Kd.R_alloc | apply Kd.R_drewN | apply Kd.R_drew)); exact HO_7.out)); (case aS => exact (below_size (by repeat (first | (with_reducible first | exact HB.out | apply below_alloc | apply pw_below_drewN | apply below_drew1) | exact HB.out)))); (case aL => have := LMc29.out; omega); intro v248 w30 ho hb hg hat; rw [← Ny247.out] at ho; have n0_ := Aside0.mk (hb); have n1_ := Aside0.mk (ho); clear HB; clear HO_7; have HB := n0_; have HO249 := n1_; clear n0_ n1_; clear ho hb hg hat))
              go_ret
              exact ⟨_, by first | rfl | (simp [errW_none, errW_some] <;> rfl) | (simp [*, errW_none, errW_some] <;> rfl), by (with_reducible repeat (first | apply Kd.R_alloc | apply Kd.R_drewN | apply Kd.R_drew)); exact HO249.out, by repeat (first | (with_reducible first | exact HB.out | apply below_alloc | apply pw_below_drewN | apply below_drew1) | exact HB.out)⟩
            · rw [if_neg c29] at H
              exact absurd H (by simp)
def foolscapref12_Less.f (a0_0 : Int) (a0_1 : Int) (a1_0 : Int) (a1_1 : Int) : Option (Bool) := if a0_0 < a1_0 then (some true) else (if a0_0 = a1_0 then (some (decide (a0_1 < a1_1))) else (some false))
set_option maxHeartbeats 8000000 in
set_option maxRecDepth 100000 in
theorem foolscapref12_Less.calls (a0_0 : Int) (a0_1 : Int) (a1_0 : Int) (a1_1 : Int) (r : Bool) (w : World) (h : foolscapref12_Less.f a0_0 a0_1 a1_0 a1_1 = some r) :
    Calls Try.prog 94 #[.agg #[.int .i64 a0_0, .int .i64 a0_1], .agg #[.int .i64 a1_0, .int .i64 a1_1]] w fun e w' => e = .returned (.bool r) ∧ Below w.heap.size w w' := by
  have hu31 := Try.underlying31
  have HB := Aside0.mk (Below.refl w.heap.size w)
  have H : (if a0_0 < a1_0 then (some true) else (if a0_0 = a1_0 then (some (decide (a0_1 < a1_1))) else (some false))) = some r := h
  clear h
  by_cases c3 : a0_0 < a1_0
  · rw [if_pos c3] at H
    have c3b0 : decide (a0_0 < a1_0) = true := decide_eq_true c3
    clear c3
    obtain rfl := Option.some.inj H
    go_enter Try.func94, Try.ntmps94
    go_wp2_with (first | ((with_reducible refine gate_dst (N := 2) rfl ?_); refine box_event ?hg (N := 2) ?hd (cs := #[.int .i64 a0_0, .int .i64 a0_1]) (t := 31) ?hr ?_; (case hd => rfl); (case hg => rfl); (case hr => first | (go_simp; done) | (go_simp; rfl)); intro gb190 hg w4 hbox hb; have n0_ := Aside0.mk (below_step (by repeat (first | (with_reducible first | exact HB.out | apply below_alloc | apply pw_below_drewN | apply below_drew1) | exact HB.out)) hb); have n1_ := Aside0.mk (hbox); have n2_ := Aside0.mk ((by rw [hg]; exact (below_size (by repeat (first | (with_reducible first | exact HB.out | apply below_alloc | apply pw_below_drewN | apply below_drew1) | exact HB.out))) : w.heap.size ≤ gb190)); have n3_ := Aside0.mk ((by rw [hg]; exact (below_size (by repeat (first | (with_reducible first | exact HB.out | apply below_alloc | apply pw_below_drewN | apply below_drew1) | exact HB.out))) : w.heap.size ≤ gb190)); clear HB; have HB := n0_; have BK190 := n1_; have GW190 := n2_; have GE190 := n3_; clear n0_ n1_ n2_ n3_; clear hb hbox hg) | ((with_reducible refine gate_dst (N := 3) rfl ?_); refine box_event ?hg (N := 3) ?hd (cs := #[.int .i64 a1_0, .int .i64 a1_1]) (t := 31) ?hr ?_; (case hd => rfl); (case hg => rfl); (case hr => first | (go_simp; done) | (go_simp; rfl)); intro gb191 hg w5 hbox hb; have n0_ := Aside0.mk (blk_below (g := gb190) (o := .cells #[.int .i64 a0_0, .int .i64 a0_1] 31 (0, 0)) (by (with_reducible repeat (first | refine blk_drewN ?_ _ | refine blk_drew ?_ | refine blk_alloc ?_ _)); exact BK190.out) hb); have n1_ := Aside0.mk (below_step (by repeat (first | (with_reducible first | exact HB.out | apply below_alloc | apply pw_below_drewN | apply below_drew1 | refine below_set ?_ GE190.out) | exact HB.out)) hb); have n2_ := Aside0.mk (hbox); have n3_ := Aside0.mk ((by rw [hg]; exact (below_size (by repeat (first | (with_reducible first | exact HB.out | apply below_alloc | apply pw_below_drewN | apply below_drew1 | refine below_set ?_ GE190.out) | exact HB.out))) : w.heap.size ≤ gb191)); have n4_ := Aside0.mk ((by rw [hg]; exact (below_size (by repeat (first | (with_reducible first | exact HB.out | apply below_alloc | apply pw_below_drewN | apply below_drew1 | refine below_set ?_ GE190.out) | exact HB.out))) : w.heap.size ≤ gb191)); have n5_ := Aside0.mk ((by rw [hg]; exact Nat.ne_of_lt (blk_lt (g := gb190) (o := .cells #[.int .i64 a0_0, .int .i64 a0_1] 31 (0, 0)) (by (with_reducible repeat (first | refine blk_drewN ?_ _ | refine blk_drew ?_ | refine blk_alloc ?_ _)); exact BK190.out)) : gb190 ≠ gb191)); have n6_ := Aside0.mk ((by rw [hg]; exact Nat.ne_of_gt (blk_lt (g := gb190) (o := .cells #[.int .i64 a0_0, .int .i64 a0_1] 31 (0, 0)) (by (with_reducible repeat (first | refine blk_drewN ?_ _ | refine blk_drew ?_ | refine blk_alloc ?_ _)); exact BK190.out)) : gb191 ≠ gb190)); clear BK190; clear HB; have BK190 := n0_; have HB := n1_; have BK191 := n2_; have GW191 := n3_; have GE191 := n4_; have NB190_191 := n5_; have NB191_190 := n6_; clear n0_ n1_ n2_ n3_ n4_ n5_ n6_; clear hb hbox hg; have hnb6 := NB190_191.out; have hnc6 := NB191_190.out; have hcz7_0 : w5.cell? ⟨gb190, 0, none⟩ = some (.int .i64 a0_0) := (blk_cell BK190.out 0).trans rfl; have hcz7_1 : w5.cell? ⟨gb190, 1, none⟩ = some (.int .i64 a0_1) := (blk_cell BK190.out 1).trans rfl; have hfz7_0 := blk_frozen BK190.out 0; have hfz7_1 := blk_frozen BK190.out 1; have hcz8_0 : w5.cell? ⟨gb191, 0, none⟩ = some (.int .i64 a1_0) := (blk_cell BK191.out 0).trans rfl; have hcz8_1 : w5.cell? ⟨gb191, 1, none⟩ = some (.int .i64 a1_1) := (blk_cell BK191.out 1).trans rfl; have hfz8_0 := blk_frozen BK191.out 0; have hfz8_1 := blk_frozen BK191.out 1))
    go_ret
    exact ⟨by first | rfl | (simp [errW_none, errW_some] <;> rfl) | (simp [*, errW_none, errW_some] <;> rfl), by repeat (first | (with_reducible first | exact HB.out | apply below_alloc | apply pw_below_drewN | apply below_drew1 | refine below_set ?_ GE190.out | refine below_set ?_ GE191.out) | exact HB.out)⟩
  · rw [if_neg c3] at H
    have c3b0 : decide (a0_0 < a1_0) = false := decide_eq_false c3
    clear c3
    by_cases c9 : a0_0 = a1_0
    · rw [if_pos c9] at H
      have c9b0 : (a0_0 == a1_0) = true := beq_iff_eq.mpr c9
      have c9b1 : (a0_0 != a1_0) = false := bne_eq_false_iff_eq.mpr c9
      clear c9
      obtain rfl := Option.some.inj H
      go_enter Try.func94, Try.ntmps94
      go_wp2_with (first | ((with_reducible refine gate_dst (N := 2) rfl ?_); refine box_event ?hg (N := 2) ?hd (cs := #[.int .i64 a0_0, .int .i64 a0_1]) (t := 31) ?hr ?_; (case hd => rfl); (case hg => rfl); (case hr => first | (go_simp; done) | (go_simp; rfl)); intro gb190 hg w10 hbox hb; have n0_ := Aside0.mk (below_step (by repeat (first | (with_reducible first | exact HB.out | apply below_alloc | apply pw_below_drewN | apply below_drew1) | exact HB.out)) hb); have n1_ := Aside0.mk (hbox); have n2_ := Aside0.mk ((by rw [hg]; exact (below_size (by repeat (first | (with_reducible first | exact HB.out | apply below_alloc | apply pw_below_drewN | apply below_drew1) | exact HB.out))) : w.heap.size ≤ gb190)); have n3_ := Aside0.mk ((by rw [hg]; exact (below_size (by repeat (first | (with_reducible first | exact HB.out | apply below_alloc | apply pw_below_drewN | apply below_drew1) | exact HB.out))) : w.heap.size ≤ gb190)); clear HB; have HB := n0_; have BK190 := n1_; have GW190 := n2_; have GE190 := n3_; clear n0_ n1_ n2_ n3_; clear hb hbox hg) | ((with_reducible refine gate_dst (N := 3) rfl ?_); refine box_event ?hg (N := 3) ?hd (cs := #[.int .i64 a1_0, .int .i64 a1_1]) (t := 31) ?hr ?_; (case hd => rfl); (case hg => rfl); (case hr => first | (go_simp; done) | (go_simp; rfl)); intro gb191 hg w11 hbox hb; have n0_ := Aside0.mk (blk_below (g := gb190) (o := .cells #[.int .i64 a0_0, .int .i64 a0_1] 31 (0, 0)) (by (with_reducible repeat (first | refine blk_drewN ?_ _ | refine blk_drew ?_ | refine blk_alloc ?_ _)); exact BK190.out) hb); have n1_ := Aside0.mk (below_step (by repeat (first | (with_reducible first | exact HB.out | apply below_alloc | apply pw_below_drewN | apply below_drew1 | refine below_set ?_ GE190.out) | exact HB.out)) hb); have n2_ := Aside0.mk (hbox); have n3_ := Aside0.mk ((by rw [hg]; exact (below_size (by repeat (first | (with_reducible first | exact HB.out | apply below_alloc | apply pw_below_drewN | apply below_drew1 | refine below_set ?_ GE190.out) | exact HB.out))) : w.heap.size ≤ gb191)); have n4_ := Aside0.mk ((by rw [hg]; exact (below_size (by repeat (first | (with_reducible first | exact HB.out | apply below_alloc | apply pw_below_drewN | apply below_drew1 | refine below_set ?_ GE190.out) | exact HB.out))) : w.heap.size ≤ gb191)); have n5_ := Aside0.mk ((by rw [hg]; exact Nat.ne_of_lt (blk_lt (g := gb190) (o := .cells #[.int .i64 a0_0, .int .i64 a0_1] 31 (0, 0)) (by (with_reducible repeat (first | refine blk_drewN ?_ _ | refine blk_drew ?_ | refine blk_alloc ?_ _)); exact BK190.out)) : gb190 ≠ gb191)); have n6_ := Aside0.mk ((by rw [hg]; exact Nat.ne_of_gt (blk_lt (g := gb190) (o := .cells #[.int .i64 a0_0, .int .i64 a0_1] 31 (0, 0)) (by (with_reducible repeat (first | refine blk_drewN ?_ _ | refine blk_drew ?_ | refine blk_alloc ?_ _)); exact BK190.out)) : gb191 ≠ gb190)); clear BK190; clear HB; have BK190 := n0_; have HB := n1_; have BK191 := n2_; have GW191 := n3_; have GE191 := n4_; have NB190_191 := n5_; have NB191_190 := n6_; clear n0_ n1_ n2_ n3_ n4_ n5_ n6_; clear hb hbox hg; have hnb12 := NB190_191.out; have hnc12 := NB191_190.out; have hcz13_0 : w11.cell? ⟨gb190, 0, none⟩ = some (.int .i64 a0_0) := (blk_cell BK190.out 0).trans rfl; have hcz13_1 : w11.cell? ⟨gb190, 1, none⟩ = some (.int .i64 a0_1) := (blk_cell BK190.out 1).trans rfl; have hfz13_0 := blk_frozen BK190.out 0; have hfz13_1 := blk_frozen BK190.out 1; have hcz14_0 : w11.cell? ⟨gb191, 0, none⟩ = some (.int .i64 a1_0) := (blk_cell BK191.out 0).trans rfl; have hcz14_1 : w11.cell? ⟨gb191, 1, none⟩ = some (.int .i64 a1_1) := (blk_cell BK191.out 1).trans rfl; have hfz14_0 := blk_frozen BK191.out 0; have hfz14_1 := blk_frozen BK191.out 1))
      go_ret
      exact ⟨by first | rfl | (simp [errW_none, errW_some] <;> rfl) | (simp [*, errW_none, errW_some] <;> rfl), by repeat (first | (with_reducible first | exact HB.out | apply below_alloc | apply pw_below_drewN | apply below_drew1 | refine below_set ?_ GE190.out | refine below_set ?_ GE191.out) | exact HB.out)⟩
    · rw [if_neg c9] at H
      have c9b0 : (a0_0 == a1_0) = false := beq_eq_false_iff_ne.mpr c9
      have c9b1 : (a0_0 != a1_0) = true := bne_iff_ne.mpr c9
      obtain rfl := Option.some.inj H
      go_enter Try.func94, Try.ntmps94
      go_wp2_with (first | ((with_reducible refine gate_dst (N := 2) rfl ?_); refine box_event ?hg (N := 2) ?hd (cs := #[.int .i64 a0_0, .int .i64 a0_1]) (t := 31) ?hr ?_; (case hd => rfl); (case hg => rfl); (case hr => first | (go_simp; done) | (go_simp; rfl)); intro gb190 hg w15 hbox hb; have n0_ := Aside0.mk (below_step (by repeat (first | (with_reducible first | exact HB.out | apply below_alloc | apply pw_below_drewN | apply below_drew1) | exact HB.out)) hb); have n1_ := Aside0.mk (hbox); have n2_ := Aside0.mk ((by rw [hg]; exact (below_size (by repeat (first | (with_reducible first | exact HB.out | apply below_alloc | apply pw_below_drewN | apply below_drew1) | exact HB.out))) : w.heap.size ≤ gb190)); have n3_ := Aside0.mk ((by rw [hg]; exact (below_size (by repeat (first | (with_reducible first | exact HB.out | apply below_alloc | apply pw_below_drewN | apply below_drew1) | exact HB.out))) : w.heap.size ≤ gb190)); clear HB; have HB := n0_; have BK190 := n1_; have GW190 := n2_; have GE190 := n3_; clear n0_ n1_ n2_ n3_; clear hb hbox hg) | ((with_reducible refine gate_dst (N := 3) rfl ?_); refine box_event ?hg (N := 3) ?hd (cs := #[.int .i64 a1_0, .int .i64 a1_1]) (t := 31) ?hr ?_; (case hd => rfl); (case hg => rfl); (case hr => first | (go_simp; done) | (go_simp; rfl)); intro gb191 hg w16 hbox hb; have n0_ := Aside0.mk (blk_below (g := gb190) (o := .cells #[.int .i64 a0_0, .int .i64 a0_1] 31 (0, 0)) (by (with_reducible repeat (first | refine blk_drewN ?_ _ | refine blk_drew ?_ | refine blk_alloc ?_ _)); exact BK190.out) hb); have n1_ := Aside0.mk (below_step (by repeat (first | (with_reducible first | exact HB.out | apply below_alloc | apply pw_below_drewN | apply below_drew1 | refine below_set ?_ GE190.out) | exact HB.out)) hb); have n2_ := Aside0.mk (hbox); have n3_ := Aside0.mk ((by rw [hg]; exact (below_size (by repeat (first | (with_reducible first | exact HB.out | apply below_alloc | apply pw_below_drewN | apply below_drew1 | refine below_set ?_ GE190.out) | exact HB.out))) : w.heap.size ≤ gb191)); have n4_ := Aside0.mk ((by rw [hg]; exact (below_size (by repeat (first | (with_reducible first | exact HB.out | apply below_alloc | apply pw_below_drewN | apply below_drew1 | refine below_set ?_ GE190.out) | exact HB.out))) : w.heap.size ≤ gb191)); have n5_ := Aside0.mk ((by rw [hg]; exact Nat.ne_of_lt (blk_lt (g := gb190) (o := .cells #[.int .i64 a0_0, .int .i64 a0_1] 31 (0, 0)) (by (with_reducible repeat (first | refine blk_drewN ?_ _ | refine blk_drew ?_ | refine blk_alloc ?_ _)); exact BK190.out)) : gb190 ≠ gb191)); have n6_ := Aside0.mk ((by rw [hg]; exact Nat.ne_of_gt (blk_lt (g := gb190) (o := .cells #[.int .i64 a0_0, .int .i64 a0_1] 31 (0, 0)) (by (with_reducible repeat (first | refine blk_drewN ?_ _ | refine blk_drew ?_ | refine blk_alloc ?_ _)); exact BK190.out)) : gb191 ≠ gb190)); clear BK190; clear HB; have BK190 := n0_; have HB := n1_; have BK191 := n2_; have GW191 := n3_; have GE191 := n4_; have NB190_191 := n5_; have NB191_190 := n6_; clear n0_ n1_ n2_ n3_ n4_ n5_ n6_; clear hb hbox hg; have hnb17 := NB190_191.out; have hnc17 := NB191_190.out; have hcz18_0 : w16.cell? ⟨gb190, 0, none⟩ = some (.int .i64 a0_0) := (blk_cell BK190.out 0).trans rfl; have hcz18_1 : w16.cell? ⟨gb190, 1, none⟩ = some (.int .i64 a0_1) := (blk_cell BK190.out 1).trans rfl; have hfz18_0 := blk_frozen BK190.out 0; have hfz18_1 := blk_frozen BK190.out 1; have hcz19_0 : w16.cell? ⟨gb191, 0, none⟩ = some (.int .i64 a1_0) := (blk_cell BK191.out 0).trans rfl; have hcz19_1 : w16.cell? ⟨gb191, 1, none⟩ = some (.int .i64 a1_1) := (blk_cell BK191.out 1).trans rfl; have hfz19_0 := blk_frozen BK191.out 0; have hfz19_1 := blk_frozen BK191.out 1))
      go_ret
      exact ⟨by first | rfl | (simp [errW_none, errW_some] <;> rfl) | (simp [*, errW_none, errW_some] <;> rfl), by repeat (first | (with_reducible first | exact HB.out | apply below_alloc | apply pw_below_drewN | apply below_drew1 | refine below_set ?_ GE190.out | refine below_set ?_ GE191.out) | exact HB.out)⟩
end Go.Proofs.Ytehdjdediobemaa.PC
namespace Go.Proofs.Ytehdjdediobemaa.PC
open Go.RowKit Go.Proofs.YtehdjdediobemaaW.PrintWords Go.Proofs.YtehdjdediobemaaW.PrintLast Go.Proofs.YtehdjdediobemaaW.PrintMore Go.Proofs.Ytehdjdediobemaa.K Go.Proofs.Ytehdjdediobemaa.I
set_option linter.unusedVariables false
set_option linter.unusedSimpArgs false
theorem cmp_f (a b : Int) : cmp_Compare_int.f a b = some (cmpI a b) := by
  have e : ∀ x : Int, cmp_isNaN_int.f x = some false := fun x => by unfold cmp_isNaN_int.f; simp
  unfold cmp_Compare_int.f cmpI
  rw [e, e]
  simp only [Option.bind_some]
  rw [if_neg (by decide), if_neg (by decide)]
  by_cases h : a < b
  · rw [if_pos h, if_pos h]
  · rw [if_neg h, if_neg h]
    by_cases h2 : b < a
    · rw [if_pos h2, if_pos h2]
    · rw [if_neg h2, if_neg h2]
theorem or_f (k : Nat) (a b : Int) : cmp_Or_int.f (k + 3) [a, b] = some (if a = 0 then b else a) := by
  unfold cmp_Or_int.f
  rw [cmp_Or_int.l0, if_pos (by simp), if_pos (by simp), if_pos (by simp)]
  have e0 : rd [a, b] 0 = a := rfl
  rw [e0]
  by_cases h : a = 0
  · rw [if_pos h, if_pos h, show wrap64 (0 + 1) = 1 from by unfold wrap64; decide, cmp_Or_int.l0, if_pos (by simp), if_pos (by simp), if_pos (by simp)]
    have e1 : rd [a, b] 1 = b := rfl
    rw [e1]
    by_cases h2 : b = 0
    · rw [if_pos h2, show wrap64 (1 + 1) = 2 from by unfold wrap64; decide, cmp_Or_int.l0, if_neg (by simp), h2]
    · rw [if_neg h2]
  · rw [if_neg h, if_neg h]
def lessB (a b c d : Int) : Bool := decide (a < c ∨ a = c ∧ b < d)
theorem less_f (k : Nat) (a b c d : Int) : ident_Less.f (k + 3) a b c d = some (lessB a b c d) := by
  unfold ident_Less.f
  rw [cmp_f, Option.bind_some, cmp_f, Option.bind_some, or_f, Option.bind_some]
  congr 1
  unfold lessB cmpI
  rw [decide_eq_decide]
  repeat' split
  all_goals omega
open Classical in
/-- What the reference's With puts together. -/
def mg (a s : Int) : List S80 → Bool → List S80
  | [], p => if p then [] else [⟨a, s⟩]
  | e :: xs, true => if e.f0 = a then mg a s xs true else e :: mg a s xs true
  | e :: xs, false => if e.f0 ≥ a then ⟨a, s⟩ :: (if e.f0 = a then mg a s xs true else e :: mg a s xs true) else e :: mg a s xs false
end Go.Proofs.Ytehdjdediobemaa.PC
namespace Go.Proofs.Ytehdjdediobemaa.PC
open Go.RowKit Go.Proofs.YtehdjdediobemaaW.PrintWords Go.Proofs.YtehdjdediobemaaW.PrintLast Go.Proofs.YtehdjdediobemaaW.PrintMore Go.Proofs.Ytehdjdediobemaa.K Go.Proofs.Ytehdjdediobemaa.IX
attribute [local go_sem] max2_int min2_int max_two min_two max_three min_three max_four min_four
attribute [local go_sem high] eqA31
set_option linter.unusedVariables false
set_option linter.unusedSimpArgs false
def T0 : TS := ⟨[], [], [], fun _ => 0, 0⟩
theorem rnew_calls (w : World) : Calls Try.prog 12 #[] w fun e w' => ∃ p F, e = .returned (.pointer (some ⟨p, 0, none⟩)) ∧ Tx w' F p T0 ∧ Below w.heap.size w w' ∧ ∀ k ∈ F, w.heap.size ≤ k := by
  have hmm := @run_makeMap Try.prog
  go_enter Try.func12, Try.ntmps12
  go_wp2_with (go_at_call 40; refine (new_calls w).mono ?_; rintro e w1 ⟨x, FI, rfl, hx, hb, hF⟩; have HX := Lib.hid hx; have HB := Lib.hid hb; have HFI := Lib.hid hF; clear hx hb hF)
  go_ret
  have b1 : Below w1.heap.size w1 (w1.alloc (.map #[] 0)) := (Below.refl _ w1).alloc (Nat.le_refl _) _
  have b2 : Below w1.heap.size w1 ((w1.alloc (.map #[] 0)).alloc (.cells #[.slice none 0 0, .pointer (some ⟨x, 0, none⟩), .slice none 0 0, .slice none 0 0, .map (some w1.heap.size), .int .i64 0] 71)) := b1.alloc (by rw [alloc_sz]; omega) _
  have hsz : (w1.alloc (.map #[] 0)).heap.size = w1.heap.size + 1 := alloc_sz _ _
  refine ⟨_, _, rfl, ⟨.slice none 0 0, x, .slice none 0 0, .slice none 0 0, w1.heap.size, FI, ?_, Kd.R_nil _ _ _ _ _, HX.out.below b2, Kd.R_nil _ _ _ _ _, Kd.R_nil _ _ _ _ _, (IM.new w1).keep (heap_old _ _ (by rw [hsz]; omega)), rfl⟩, below_step HB.out b2, ?_⟩
  · rw [← hsz]
    exact heap_new _ _
  · intro k hk
    have := HB.out.size
    simp only [ob, Value.ownBlock, List.mem_cons, List.mem_append, Option.toList_none, List.not_mem_nil, false_or, or_false] at hk
    rcases hk with rfl | rfl | hk
    · omega
    · omega
    · exact HFI.out k hk
def lessI (a b : S31) : Bool := lessB a.f0 a.f1 b.f0 b.f1
theorem less_is (a b : S31) (w : World) : Calls Try.prog 66 #[.agg #[.int .i64 a.f0, .int .i64 a.f1], .agg #[.int .i64 b.f0, .int .i64 b.f1]] w fun e w' => e = .returned (.bool (lessI a b)) ∧ Below w.heap.size w w' :=
  ident_Less.calls 3 a.f0 a.f1 b.f0 b.f1 _ w (less_f 0 _ _ _ _)
/-- How many of a row, from its head, have greater IDs. -/
def skipS (x : S31) : List S75 → Nat
  | [] => 0
  | e :: l => if lessI x e.f0 = true then skipS x l + 1 else 0
theorem skipS_le (x : S31) (l : List S75) : skipS x l ≤ l.length := by
  induction l with
  | nil => simp [skipS]
  | cons e l ih =>
    simp only [skipS, List.length_cons]
    split <;> omega
def opV (o : S34) : Value := .agg #[.int .i64 o.f0.f0, .int .i64 o.f0.f1, .int .i64 o.f1, .bool o.f2, .int .i64 o.f3.f0, .int .i64 o.f3.f1, .int .i32 o.f4]
def elOf (o : S34) : S75 := ⟨o.f0, o.f4, true⟩
end Go.Proofs.Ytehdjdediobemaa.PC
namespace Go.Proofs.Ytehdjdediobemaa.PC
open Go.RowKit Go.Proofs.YtehdjdediobemaaW.PrintWords Go.Proofs.YtehdjdediobemaaW.PrintLast Go.Proofs.YtehdjdediobemaaW.PrintMore Go.Proofs.Ytehdjdediobemaa.K Go.Proofs.Ytehdjdediobemaa.IX
set_option linter.unusedVariables false
set_option linter.unusedSimpArgs false
def flX (e : S75) : List Value := [.int .i64 e.f0.f0, .int .i64 e.f0.f1, .int .i32 e.f1, .bool e.f2]
theorem flX_len (x : S75) : (flX x).length = k75.sz := rfl
theorem ownsX {w : World} {base : Nat} {ok : Nat → Prop} {v : Value} {xs : List S75} (h : Kd.R k75 75 w base ok v xs) : w.ownsRow base 75 4 v xs.length (xs.flatMap flX) :=
  owns_of_R (d := k75) flX_len (fun h => k75_openM h) h
theorem RX {w : World} {base : Nat} {v : Value} {xs : List S75} (h : w.ownsRow base 75 4 v xs.length (xs.flatMap flX)) : Kd.R k75 75 w base (fun _ => True) v xs :=
  R_of_owns (d := k75) (fl := flX) flX_len (fun _ _ _ _ => k75_mkM _ _ _ _) (fun _ _ => trivial) h
theorem flX_one (xs : List S75) : ∀ v ∈ xs.flatMap flX, v.oneCell' = true := by
  intro v hv
  obtain ⟨e, _, he⟩ := List.mem_flatMap.1 hv
  simp [flX] at he
  rcases he with rfl | rfl | rfl | rfl <;> rfl
theorem insX_flat (xs : List S75) (i : Nat) (e : S75) : (xs.flatMap flX).take (i * 4) ++ flX e ++ (xs.flatMap flX).drop (i * 4) = (xs.take i ++ [e] ++ xs.drop i).flatMap flX := by
  rw [flat_take (sz := 4) (fun _ => rfl), flat_drop (sz := 4) (fun _ => rfl), List.flatMap_append, List.flatMap_append, List.flatMap_cons, List.flatMap_nil, List.append_nil]
theorem insX_row (w : World) (lv : Value) (l : List S75) (n vb : Nat) (e : S75) (h : Rw k75 75 w lv l) (hn : n ≤ l.length) (hv : w.heap[vb]? = some (.cells #[.int .i64 e.f0.f0, .int .i64 e.f0.f1, .int .i32 e.f1, .bool e.f2] 75 (0, 0))) (hne : lv.ownBlock ≠ some vb) (hl : l.length ≤ 1000000) :
    Calls Try.prog 67 #[lv, .int .i64 (n : Int), .slice (some ⟨vb, 0, none⟩) 1 1] w fun e' w' => ∃ v', e' = .returned v' ∧ Rw k75 75 w' v' (l.take n ++ [e] ++ l.drop n) ∧ w.grownBy w' lv.ownBlock ∧ ∀ k ∈ ob v', k ∈ ob lv ∨ w.heap.size ≤ k := by
  refine (insX_calls w True lv l.length n vb (l.flatMap flX) (flX e) (srow_of_owns (ownsX h)) hn hv hne rfl (by intro v hv; simp [flX] at hv; rcases hv with rfl | rfl | rfl | rfl <;> rfl) (flX_one l) (by omega)).mono ?_
  rintro e' w' ⟨v', rfl, hI⟩
  rw [insX_flat] at hI
  have hlen : (l.take n ++ [e] ++ l.drop n).length = l.length + 1 := by simp; omega
  have ho := owns_of_srow (base := 0) hI.1 (fun _ _ => Nat.zero_le _)
  rw [← hlen] at ho
  refine ⟨v', rfl, Rw.of rfl (RX ho), hI.2.1, fun k hk => ?_⟩
  have hk2 := mem_ob.1 hk
  rcases hI.2.2.1 with q | ⟨b, q, hb⟩
  · exact .inl (mem_ob.2 (hk2.trans q))
  · rw [q] at hk2
    injection hk2 with hk2
    exact .inr (by omega)
theorem Ix.typed {w : World} {F : List Nat} {p : Nat} {ms : List Bool} (h : Ix w F p ms) : ∀ k ∈ F, ∃ cs t, w.heap[k]? = some (.cells cs t (0, 0)) ∧ (t = 88 ∨ t = 99 ∨ t = 102 ∨ t = 4) := by
  obtain ⟨lv, L, h1, rfl, rfl, h4⟩ := h
  intro k hk
  simp only [fpI, List.mem_cons, List.mem_append] at hk
  rcases hk with rfl | hk | hk
  · exact ⟨_, _, h1.head, .inl rfl⟩
  · obtain ⟨_, cs, hcs⟩ := h1.row.ob_lt k hk
    exact ⟨cs, _, hcs, .inr (.inl rfl)⟩
  · obtain ⟨cs, t, hcs, ht⟩ := h1.typed k hk
    exact ⟨cs, t, hcs, by rcases ht with ht | ht <;> simp [ht]⟩
/-- The blocks of a text's parts lie apart. -/
structure Apart (p mb : Nat) (lv ov vv : Value) (FI : List Nat) : Prop where
  pm : p ≠ mb
  pl : p ∉ ob lv
  po : p ∉ ob ov
  pv : p ∉ ob vv
  pi : p ∉ FI
  ml : mb ∉ ob lv
  mo : mb ∉ ob ov
  mv : mb ∉ ob vv
  mi : mb ∉ FI
  lo : ∀ k ∈ ob lv, k ∉ ob ov
  lw : ∀ k ∈ ob lv, k ∉ ob vv
  li : ∀ k ∈ ob lv, k ∉ FI
  ow : ∀ k ∈ ob ov, k ∉ ob vv
  oi : ∀ k ∈ ob ov, k ∉ FI
  vi : ∀ k ∈ ob vv, k ∉ FI
theorem apart_of {w : World} {p mb x : Nat} {lv ov vv : Value} {FI : List Nat} {cs : Array Value} {l : List S75} {os : List S34} {vs : List S80} {ms : List Bool} {f : Int → Int} (h1 : w.heap[p]? = some (.cells cs 71 (0, 0))) (h2 : Rw k75 75 w lv l) (h3 : Ix w FI x ms) (h4 : Rw k34 34 w ov os) (h5 : Rw k80 80 w vv vs) (h6 : IM w mb f) : Apart p mb lv ov vv FI := by
  have ne : ∀ {k j : Nat} {ca cb : Array Value} {ta tb : Nat}, w.heap[k]? = some (.cells ca ta (0, 0)) → w.heap[j]? = some (.cells cb tb (0, 0)) → ta ≠ tb → k ≠ j := fun a b c => heap_types a b c
  have i6 : ∀ {k : Nat} {ca : Array Value} {ta : Nat}, w.heap[k]? = some (.cells ca ta (0, 0)) → mb ≠ k := fun a => h6.ne a
  refine ⟨fun e => i6 h1 e.symm, fun hm => ?_, fun hm => ?_, fun hm => ?_, fun hm => ?_, fun hm => ?_, fun hm => ?_, fun hm => ?_, fun hm => ?_, fun k hk hm => ?_, fun k hk hm => ?_, fun k hk hm => ?_, fun k hk hm => ?_, fun k hk hm => ?_, fun k hk hm => ?_⟩
  · obtain ⟨c, hc⟩ := h2.typed _ hm; exact ne h1 hc (by decide) rfl
  · obtain ⟨c, hc⟩ := h4.typed _ hm; exact ne h1 hc (by decide) rfl
  · obtain ⟨c, hc⟩ := h5.typed _ hm; exact ne h1 hc (by decide) rfl
  · obtain ⟨c, t, hc, ht⟩ := h3.typed _ hm
    rcases ht with rfl | rfl | rfl | rfl <;> exact ne h1 hc (by decide) rfl
  · obtain ⟨c, hc⟩ := h2.typed _ hm; exact i6 hc rfl
  · obtain ⟨c, hc⟩ := h4.typed _ hm; exact i6 hc rfl
  · obtain ⟨c, hc⟩ := h5.typed _ hm; exact i6 hc rfl
  · obtain ⟨c, t, hc, _⟩ := h3.typed _ hm; exact i6 hc rfl
  · obtain ⟨c, hc⟩ := h2.typed _ hk; obtain ⟨d, hd⟩ := h4.typed _ hm; exact ne hc hd (by decide) rfl
  · obtain ⟨c, hc⟩ := h2.typed _ hk; obtain ⟨d, hd⟩ := h5.typed _ hm; exact ne hc hd (by decide) rfl
  · obtain ⟨c, hc⟩ := h2.typed _ hk; obtain ⟨d, t, hd, ht⟩ := h3.typed _ hm
    rcases ht with rfl | rfl | rfl | rfl <;> exact ne hc hd (by decide) rfl
  · obtain ⟨c, hc⟩ := h4.typed _ hk; obtain ⟨d, hd⟩ := h5.typed _ hm; exact ne hc hd (by decide) rfl
  · obtain ⟨c, hc⟩ := h4.typed _ hk; obtain ⟨d, t, hd, ht⟩ := h3.typed _ hm
    rcases ht with rfl | rfl | rfl | rfl <;> exact ne hc hd (by decide) rfl
  · obtain ⟨c, hc⟩ := h5.typed _ hk; obtain ⟨d, t, hd, ht⟩ := h3.typed _ hm
    rcases ht with rfl | rfl | rfl | rfl <;> exact ne hc hd (by decide) rfl
end Go.Proofs.Ytehdjdediobemaa.PC
namespace Go.Proofs.Ytehdjdediobemaa.PC
open Go.RowKit Go.Proofs.YtehdjdediobemaaW.PrintWords Go.Proofs.YtehdjdediobemaaW.PrintLast Go.Proofs.YtehdjdediobemaaW.PrintMore Go.Proofs.Ytehdjdediobemaa.K Go.Proofs.Ytehdjdediobemaa.IX
set_option linter.unusedVariables false
set_option linter.unusedSimpArgs false
def insT (l : List S75) (n : Nat) (o : S34) : List S75 := l.take n ++ [elOf o] ++ l.drop n
def skT (l : List S75) (n : Nat) (o : S34) : Nat := n + skipS o.f0 (l.drop n)
theorem skT_go (l : List S75) (i : Nat) (o : S34) (h : i < l.length) (hq : lessI o.f0 l[i].f0 = true) : skT l i o = skT l (i + 1) o := by
  unfold skT
  rw [List.drop_eq_getElem_cons h]
  simp only [skipS, hq, if_true]
  omega
theorem skT_stop (l : List S75) (i : Nat) (o : S34) (h : i < l.length) (hq : lessI o.f0 l[i].f0 = false) : skT l i o = i := by
  unfold skT
  rw [List.drop_eq_getElem_cons h]
  simp only [skipS, hq, Bool.false_eq_true, if_false]
  omega
theorem skT_end (l : List S75) (i : Nat) (o : S34) (h : l.length ≤ i) : skT l i o = i := by
  unfold skT
  rw [List.drop_of_length_le h]
  simp [skipS]
theorem skT_le (l : List S75) (n : Nat) (o : S34) (h : n ≤ l.length) : n ≤ skT l n o ∧ skT l n o ≤ l.length := by
  unfold skT
  have := skipS_le o.f0 (l.drop n)
  rw [List.length_drop] at this
  omega
theorem insT_ms (l : List S75) (m : Nat) (o : S34) : (insT l m o).map (·.f2) = (l.map (·.f2)).take m ++ [true] ++ (l.map (·.f2)).drop m := by
  unfold insT
  simp [elOf, List.map_take, List.map_drop]
/-- What insert does to a text. -/
def InsertFin (w : World) (F : List Nat) (p : Nat) (T : TS) (m : Nat) (o : S34) (w' : World) : Prop :=
  ∃ F', Tx w' F' p { T with l := insT T.l m o } ∧ Fr F w w' ∧ ∀ k ∈ F', k ∈ F ∨ w.heap.size ≤ k
/-- The two calls that put an element in. -/
theorem insert_state {w W : World} {F : List Nat} {p : Nat} {T : TS} (h : Tx w F p T) (m : Nat) (o : S34) (hm : m ≤ T.l.length) (hl : T.l.length ≤ 500000) (hb : Below w.heap.size w W) :
    ∃ (lv : Value) (x : Nat) (ov vv : Value) (mb : Nat), w.heap[p]? = some (.cells #[lv, .pointer (some ⟨x, 0, none⟩), ov, vv, .map (some mb), .int .i64 T.top] 71 (0, 0)) ∧
      Calls Try.prog 67 #[lv, .int .i64 (m : Int), .slice (some ⟨W.heap.size, 0, none⟩) 1 1] (W.alloc (.cells #[.int .i64 o.f0.f0, .int .i64 o.f0.f1, .int .i32 o.f4, .bool true] 75)) fun e w3 => ∃ A' n' c', e = .returned (.slice A' n' c') ∧
        w3.heap[p]? = some (.cells #[lv, .pointer (some ⟨x, 0, none⟩), ov, vv, .map (some mb), .int .i64 T.top] 71 (0, 0)) ∧
        Calls Try.prog 68 #[.pointer (some ⟨x, 0, none⟩), .int .i64 (m : Int), .bool true] (w3.setCell ⟨p, 0, none⟩ (.slice A' n' c')) fun e w' => e = .returned (.bool true) ∧ InsertFin w F p T m o w' := by
  obtain ⟨lv, x, ov, vv, mb, FI, h1, h2, h3, h4, h5, h6, rfl⟩ := h
  have ha := apart_of h1 h2 h3 h4 h5 h6
  refine ⟨lv, x, ov, vv, mb, h1, ?_⟩
  obtain ⟨Wa, hWa⟩ : ∃ Wa, W.alloc (.cells #[.int .i64 o.f0.f0, .int .i64 o.f0.f1, .int .i32 o.f4, .bool true] 75) = Wa := ⟨_, rfl⟩
  have hba : Below w.heap.size w Wa := by rw [← hWa]; exact hb.alloc hb.size _
  have hsa : Wa.heap.size = W.heap.size + 1 := by rw [← hWa]; exact alloc_sz _ _
  have hnew : Wa.heap[W.heap.size]? = some (.cells #[.int .i64 o.f0.f0, .int .i64 o.f0.f1, .int .i32 o.f4, .bool true] 75 (0, 0)) := by rw [← hWa]; exact heap_new W _
  have hle := hb.size
  rw [hWa]
  have hlo : ∀ k ∈ ob lv, k < w.heap.size := h2.lt
  refine (insX_row Wa lv T.l m W.heap.size (elOf o) (h2.keep fun k hk => hba.block k (hlo k hk)) hm hnew (fun e => by have := hlo W.heap.size (mem_ob.2 e.symm); omega) (by omega)).mono ?_
  rintro e w3 ⟨v', rfl, r1, r2, r3⟩
  obtain ⟨A', c', rfl⟩ := Kd.R_slice r1
  have old : ∀ k, k < w.heap.size → k ∉ ob lv → w3.heap[k]? = w.heap[k]? := fun k hk hn => (r2.block k (by omega) (fun e => hn (mem_ob.2 e))).trans (hba.block k hk)
  have hps := lt_of h1
  have hp3 := (old p hps ha.pl).trans h1
  refine ⟨_, _, _, rfl, hp3, ?_⟩
  obtain ⟨v', hv'⟩ : ∃ v', Value.slice A' (T.l.take m ++ [elOf o] ++ T.l.drop m).length c' = v' := ⟨_, rfl⟩
  rw [hv'] at r1 r3 ⊢
  obtain ⟨Ws, hWs⟩ : ∃ Ws, w3.setCell ⟨p, 0, none⟩ v' = Ws := ⟨_, rfl⟩
  have hss : Ws.heap.size = w3.heap.size := by rw [← hWs]; simp [World.setCell]
  have far : ∀ k, k ≠ p → Ws.heap[k]? = w3.heap[k]? := fun k hk => by rw [← hWs]; exact heap_far _ _ _ hk
  have hpw : Ws.heap[p]? = some (.cells #[v', .pointer (some ⟨x, 0, none⟩), ov, vv, .map (some mb), .int .i64 T.top] 71 (0, 0)) := by rw [← hWs, heap_set _ _ _ _ hp3]; rfl
  have hge : w.heap.size ≤ Wa.heap.size := by omega
  have hg3 : Wa.heap.size ≤ w3.heap.size := r2.size
  have hix : Ix Ws FI x (T.l.map (·.f2)) := h3.keep fun k hk => (far k (fun e => ha.pi (e ▸ hk))).trans (old k (h3.lt k hk) (fun hm => ha.li k hm hk))
  rw [hWs]
  refine (ins_calls Ws FI x _ (m : Int) true hix (by rw [List.length_map]; omega)).mono ?_
  have hi : insS (T.l.map (·.f2)) (m : Int) true = (true, (insT T.l m o).map (·.f2)) := by
    unfold insS
    rw [if_pos ⟨by omega, by rw [List.length_map]; omega⟩, Int.toNat_natCast, insT_ms]
  rw [hi]
  rintro e w' ⟨rfl, F2, i1, i2, i3⟩
  have v3 : ∀ k ∈ ob v', k < w3.heap.size ∧ k ≠ p ∧ k ∉ FI ∧ (k ∈ ob lv ∨ w.heap.size ≤ k) := fun k hk => by
    refine ⟨r1.lt k hk, ?_, ?_, ?_⟩
    · rcases r3 k hk with q | q
      · exact fun e => ha.pl (e ▸ q)
      · omega
    · rcases r3 k hk with q | q
      · exact ha.li k q
      · exact fun hm => by have := h3.lt k hm; omega
    · rcases r3 k hk with q | q
      · exact .inl q
      · exact .inr (by omega)
  have oldw : ∀ k, k < w.heap.size → k ∉ ob lv → k ≠ p → k ∉ FI → w'.heap[k]? = w.heap[k]? := fun k hk n1 n2 n3 => ((i2.block k (by omega) n3).trans (far k n2)).trans (old k hk n1)
  refine ⟨rfl, p :: mb :: (ob v' ++ (F2 ++ (ob ov ++ ob vv))), ⟨v', x, ov, vv, mb, F2, ?_, ?_, i1, ?_, ?_, ?_, rfl⟩, ?_, ?_⟩
  · rw [i2.block p (by omega) ha.pi]
    exact hpw
  · refine r1.keep fun k hk => ?_
    obtain ⟨q1, q2, q3, _⟩ := v3 k hk
    exact (i2.block k (by omega) q3).trans (far k q2)
  · exact h4.keep fun k hk => oldw k (h4.lt k hk) (fun hm => ha.lo k hm hk) (fun e => ha.po (e ▸ hk)) (ha.oi k hk)
  · exact h5.keep fun k hk => oldw k (h5.lt k hk) (fun hm => ha.lw k hm hk) (fun e => ha.pv (e ▸ hk)) (ha.vi k hk)
  · exact h6.keep (oldw mb h6.lt ha.ml (fun e => ha.pm e.symm) ha.mi)
  · have same : ∀ (G : List Nat) (n : Nat), ∀ y ∈ G, y ∈ G ∨ n ≤ y := fun _ _ _ h => .inl h
    have f1 : Fr (p :: mb :: (ob lv ++ (FI ++ (ob ov ++ ob vv)))) w w3 := (Fr.of_below hba).trans (Fr.of_grown (F := p :: mb :: (ob lv ++ (FI ++ (ob ov ++ ob vv)))) r2 fun g hg => by
      have : g ∈ ob lv := mem_ob.2 hg.symm
      simp [this]) (same _ _)
    have f2 : Fr (p :: mb :: (ob lv ++ (FI ++ (ob ov ++ ob vv)))) w Ws := f1.trans (by rw [← hWs]; exact Fr.of_set (F := p :: mb :: (ob lv ++ (FI ++ (ob ov ++ ob vv)))) w3 ⟨p, 0, none⟩ v' (by simp)) (same _ _)
    exact f2.trans i2 fun y hy => .inl (by simp [hy])
  · intro k hk
    simp only [List.mem_cons, List.mem_append] at hk ⊢
    rcases hk with rfl | rfl | hk | hk | hk | hk
    · exact .inl (.inl rfl)
    · exact .inl (.inr (.inl rfl))
    · rcases (v3 k hk).2.2.2 with q | q
      · exact .inl (.inr (.inr (.inl q)))
      · exact .inr q
    · rcases i3 k hk with q | q
      · exact .inl (.inr (.inr (.inr (.inl q))))
      · exact .inr (by omega)
    · exact .inl (.inr (.inr (.inr (.inr (.inl hk)))))
    · exact .inl (.inr (.inr (.inr (.inr (.inr hk)))))
end Go.Proofs.Ytehdjdediobemaa.PC
