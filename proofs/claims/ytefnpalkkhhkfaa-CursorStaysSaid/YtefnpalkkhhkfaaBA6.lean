/- A part of the proof of cursorBounds_holds: its texts, one behind the other, as far as the proof stands on them. (Lines of its texts on the printed words and functions began as lines that a program of the kit had written for this statement.) -/
import Derived.ArgAppend
import Derived.Below
import Derived.BigQuiet
import Derived.BigRegion
import Derived.ChangeMaps4
import Derived.ChangeMaps5
import Derived.Deep.AppendLies
import Derived.Deep.CutBlock
import Derived.Deep.CutRange
import Derived.Deep.DeepCutAuto
import Derived.Deep.DrawnRows
import Derived.Deep.Draws
import Derived.Deep.LoopGhost
import Derived.Deep.OwnRows
import Derived.Deep.QuietTactic
import Derived.Deep.RegionHeld3
import Derived.Deep.RegionLaw
import Derived.Deep.RegionWith
import Derived.KernelRfl
import Derived.Laws.BitsLemmas
import Derived.Laws.BytesArg
import Derived.Laws.CopyRow
import Derived.Laws.Externs
import Derived.Laws.IdiomCopy
import Derived.Laws.MakeOwn
import Derived.Laws.NewBlocks
import Derived.Laws.OwnMore
import Derived.Laws.Rows
import Derived.Laws.Slices
import Derived.Laws.StructEq
import Derived.Lib.AppendStr
import Derived.Lib.AppendZerosOnto
import Derived.Lib.ConvBytes
import Derived.Lib.Hide
import Derived.Lib.JoinLaws
import Derived.Lib.Overlaps
import Derived.Lib.Walk
import Derived.MapKept
import Derived.Maps.AppendAt
import Derived.OrdersHeld
import Derived.OwnWalk
import Derived.RegionTactic
import Derived.RowKit
import Derived.RowKit3
import Derived.StillTailTactics
import Derived.Tactics
import Derived.Test.YtefnpalkkhhkfaaProg
import Derived.WalkKit
import Derived.WalkSpells
import Derived.WideLaws
import Derived.Test.YtefnpalkkhhkfaaBA5
namespace Go.Proofs.Ytefnpalkkhhkfaa.PC
open Go.RowKit Go.Proofs.YtefnpalkkhhkfaaW.PrintWords Go.Proofs.YtefnpalkkhhkfaaW.PrintLast Go.Proofs.YtefnpalkkhhkfaaW.PrintMore Go.Proofs.Ytefnpalkkhhkfaa.K Go.Proofs.Ytefnpalkkhhkfaa.IX
attribute [local go_sem] max2_int min2_int max_two min_two max_three min_three max_four min_four
attribute [local go_sem high] eqA24
set_option linter.unusedVariables false
set_option linter.unusedSimpArgs false
def idq (a b : S24) : Bool := a.f0 == b.f0 && a.f1 == b.f1
theorem idq_iff (a b : S24) : idq a b = true ↔ a = b := by
  cases a; cases b
  simp [idq]
theorem idq_self (a : S24) : idq a a = true := (idq_iff a a).2 rfl
/-- Where an element stands; -1: nowhere. -/
def placeS : List S83 → S24 → Int
  | [], _ => -1
  | e :: l, x => if idq e.f0 x = true then 0 else if placeS l x < 0 then -1 else placeS l x + 1
theorem placeS_range (l : List S83) (x : S24) : -1 ≤ placeS l x ∧ placeS l x < l.length := by
  induction l with
  | nil => simp [placeS]
  | cons e l ih =>
    simp only [placeS, List.length_cons]
    split
    · omega
    · split <;> omega
theorem placeS_app (a b : List S83) (x : S24) (h : ∀ e ∈ a, idq e.f0 x = false) : placeS (a ++ b) x = if placeS b x < 0 then -1 else placeS b x + a.length := by
  induction a with
  | nil =>
    have := placeS_range b x
    simp only [List.nil_append, List.length_nil]
    split <;> omega
  | cons e a ih =>
    simp only [List.cons_append, placeS, ih (fun y hy => h y (by simp [hy])), h e (by simp), List.length_cons, Bool.false_eq_true, if_false]
    by_cases hb : placeS b x < 0
    · simp [hb]
    · simp only [hb, if_false]
      split <;> omega
theorem placeS_at (a b : List S83) (e : S83) (x : S24) (h : ∀ e ∈ a, idq e.f0 x = false) (he : idq e.f0 x = true) : placeS (a ++ e :: b) x = a.length := by
  rw [placeS_app a _ x h]
  simp [placeS, he]
theorem placeS_none (l : List S83) (x : S24) (h : ∀ e ∈ l, idq e.f0 x = false) : placeS l x = -1 := by
  have := placeS_app l [] x h
  simpa [placeS] using this
theorem placeS_some (l : List S83) (x : S24) (h : 0 ≤ placeS l x) : ∃ e, l[(placeS l x).toNat]? = some e ∧ e.f0 = x := by
  induction l with
  | nil => simp [placeS] at h
  | cons e l ih =>
    by_cases he : idq e.f0 x = true
    · exact ⟨e, by simp [placeS, he], (idq_iff _ _).1 he⟩
    · by_cases h2 : placeS l x < 0
      · simp [placeS, he, h2] at h
      · obtain ⟨y, h3, h4⟩ := ih (by omega)
        refine ⟨y, ?_, h4⟩
        simp only [placeS, he, h2, if_false, Bool.false_eq_true]
        rw [show (placeS l x + 1).toNat = (placeS l x).toNat + 1 by omega]
        simpa using h3
def elV (e : S83) : Value := .agg #[.int .i64 e.f0.f0, .int .i64 e.f0.f1, .int .i32 e.f1, .bool e.f2]
theorem cplace_calls (e : S83) (x : S24) (b : Nat) (w : World) (h0 : w.cell? ⟨b, 0, none⟩ = some (.int .i64 x.f0)) (h1 : w.cell? ⟨b, 1, none⟩ = some (.int .i64 x.f1)) :
    Calls Try.prog 55 #[elV e, .pointer (some ⟨b, 0, none⟩)] w fun e' w' => e' = .returned (.bool (idq e.f0 x)) ∧ Below w.heap.size w w' := by
  unfold elV idq
  have hu := Try.underlying24
  have hb := World.block_lt_of_cell? w _ h0
  have g0 : (w.alloc (.cells #[.int .i64 e.f0.f0, .int .i64 e.f0.f1, .int .i32 e.f1, .bool e.f2] 83)).cell? ⟨b, 0, none⟩ = some (.int .i64 x.f0) := (((Below.refl _ w).alloc (Nat.le_refl _) _).cell hb).trans h0
  have g1 : (w.alloc (.cells #[.int .i64 e.f0.f0, .int .i64 e.f0.f1, .int .i32 e.f1, .bool e.f2] 83)).cell? ⟨b, 1, none⟩ = some (.int .i64 x.f1) := (((Below.refl _ w).alloc (Nat.le_refl _) _).cell (World.block_lt_of_cell? w _ h1)).trans h1
  go_enter Try.func55, Try.ntmps55
  go_wp2
  go_ret
  exact ⟨rfl, (Below.refl _ w).alloc (Nat.le_refl _) _⟩
set_option maxHeartbeats 4000000 in
theorem idx_calls (l : List S83) (x : S24) (b : Nat) (A : Option Addr) (c : Nat) (w : World) (hr : Kd.C k83 w A l.length l) (hc : l.length ≤ c) (hl : l.length ≤ 1000000) (h0 : w.cell? ⟨b, 0, none⟩ = some (.int .i64 x.f0)) (h1 : w.cell? ⟨b, 1, none⟩ = some (.int .i64 x.f1)) :
    Calls Try.prog 54 #[.slice A l.length c, .func (Fn.func 55) #[] #[.pointer (some ⟨b, 0, none⟩)]] w fun e w' => e = .returned (.int .i64 (placeS l x)) ∧ Below w.heap.size w w' := by
  have HR := Aside0.mk hr
  have H0 := Lib.hid h0
  have H1 := Lib.hid h1
  clear hr h0 h1
  go_enter Try.func54, Try.ntmps54
  go_wp2
  go_loopw [8] (fun v8 w' => ∃ i : Nat, v8 = .int .i64 (i : Int) ∧ i ≤ l.length ∧ Aside0 ((∀ e ∈ l.take i, idq e.f0 x = false) ∧ Below w.heap.size w w')) (fun v8 _ => l.length - (intOf v8).toNat)
  case atStart => exact ⟨0, rfl, by omega, ⟨by simp, Below.refl _ _⟩⟩
  case round =>
    obtain ⟨i, rfl, hi, HI⟩ := hrel
    by_cases hlt : i < l.length
    · obtain ⟨ad, eA, c0, c1, c2, c3⟩ := at_T83 HR.out (i : Int) (by omega) (by omega)
      subst eA
      have hrd : rd_T83 l (i : Int) = l[i] := by unfold rd_T83; simp [hlt]
      have hta : l.take (i + 1) = l.take i ++ [l[i]] := (List.take_append_getElem hlt).symm
      have hspl : l = l.take i ++ l[i] :: l.drop (i + 1) := by rw [← List.drop_eq_getElem_cons hlt, List.take_append_drop]
      simp only [Int.toNat_natCast] at c0 c1 c2 c3
      replace c0 := (HI.out.2.cell (World.block_lt_of_cell? w _ c0)).trans c0
      replace c1 := (HI.out.2.cell (World.block_lt_of_cell? w _ c1)).trans c1
      replace c2 := (HI.out.2.cell (World.block_lt_of_cell? w _ c2)).trans c2
      replace c3 := (HI.out.2.cell (World.block_lt_of_cell? w _ c3)).trans c3
      rw [hrd] at c0 c1 c2 c3
      obtain ⟨e, he⟩ : ∃ e, l[i] = e := ⟨_, rfl⟩
      rw [he] at c0 c1 c2 c3 hta hspl
      have HT := Lib.hid hta
      have HS := Lib.hid hspl
      have K1 := Lib.hid (fun w2 (hb : Below w.heap.size w w2) => cplace_calls e x b w2 ((hb.cell (World.block_lt_of_cell? w _ H0.out)).trans H0.out) ((hb.cell (World.block_lt_of_cell? w _ H1.out)).trans H1.out))
      unfold elV at K1
      clear hrd hta he hspl
      by_cases hq : idq e.f0 x = true
      · rw [hq] at K1
        have hfin : placeS l x = (i : Int) := by
          have := placeS_at (l.take i) (l.drop (i + 1)) e x HI.out.1 hq
          rw [← HS.out, List.length_take, Nat.min_eq_left hi] at this
          exact this
        have HF := Lib.hid hfin
        have HQ := Lib.hid hq
        clear hfin hq
        go_wp2_with (go_at_call 55; refine (K1.out _ HI.out.2).mono ?_; rintro e' w' ⟨rfl, hb⟩; have HB2 := Lib.hid (below_step HI.out.2 hb); clear hb)
        go_ret
        exact ⟨by rw [HF.out]; rfl, HB2.out⟩
      · have hq2 : idq e.f0 x = false := by simpa using hq
        rw [hq2] at K1
        have HQ := Lib.hid hq2
        clear hq hq2
        go_wp2_with (go_at_call 55; refine (K1.out _ HI.out.2).mono ?_; rintro e' w' ⟨rfl, hb⟩; have HB2 := Lib.hid (below_step HI.out.2 hb); clear hb)
        go_roundw
        case rel =>
          refine ⟨i + 1, by go_num, by omega, ⟨fun y hy => ?_, HB2.out⟩⟩
          rw [HT.out] at hy
          rcases List.mem_append.1 hy with h | h
          · exact HI.out.1 y h
          · rw [List.mem_singleton] at h
            rw [h]; exact HQ.out
        case measure => simp [intOf]; omega
    · obtain rfl : i = l.length := by omega
      have hfin : placeS l x = -1 := placeS_none l x (fun e he => HI.out.1 e (by rw [List.take_length]; exact he))
      have HF := Lib.hid hfin
      have HB2 := Lib.hid HI.out.2
      clear hfin
      go_wp2
      go_ret
      exact ⟨by rw [HF.out]; rfl, HB2.out⟩
set_option maxHeartbeats 4000000 in
theorem place_calls' (p : Nat) (l : List S83) (x : S24) (A : Option Addr) (c : Nat) (w : World) (hp : w.cell? ⟨p, 0, none⟩ = some (.slice A l.length c)) (hr : Kd.C k83 w A l.length l) (hc : l.length ≤ c) (hl : l.length ≤ 1000000) :
    Calls Try.prog 38 #[.pointer (some ⟨p, 0, none⟩), .agg #[.int .i64 x.f0, .int .i64 x.f1]] w fun e w' => e = .returned (.int .i64 (placeS l x)) ∧ Below w.heap.size w w' := by
  obtain ⟨x0, x1⟩ := x
  have hb : Below w.heap.size w (w.alloc (.cells #[.int .i64 x0, .int .i64 x1] 24)) := (Below.refl _ w).alloc (Nat.le_refl _) _
  have K1 := Lib.hid (idx_calls l ⟨x0, x1⟩ w.heap.size A c (w.alloc (.cells #[.int .i64 x0, .int .i64 x1] 24)) (Kd.C_below hr hb) hc hl ((cell_of (heap_new w _) 0).trans rfl) ((cell_of (heap_new w _) 1).trans rfl))
  have HB := Lib.hid hb
  have hp2 := (hb.cell (World.block_lt_of_cell? w _ hp)).trans hp
  clear hr hb
  go_enter Try.func38, Try.ntmps38
  go_wp2_with (go_at_call 54; refine K1.out.mono ?_; rintro e' w' ⟨rfl, hb⟩; have HB2 := Lib.hid (below_step HB.out hb); clear hb)
  go_ret
  exact ⟨rfl, HB2.out⟩
end Go.Proofs.Ytefnpalkkhhkfaa.PC
namespace Go.Proofs.Ytefnpalkkhhkfaa.PC
open Go.RowKit Go.Proofs.YtefnpalkkhhkfaaW.PrintWords Go.Proofs.YtefnpalkkhhkfaaW.PrintLast Go.Proofs.YtefnpalkkhhkfaaW.PrintMore Go.Proofs.Ytefnpalkkhhkfaa.K Go.Proofs.Ytefnpalkkhhkfaa.IX
attribute [local go_sem] max2_int min2_int max_two min_two max_three min_three max_four min_four
attribute [local go_sem high] eqA24
set_option linter.unusedVariables false
set_option linter.unusedSimpArgs false
/-- What operations make: the elements in order, the operations, the vector, of each author the greatest counter, the greatest of all. -/
structure TS where
  l : List S83
  ops : List S49
  v : List S104
  last : Int → Int
  top : Int
/-- A row of the program's own in memory, held by its own block alone. -/
def Rw {α : Type} (d : Kd α) (e : Nat) (w : World) (v : Value) (xs : List α) : Prop := d.R e w 0 (fun k => some k = v.ownBlock) v xs
theorem mem_ob {v : Value} {k : Nat} : k ∈ ob v ↔ some k = v.ownBlock := by
  unfold ob
  rw [Option.mem_toList]
  exact eq_comm
theorem Rw.keep {α : Type} {d : Kd α} {e : Nat} {w w' : World} {v : Value} {xs : List α} (h : Rw d e w v xs) (hk : ∀ k ∈ ob v, w'.heap[k]? = w.heap[k]?) : Rw d e w' v xs :=
  Kd.R_move h fun k hk2 => hk k (mem_ob.2 hk2)
theorem Rw.of {α : Type} {d : Kd α} {e base : Nat} {ok : Nat → Prop} {w : World} {v : Value} {xs : List α} (hE : d.E = []) (h : d.R e w base ok v xs) : Rw d e w v xs := Kd.R_lower (Kd.R_tight hE h) (Nat.zero_le _)
theorem Rw.lt {α : Type} {d : Kd α} {e : Nat} {w : World} {v : Value} {xs : List α} (h : Rw d e w v xs) : ∀ k ∈ ob v, k < w.heap.size := fun k hk => Kd.R_lt h k (mem_ob.1 hk).symm
theorem Rw.typed {α : Type} {d : Kd α} {e : Nat} {w : World} {v : Value} {xs : List α} (h : Rw d e w v xs) : ∀ k ∈ ob v, ∃ cs, w.heap[k]? = some (.cells cs e (0, 0)) := fun k hk => Kd.R_typed h k (mem_ob.1 hk).symm
/-- A text in memory; the blocks that it takes. -/
def Tx (w : World) (F : List Nat) (p : Nat) (T : TS) : Prop :=
  ∃ (lv : Value) (x : Nat) (ov vv : Value) (mb : Nat) (FI : List Nat), w.heap[p]? = some (.cells #[lv, .pointer (some ⟨x, 0, none⟩), ov, vv, .map (some mb), .int .i64 T.top] 74 (0, 0)) ∧
    Rw k83 83 w lv T.l ∧ Ix w FI x (T.l.map (·.f2)) ∧ Rw k49 49 w ov T.ops ∧ Rw k104 104 w vv T.v ∧ IM w mb T.last ∧ F = p :: mb :: (ob lv ++ (FI ++ (ob ov ++ ob vv)))
theorem Tx.keep {w w' : World} {F : List Nat} {p : Nat} {T : TS} (h : Tx w F p T) (hk : ∀ k ∈ F, w'.heap[k]? = w.heap[k]?) : Tx w' F p T := by
  obtain ⟨lv, x, ov, vv, mb, FI, h1, h2, h3, h4, h5, h6, rfl⟩ := h
  exact ⟨lv, x, ov, vv, mb, FI, (hk p (by simp)).trans h1, h2.keep fun k hm => hk k (by simp [hm]), h3.keep fun k hm => hk k (by simp [hm]), h4.keep fun k hm => hk k (by simp [hm]), h5.keep fun k hm => hk k (by simp [hm]), h6.keep (hk mb (by simp)), rfl⟩
theorem Tx.lt {w : World} {F : List Nat} {p : Nat} {T : TS} (h : Tx w F p T) : ∀ k ∈ F, k < w.heap.size := by
  obtain ⟨lv, x, ov, vv, mb, FI, h1, h2, h3, h4, h5, h6, rfl⟩ := h
  intro k hk
  simp only [List.mem_cons, List.mem_append] at hk
  rcases hk with rfl | rfl | hk | hk | hk | hk
  · exact lt_of h1
  · exact h6.lt
  · exact h2.lt k hk
  · exact h3.lt k hk
  · exact h4.lt k hk
  · exact h5.lt k hk
theorem Tx.fr {w w' : World} {F G : List Nat} {p : Nat} {T : TS} (h : Tx w F p T) (hf : Fr G w w') (hd : ∀ k ∈ F, k ∉ G) : Tx w' F p T := h.keep fun k hk => hf.block k (h.lt k hk) (hd k hk)
theorem Tx.below {w w' : World} {F : List Nat} {p : Nat} {T : TS} (h : Tx w F p T) (hb : Below w.heap.size w w') : Tx w' F p T := h.keep fun k hk => hb.block k (h.lt k hk)
/-- What the walk reads of a text. -/
theorem Tx.read {w : World} {F : List Nat} {p : Nat} {T : TS} (h : Tx w F p T) : ∃ (A1 : Option Addr) (c1 x : Nat) (A2 : Option Addr) (c2 : Nat) (A3 : Option Addr) (c3 mb : Nat) (FI : List Nat),
    w.cell? ⟨p, 0, none⟩ = some (.slice A1 T.l.length c1) ∧ w.cell? ⟨p, 1, none⟩ = some (.pointer (some ⟨x, 0, none⟩)) ∧ w.cell? ⟨p, 2, none⟩ = some (.slice A2 T.ops.length c2) ∧ w.cell? ⟨p, 3, none⟩ = some (.slice A3 T.v.length c3) ∧ w.cell? ⟨p, 4, none⟩ = some (.map (some mb)) ∧ w.cell? ⟨p, 5, none⟩ = some (.int .i64 T.top) ∧
    (T.l.length ≤ c1 ∧ Kd.C k83 w A1 T.l.length T.l) ∧ Ix w FI x (T.l.map (·.f2)) ∧ (T.ops.length ≤ c2 ∧ Kd.C k49 w A2 T.ops.length T.ops) ∧ (T.v.length ≤ c3 ∧ Kd.C k104 w A3 T.v.length T.v) ∧ IM w mb T.last := by
  obtain ⟨lv, x, ov, vv, mb, FI, h1, h2, h3, h4, h5, h6, rfl⟩ := h
  obtain ⟨A1, c1, rfl, e1, r1⟩ := Kd.R_reads h2
  obtain ⟨A2, c2, rfl, e2, r2⟩ := Kd.R_reads h4
  obtain ⟨A3, c3, rfl, e3, r3⟩ := Kd.R_reads h5
  exact ⟨A1, c1, x, A2, c2, A3, c3, mb, FI, (cell_of h1 0).trans rfl, (cell_of h1 1).trans rfl, (cell_of h1 2).trans rfl, (cell_of h1 3).trans rfl, (cell_of h1 4).trans rfl, (cell_of h1 5).trans rfl, ⟨e1, r1⟩, h3, ⟨e2, r2⟩, ⟨e3, r3⟩, h6⟩
theorem tlen_calls (w : World) (F : List Nat) (p : Nat) (T : TS) (h : Tx w F p T) : Calls Try.prog 21 #[.pointer (some ⟨p, 0, none⟩)] w fun e w' => e = .returned (.int .i64 (cn (T.l.map (·.f2)) : Int)) ∧ w = w' := by
  obtain ⟨A1, c1, x, A2, c2, A3, c3, mb, FI, h0, h1, h2, h3, h4, h5, _, hx, _⟩ := h.read
  have K1 := Lib.hid (count_calls w FI x _ hx)
  generalize (cn (T.l.map (·.f2)) : Int) = t at *
  clear h hx
  go_enter Try.func21, Try.ntmps21
  go_wp2_with (go_at_call 34; refine K1.out.mono ?_; rintro e w' ⟨rfl, rfl⟩)
  go_ret
  exact ⟨rfl, rfl⟩
end Go.Proofs.Ytefnpalkkhhkfaa.PC
namespace Go.Proofs.Ytefnpalkkhhkfaa.PC
open Go.RowKit Go.Proofs.YtefnpalkkhhkfaaW.PrintWords Go.Proofs.YtefnpalkkhhkfaaW.PrintLast Go.Proofs.YtefnpalkkhhkfaaW.PrintMore Go.Proofs.Ytefnpalkkhhkfaa.K Go.Proofs.Ytefnpalkkhhkfaa.IX
attribute [local go_sem] max2_int min2_int max_two min_two max_three min_three max_four min_four
attribute [local go_sem high] eqA24
set_option linter.unusedVariables false
set_option linter.unusedSimpArgs false
def visS (l : List S83) : List Int := (l.filter (·.f2)).map (·.f1)
def idsS (so : S83 → Bool) (l : List S83) : List S24 := (l.filter so).map (·.f0)
/-- An element of a row, as the walk reads it in a later world. -/
theorem cell_el {w wr : World} {A : Option Addr} {l : List S83} (h : Kd.C k83 w A l.length l) (hb : Below w.heap.size w wr) (i : Nat) (hi : i < l.length) : ∃ ad, A = some ad ∧ wr.cell? (ad.add (i * 4)) = some (.int .i64 l[i].f0.f0) ∧ wr.cell? ⟨(ad.add (i * 4)).block, (ad.add (i * 4)).off + 1, none⟩ = some (.int .i64 l[i].f0.f1) ∧
    wr.cell? ⟨(ad.add (i * 4)).block, (ad.add (i * 4)).off + 2, none⟩ = some (.int .i32 l[i].f1) ∧ wr.cell? ⟨(ad.add (i * 4)).block, (ad.add (i * 4)).off + 3, none⟩ = some (.bool l[i].f2) := by
  obtain ⟨ad, eA, c0, c1, c2, c3⟩ := at_T83 h (i : Int) (by omega) (by omega)
  have hrd : rd_T83 l (i : Int) = l[i] := by unfold rd_T83; simp [hi]
  simp only [Int.toNat_natCast] at c0 c1 c2 c3
  rw [hrd] at c0 c1 c2 c3
  exact ⟨ad, eA, (hb.cell (World.block_lt_of_cell? w _ c0)).trans c0, (hb.cell (World.block_lt_of_cell? w _ c1)).trans c1, (hb.cell (World.block_lt_of_cell? w _ c2)).trans c2, (hb.cell (World.block_lt_of_cell? w _ c3)).trans c3⟩
end Go.Proofs.Ytefnpalkkhhkfaa.PC
namespace Go.Proofs.Ytefnpalkkhhkfaa.PC
open Go.RowKit Go.Proofs.YtefnpalkkhhkfaaW.PrintWords Go.Proofs.YtefnpalkkhhkfaaW.PrintLast Go.Proofs.YtefnpalkkhhkfaaW.PrintMore Go.Proofs.Ytefnpalkkhhkfaa.K Go.Proofs.Ytefnpalkkhhkfaa.IX
attribute [local go_sem] max2_int min2_int max_two min_two max_three min_three max_four min_four
attribute [local go_sem high] eqA24
set_option linter.unusedVariables false
set_option linter.unusedSimpArgs false
theorem info49 : (Try.prog.info? 49).map (fun i => (i.zero, i.size, i.bytes)) = some (some (.agg #[(.int .i64 0), (.int .i64 0), (.int .i64 0), (.bool false), (.int .i64 0), (.int .i64 0), (.int .i32 0)]), 7, 56) := by kernel_rfl
theorem tplace_calls (w : World) (F : List Nat) (p : Nat) (T : TS) (x : S24) (h : Tx w F p T) (hl : T.l.length ≤ 1000000) : Calls Try.prog 38 #[.pointer (some ⟨p, 0, none⟩), .agg #[.int .i64 x.f0, .int .i64 x.f1]] w fun e w' => e = .returned (.int .i64 (placeS T.l x)) ∧ Below w.heap.size w w' := by
  obtain ⟨A1, c1, _, A2, c2, A3, c3, mb, FI, h0, h1, h2, h3, h4, h5, ⟨hc, hr⟩, _⟩ := h.read
  exact place_calls' p T.l x A1 c1 w h0 hr hc hl
def hasS (l : List S83) (x : S24) : Bool := decide (0 ≤ placeS l x)
theorem has_calls (w : World) (F : List Nat) (p : Nat) (T : TS) (x : S24) (h : Tx w F p T) (hl : T.l.length ≤ 1000000) : Calls Try.prog 29 #[.pointer (some ⟨p, 0, none⟩), .agg #[.int .i64 x.f0, .int .i64 x.f1]] w fun e w' => e = .returned (.bool (hasS T.l x)) ∧ Below w.heap.size w w' := by
  obtain ⟨x0, x1⟩ := x
  have hb : Below w.heap.size w (w.alloc (.cells #[.int .i64 x0, .int .i64 x1] 24)) := (Below.refl _ w).alloc (Nat.le_refl _) _
  have K1 := Lib.hid (tplace_calls _ F p T ⟨x0, x1⟩ (h.below hb) hl)
  unfold hasS
  generalize placeS T.l ⟨x0, x1⟩ = r at *
  have HB := Lib.hid hb
  clear h hb
  go_enter Try.func29, Try.ntmps29
  go_wp2_with (go_at_call 38; refine K1.out.mono ?_; rintro e w' ⟨rfl, hb⟩; have HB2 := Lib.hid (below_step HB.out hb); clear hb)
  go_ret
  exact ⟨rfl, HB2.out⟩
def aliveS (l : List S83) (x : S24) : Bool := decide (0 ≤ placeS l x) && (rd_T83 l (placeS l x)).f2
theorem alive_calls (w : World) (F : List Nat) (p : Nat) (T : TS) (x : S24) (h : Tx w F p T) (hl : T.l.length ≤ 1000000) : Calls Try.prog 26 #[.pointer (some ⟨p, 0, none⟩), .agg #[.int .i64 x.f0, .int .i64 x.f1]] w fun e w' => e = .returned (.bool (aliveS T.l x)) ∧ Below w.heap.size w w' := by
  obtain ⟨x0, x1⟩ := x
  have hb : Below w.heap.size w (w.alloc (.cells #[.int .i64 x0, .int .i64 x1] 24)) := (Below.refl _ w).alloc (Nat.le_refl _) _
  have K1 := Lib.hid (tplace_calls _ F p T ⟨x0, x1⟩ (h.below hb) hl)
  obtain ⟨A1, c1, _, A2, c2, A3, c3, mb, FI, h0, h1, h2, h3, h4, h5, ⟨hc, hr⟩, _⟩ := h.read
  have hrg := placeS_range T.l ⟨x0, x1⟩
  unfold aliveS
  have HR := Lib.hid hr
  have H0 := Lib.hid h0
  have HP := Lib.hid (World.block_lt_of_cell? w _ h0)
  generalize placeS T.l ⟨x0, x1⟩ = r at *
  generalize T.l = l at *
  have HB := Lib.hid hb
  clear h hb hr h0 h1 h2 h3 h4 h5
  by_cases hq : 0 ≤ r
  · obtain ⟨n, rfl⟩ : ∃ n : Nat, r = n := ⟨r.toNat, by omega⟩
    have hn : n < l.length := by omega
    have hrd : rd_T83 l (n : Int) = l[n] := by unfold rd_T83; simp [hn]
    rw [hrd]
    obtain ⟨b, hbq⟩ : ∃ b, (l[n]).f2 = b := ⟨_, rfl⟩
    have K2 := Lib.hid (fun wr (hb : Below w.heap.size w wr) => cell_el HR.out hb n hn)
    rw [hbq] at K2 ⊢
    have hd : decide ((0 : Int) ≤ (n : Int)) = true := by simp
    rw [hd]
    clear hrd hbq
    go_enter Try.func26, Try.ntmps26
    go_wp2_with (go_at_call 38; refine K1.out.mono ?_; rintro e w' ⟨rfl, hb⟩; have hb2 := below_step HB.out hb; have HB2 := Lib.hid hb2; obtain ⟨ad, eA, e0, e1, e2, e3⟩ := K2.out w' hb2; subst eA; have hp0 := (hb2.cell HP.out).trans H0.out; clear hb hb2)
    go_ret
    exact ⟨rfl, HB2.out⟩
  · have hd : decide ((0 : Int) ≤ r) = false := by simpa using hq
    have hq2 : r < 0 := by omega
    rw [hd]
    clear hq
    go_enter Try.func26, Try.ntmps26
    go_wp2_with (go_at_call 38; refine K1.out.mono ?_; rintro e w' ⟨rfl, hb⟩; have hb2 := below_step HB.out hb; have HB2 := Lib.hid hb2; have hp0 := (hb2.cell HP.out).trans H0.out; clear hb hb2)
    go_ret
    exact ⟨rfl, HB2.out⟩
end Go.Proofs.Ytefnpalkkhhkfaa.PC
namespace Go.Proofs.Ytefnpalkkhhkfaa.PC
open Go.RowKit Go.Proofs.YtefnpalkkhhkfaaW.PrintWords Go.Proofs.YtefnpalkkhhkfaaW.PrintLast Go.Proofs.YtefnpalkkhhkfaaW.PrintMore Go.Proofs.Ytefnpalkkhhkfaa.K Go.Proofs.Ytefnpalkkhhkfaa.I
attribute [local go_sem] max2_int min2_int max_two min_two max_three min_three max_four min_four
set_option linter.unusedVariables false
set_option linter.unusedSimpArgs false
theorem ens_len (xs : List S104) : (ens xs).length = xs.length := List.length_map _
theorem wtS_len {xs : List S104} (h : upS xs) (a s : Int) : (wtS xs a s).length ≤ xs.length + 1 := by
  rw [← ens_len, wtS_eq h, ← ens_len xs]
  exact wt_len _ _ _
end Go.Proofs.Ytefnpalkkhhkfaa.PC
namespace Go.Proofs.Ytefnpalkkhhkfaa.PC
open Go.RowKit Go.Proofs.YtefnpalkkhhkfaaW.PrintWords Go.Proofs.YtefnpalkkhhkfaaW.PrintLast Go.Proofs.YtefnpalkkhhkfaaW.PrintMore
attribute [local go_sem] max2_int min2_int max_two min_two max_three min_three max_four min_four
set_option linter.unusedVariables false
set_option linter.unusedSimpArgs false
attribute [local go_sem high] eqA24
def foolscapref12_Less.f (a0_0 : Int) (a0_1 : Int) (a1_0 : Int) (a1_1 : Int) : Option (Bool) := if a0_0 < a1_0 then (some true) else (if a0_0 = a1_0 then (some (decide (a0_1 < a1_1))) else (some false))
set_option maxHeartbeats 8000000 in
set_option maxRecDepth 100000 in
theorem foolscapref12_Less.calls (a0_0 : Int) (a0_1 : Int) (a1_0 : Int) (a1_1 : Int) (r : Bool) (w : World) (h : foolscapref12_Less.f a0_0 a0_1 a1_0 a1_1 = some r) :
    Calls Try.prog 76 #[.agg #[.int .i64 a0_0, .int .i64 a0_1], .agg #[.int .i64 a1_0, .int .i64 a1_1]] w fun e w' => e = .returned (.bool r) ∧ Below w.heap.size w w' := by
  have hu24 := Try.underlying24
  have HB := Aside0.mk (Below.refl w.heap.size w)
  have H : (if a0_0 < a1_0 then (some true) else (if a0_0 = a1_0 then (some (decide (a0_1 < a1_1))) else (some false))) = some r := h
  clear h
  by_cases c3 : a0_0 < a1_0
  · rw [if_pos c3] at H
    have c3b0 : decide (a0_0 < a1_0) = true := decide_eq_true c3
    clear c3
    obtain rfl := Option.some.inj H
    go_enter Try.func76, Try.ntmps76
    go_wp2_with (first | ((with_reducible refine gate_dst (N := 2) rfl ?_); refine box_event ?hg (N := 2) ?hd (cs := #[.int .i64 a0_0, .int .i64 a0_1]) (t := 24) ?hr ?_; (case hd => rfl); (case hg => rfl); (case hr => first | (go_simp; done) | (go_simp; rfl)); intro gb185 hg w4 hbox hb; have n0_ := Aside0.mk (below_step (by repeat (first | (with_reducible first | exact HB.out | apply below_alloc | apply pw_below_drewN | apply below_drew1) | exact HB.out)) hb); have n1_ := Aside0.mk (hbox); have n2_ := Aside0.mk ((by rw [hg]; exact (below_size (by repeat (first | (with_reducible first | exact HB.out | apply below_alloc | apply pw_below_drewN | apply below_drew1) | exact HB.out))) : w.heap.size ≤ gb185)); have n3_ := Aside0.mk ((by rw [hg]; exact (below_size (by repeat (first | (with_reducible first | exact HB.out | apply below_alloc | apply pw_below_drewN | apply below_drew1) | exact HB.out))) : w.heap.size ≤ gb185)); clear HB; have HB := n0_; have BK185 := n1_; have GW185 := n2_; have GE185 := n3_; clear n0_ n1_ n2_ n3_; clear hb hbox hg) | ((with_reducible refine gate_dst (N := 3) rfl ?_); refine box_event ?hg (N := 3) ?hd (cs := #[.int .i64 a1_0, .int .i64 a1_1]) (t := 24) ?hr ?_; (case hd => rfl); (case hg => rfl); (case hr => first | (go_simp; done) | (go_simp; rfl)); intro gb186 hg w5 hbox hb; have n0_ := Aside0.mk (blk_below (g := gb185) (o := .cells #[.int .i64 a0_0, .int .i64 a0_1] 24 (0, 0)) (by (with_reducible repeat (first | refine blk_drewN ?_ _ | refine blk_drew ?_ | refine blk_alloc ?_ _)); exact BK185.out) hb); have n1_ := Aside0.mk (below_step (by repeat (first | (with_reducible first | exact HB.out | apply below_alloc | apply pw_below_drewN | apply below_drew1 | refine below_set ?_ GE185.out) | exact HB.out)) hb); have n2_ := Aside0.mk (hbox); have n3_ := Aside0.mk ((by rw [hg]; exact (below_size (by repeat (first | (with_reducible first | exact HB.out | apply below_alloc | apply pw_below_drewN | apply below_drew1 | refine below_set ?_ GE185.out) | exact HB.out))) : w.heap.size ≤ gb186)); have n4_ := Aside0.mk ((by rw [hg]; exact (below_size (by repeat (first | (with_reducible first | exact HB.out | apply below_alloc | apply pw_below_drewN | apply below_drew1 | refine below_set ?_ GE185.out) | exact HB.out))) : w.heap.size ≤ gb186)); have n5_ := Aside0.mk ((by rw [hg]; exact Nat.ne_of_lt (blk_lt (g := gb185) (o := .cells #[.int .i64 a0_0, .int .i64 a0_1] 24 (0, 0)) (by (with_reducible repeat (first | refine blk_drewN ?_ _ | refine blk_drew ?_ | refine blk_alloc ?_ _)); exact BK185.out)) : gb185 ≠ gb186)); have n6_ := Aside0.mk ((by rw [hg]; exact Nat.ne_of_gt (blk_lt (g := gb185) (o := .cells #[.int .i64 a0_0, .int .i64 a0_1] 24 (0, 0)) (by (with_reducible repeat (first | refine blk_drewN ?_ _ | refine blk_drew ?_ | refine blk_alloc ?_ _)); exact BK185.out)) : gb186 ≠ gb185)); clear BK185; clear HB; have BK185 := n0_; have HB := n1_; have BK186 := n2_; have GW186 := n3_; have GE186 := n4_; have NB185_186 := n5_; have NB186_185 := n6_; clear n0_ n1_ n2_ n3_ n4_ n5_ n6_; clear hb hbox hg; have hnb6 := NB185_186.out; have hnc6 := NB186_185.out; have hcz7_0 : w5.cell? ⟨gb185, 0, none⟩ = some (.int .i64 a0_0) := (blk_cell BK185.out 0).trans rfl; have hcz7_1 : w5.cell? ⟨gb185, 1, none⟩ = some (.int .i64 a0_1) := (blk_cell BK185.out 1).trans rfl; have hfz7_0 := blk_frozen BK185.out 0; have hfz7_1 := blk_frozen BK185.out 1; have hcz8_0 : w5.cell? ⟨gb186, 0, none⟩ = some (.int .i64 a1_0) := (blk_cell BK186.out 0).trans rfl; have hcz8_1 : w5.cell? ⟨gb186, 1, none⟩ = some (.int .i64 a1_1) := (blk_cell BK186.out 1).trans rfl; have hfz8_0 := blk_frozen BK186.out 0; have hfz8_1 := blk_frozen BK186.out 1))
    go_ret
    exact ⟨by first | rfl | (simp [errW_none, errW_some] <;> rfl) | (simp [*, errW_none, errW_some] <;> rfl), by repeat (first | (with_reducible first | exact HB.out | apply below_alloc | apply pw_below_drewN | apply below_drew1 | refine below_set ?_ GE185.out | refine below_set ?_ GE186.out) | exact HB.out)⟩
  · rw [if_neg c3] at H
    have c3b0 : decide (a0_0 < a1_0) = false := decide_eq_false c3
    clear c3
    by_cases c9 : a0_0 = a1_0
    · rw [if_pos c9] at H
      have c9b0 : (a0_0 == a1_0) = true := beq_iff_eq.mpr c9
      have c9b1 : (a0_0 != a1_0) = false := bne_eq_false_iff_eq.mpr c9
      clear c9
      obtain rfl := Option.some.inj H
      go_enter Try.func76, Try.ntmps76
      go_wp2_with (first | ((with_reducible refine gate_dst (N := 2) rfl ?_); refine box_event ?hg (N := 2) ?hd (cs := #[.int .i64 a0_0, .int .i64 a0_1]) (t := 24) ?hr ?_; (case hd => rfl); (case hg => rfl); (case hr => first | (go_simp; done) | (go_simp; rfl)); intro gb185 hg w10 hbox hb; have n0_ := Aside0.mk (below_step (by repeat (first | (with_reducible first | exact HB.out | apply below_alloc | apply pw_below_drewN | apply below_drew1) | exact HB.out)) hb); have n1_ := Aside0.mk (hbox); have n2_ := Aside0.mk ((by rw [hg]; exact (below_size (by repeat (first | (with_reducible first | exact HB.out | apply below_alloc | apply pw_below_drewN | apply below_drew1) | exact HB.out))) : w.heap.size ≤ gb185)); have n3_ := Aside0.mk ((by rw [hg]; exact (below_size (by repeat (first | (with_reducible first | exact HB.out | apply below_alloc | apply pw_below_drewN | apply below_drew1) | exact HB.out))) : w.heap.size ≤ gb185)); clear HB; have HB := n0_; have BK185 := n1_; have GW185 := n2_; have GE185 := n3_; clear n0_ n1_ n2_ n3_; clear hb hbox hg) | ((with_reducible refine gate_dst (N := 3) rfl ?_); refine box_event ?hg (N := 3) ?hd (cs := #[.int .i64 a1_0, .int .i64 a1_1]) (t := 24) ?hr ?_; (case hd => rfl); (case hg => rfl); (case hr => first | (go_simp; done) | (go_simp; rfl)); intro gb186 hg w11 hbox hb; have n0_ := Aside0.mk (blk_below (g := gb185) (o := .cells #[.int .i64 a0_0, .int .i64 a0_1] 24 (0, 0)) (by (with_reducible repeat (first | refine blk_drewN ?_ _ | refine blk_drew ?_ | refine blk_alloc ?_ _)); exact BK185.out) hb); have n1_ := Aside0.mk (below_step (by repeat (first | (with_reducible first | exact HB.out | apply below_alloc | apply pw_below_drewN | apply below_drew1 | refine below_set ?_ GE185.out) | exact HB.out)) hb); have n2_ := Aside0.mk (hbox); have n3_ := Aside0.mk ((by rw [hg]; exact (below_size (by repeat (first | (with_reducible first | exact HB.out | apply below_alloc | apply pw_below_drewN | apply below_drew1 | refine below_set ?_ GE185.out) | exact HB.out))) : w.heap.size ≤ gb186)); have n4_ := Aside0.mk ((by rw [hg]; exact (below_size (by repeat (first | (with_reducible first | exact HB.out | apply below_alloc | apply pw_below_drewN | apply below_drew1 | refine below_set ?_ GE185.out) | exact HB.out))) : w.heap.size ≤ gb186)); have n5_ := Aside0.mk ((by rw [hg]; exact Nat.ne_of_lt (blk_lt (g := gb185) (o := .cells #[.int .i64 a0_0, .int .i64 a0_1] 24 (0, 0)) (by (with_reducible repeat (first | refine blk_drewN ?_ _ | refine blk_drew ?_ | refine blk_alloc ?_ _)); exact BK185.out)) : gb185 ≠ gb186)); have n6_ := Aside0.mk ((by rw [hg]; exact Nat.ne_of_gt (blk_lt (g := gb185) (o := .cells #[.int .i64 a0_0, .int .i64 a0_1] 24 (0, 0)) (by (with_reducible repeat (first | refine blk_drewN ?_ _ | refine blk_drew ?_ | refine blk_alloc ?_ _)); exact BK185.out)) : gb186 ≠ gb185)); clear BK185; clear HB; have BK185 := n0_; have HB := n1_; have BK186 := n2_; have GW186 := n3_; have GE186 := n4_; have NB185_186 := n5_; have NB186_185 := n6_; clear n0_ n1_ n2_ n3_ n4_ n5_ n6_; clear hb hbox hg; have hnb12 := NB185_186.out; have hnc12 := NB186_185.out; have hcz13_0 : w11.cell? ⟨gb185, 0, none⟩ = some (.int .i64 a0_0) := (blk_cell BK185.out 0).trans rfl; have hcz13_1 : w11.cell? ⟨gb185, 1, none⟩ = some (.int .i64 a0_1) := (blk_cell BK185.out 1).trans rfl; have hfz13_0 := blk_frozen BK185.out 0; have hfz13_1 := blk_frozen BK185.out 1; have hcz14_0 : w11.cell? ⟨gb186, 0, none⟩ = some (.int .i64 a1_0) := (blk_cell BK186.out 0).trans rfl; have hcz14_1 : w11.cell? ⟨gb186, 1, none⟩ = some (.int .i64 a1_1) := (blk_cell BK186.out 1).trans rfl; have hfz14_0 := blk_frozen BK186.out 0; have hfz14_1 := blk_frozen BK186.out 1))
      go_ret
      exact ⟨by first | rfl | (simp [errW_none, errW_some] <;> rfl) | (simp [*, errW_none, errW_some] <;> rfl), by repeat (first | (with_reducible first | exact HB.out | apply below_alloc | apply pw_below_drewN | apply below_drew1 | refine below_set ?_ GE185.out | refine below_set ?_ GE186.out) | exact HB.out)⟩
    · rw [if_neg c9] at H
      have c9b0 : (a0_0 == a1_0) = false := beq_eq_false_iff_ne.mpr c9
      have c9b1 : (a0_0 != a1_0) = true := bne_iff_ne.mpr c9
      obtain rfl := Option.some.inj H
      go_enter Try.func76, Try.ntmps76
      go_wp2_with (first | ((with_reducible refine gate_dst (N := 2) rfl ?_); refine box_event ?hg (N := 2) ?hd (cs := #[.int .i64 a0_0, .int .i64 a0_1]) (t := 24) ?hr ?_; (case hd => rfl); (case hg => rfl); (case hr => first | (go_simp; done) | (go_simp; rfl)); intro gb185 hg w15 hbox hb; have n0_ := Aside0.mk (below_step (by repeat (first | (with_reducible first | exact HB.out | apply below_alloc | apply pw_below_drewN | apply below_drew1) | exact HB.out)) hb); have n1_ := Aside0.mk (hbox); have n2_ := Aside0.mk ((by rw [hg]; exact (below_size (by repeat (first | (with_reducible first | exact HB.out | apply below_alloc | apply pw_below_drewN | apply below_drew1) | exact HB.out))) : w.heap.size ≤ gb185)); have n3_ := Aside0.mk ((by rw [hg]; exact (below_size (by repeat (first | (with_reducible first | exact HB.out | apply below_alloc | apply pw_below_drewN | apply below_drew1) | exact HB.out))) : w.heap.size ≤ gb185)); clear HB; have HB := n0_; have BK185 := n1_; have GW185 := n2_; have GE185 := n3_; clear n0_ n1_ n2_ n3_; clear hb hbox hg) | ((with_reducible refine gate_dst (N := 3) rfl ?_); refine box_event ?hg (N := 3) ?hd (cs := #[.int .i64 a1_0, .int .i64 a1_1]) (t := 24) ?hr ?_; (case hd => rfl); (case hg => rfl); (case hr => first | (go_simp; done) | (go_simp; rfl)); intro gb186 hg w16 hbox hb; have n0_ := Aside0.mk (blk_below (g := gb185) (o := .cells #[.int .i64 a0_0, .int .i64 a0_1] 24 (0, 0)) (by (with_reducible repeat (first | refine blk_drewN ?_ _ | refine blk_drew ?_ | refine blk_alloc ?_ _)); exact BK185.out) hb); have n1_ := Aside0.mk (below_step (by repeat (first | (with_reducible first | exact HB.out | apply below_alloc | apply pw_below_drewN | apply below_drew1 | refine below_set ?_ GE185.out) | exact HB.out)) hb); have n2_ := Aside0.mk (hbox); have n3_ := Aside0.mk ((by rw [hg]; exact (below_size (by repeat (first | (with_reducible first | exact HB.out | apply below_alloc | apply pw_below_drewN | apply below_drew1 | refine below_set ?_ GE185.out) | exact HB.out))) : w.heap.size ≤ gb186)); have n4_ := Aside0.mk ((by rw [hg]; exact (below_size (by repeat (first | (with_reducible first | exact HB.out | apply below_alloc | apply pw_below_drewN | apply below_drew1 | refine below_set ?_ GE185.out) | exact HB.out))) : w.heap.size ≤ gb186)); have n5_ := Aside0.mk ((by rw [hg]; exact Nat.ne_of_lt (blk_lt (g := gb185) (o := .cells #[.int .i64 a0_0, .int .i64 a0_1] 24 (0, 0)) (by (with_reducible repeat (first | refine blk_drewN ?_ _ | refine blk_drew ?_ | refine blk_alloc ?_ _)); exact BK185.out)) : gb185 ≠ gb186)); have n6_ := Aside0.mk ((by rw [hg]; exact Nat.ne_of_gt (blk_lt (g := gb185) (o := .cells #[.int .i64 a0_0, .int .i64 a0_1] 24 (0, 0)) (by (with_reducible repeat (first | refine blk_drewN ?_ _ | refine blk_drew ?_ | refine blk_alloc ?_ _)); exact BK185.out)) : gb186 ≠ gb185)); clear BK185; clear HB; have BK185 := n0_; have HB := n1_; have BK186 := n2_; have GW186 := n3_; have GE186 := n4_; have NB185_186 := n5_; have NB186_185 := n6_; clear n0_ n1_ n2_ n3_ n4_ n5_ n6_; clear hb hbox hg; have hnb17 := NB185_186.out; have hnc17 := NB186_185.out; have hcz18_0 : w16.cell? ⟨gb185, 0, none⟩ = some (.int .i64 a0_0) := (blk_cell BK185.out 0).trans rfl; have hcz18_1 : w16.cell? ⟨gb185, 1, none⟩ = some (.int .i64 a0_1) := (blk_cell BK185.out 1).trans rfl; have hfz18_0 := blk_frozen BK185.out 0; have hfz18_1 := blk_frozen BK185.out 1; have hcz19_0 : w16.cell? ⟨gb186, 0, none⟩ = some (.int .i64 a1_0) := (blk_cell BK186.out 0).trans rfl; have hcz19_1 : w16.cell? ⟨gb186, 1, none⟩ = some (.int .i64 a1_1) := (blk_cell BK186.out 1).trans rfl; have hfz19_0 := blk_frozen BK186.out 0; have hfz19_1 := blk_frozen BK186.out 1))
      go_ret
      exact ⟨by first | rfl | (simp [errW_none, errW_some] <;> rfl) | (simp [*, errW_none, errW_some] <;> rfl), by repeat (first | (with_reducible first | exact HB.out | apply below_alloc | apply pw_below_drewN | apply below_drew1 | refine below_set ?_ GE185.out | refine below_set ?_ GE186.out) | exact HB.out)⟩
end Go.Proofs.Ytefnpalkkhhkfaa.PC
namespace Go.Proofs.Ytefnpalkkhhkfaa.PC
open Go.RowKit Go.Proofs.YtefnpalkkhhkfaaW.PrintWords Go.Proofs.YtefnpalkkhhkfaaW.PrintLast Go.Proofs.YtefnpalkkhhkfaaW.PrintMore Go.Proofs.Ytefnpalkkhhkfaa.K Go.Proofs.Ytefnpalkkhhkfaa.I
set_option linter.unusedVariables false
set_option linter.unusedSimpArgs false
theorem cmp_f (a b : Int) : cmp_Compare_int.f a b = some (cmpI a b) := by
  have e : ∀ x : Int, cmp_isNaN_int.f x = some false := fun x => by unfold cmp_isNaN_int.f; simp
  unfold cmp_Compare_int.f cmpI
  rw [e, e]
  simp only [Option.bind_some]
  rw [if_neg (by decide), if_neg (by decide)]
  by_cases h : a < b
  · rw [if_pos h, if_pos h]
  · rw [if_neg h, if_neg h]
    by_cases h2 : b < a
    · rw [if_pos h2, if_pos h2]
    · rw [if_neg h2, if_neg h2]
theorem or_f (k : Nat) (a b : Int) : cmp_Or_int.f (k + 3) [a, b] = some (if a = 0 then b else a) := by
  unfold cmp_Or_int.f
  rw [cmp_Or_int.l0, if_pos (by simp), if_pos (by simp), if_pos (by simp)]
  have e0 : rd [a, b] 0 = a := rfl
  rw [e0]
  by_cases h : a = 0
  · rw [if_pos h, if_pos h, show wrap64 (0 + 1) = 1 from by unfold wrap64; decide, cmp_Or_int.l0, if_pos (by simp), if_pos (by simp), if_pos (by simp)]
    have e1 : rd [a, b] 1 = b := rfl
    rw [e1]
    by_cases h2 : b = 0
    · rw [if_pos h2, show wrap64 (1 + 1) = 2 from by unfold wrap64; decide, cmp_Or_int.l0, if_neg (by simp), h2]
    · rw [if_neg h2]
  · rw [if_neg h, if_neg h]
def lessB (a b c d : Int) : Bool := decide (a < c ∨ a = c ∧ b < d)
theorem less_f (k : Nat) (a b c d : Int) : ident_Less.f (k + 3) a b c d = some (lessB a b c d) := by
  unfold ident_Less.f
  rw [cmp_f, Option.bind_some, cmp_f, Option.bind_some, or_f, Option.bind_some]
  congr 1
  unfold lessB cmpI
  rw [decide_eq_decide]
  repeat' split
  all_goals omega
open Classical in
/-- What the reference's With puts together. -/
def mg (a s : Int) : List S104 → Bool → List S104
  | [], p => if p then [] else [⟨a, s⟩]
  | e :: xs, true => if e.f0 = a then mg a s xs true else e :: mg a s xs true
  | e :: xs, false => if e.f0 ≥ a then ⟨a, s⟩ :: (if e.f0 = a then mg a s xs true else e :: mg a s xs true) else e :: mg a s xs false
end Go.Proofs.Ytefnpalkkhhkfaa.PC
namespace Go.Proofs.Ytefnpalkkhhkfaa.PC
open Go.RowKit Go.Proofs.YtefnpalkkhhkfaaW.PrintWords Go.Proofs.YtefnpalkkhhkfaaW.PrintLast Go.Proofs.YtefnpalkkhhkfaaW.PrintMore Go.Proofs.Ytefnpalkkhhkfaa.K Go.Proofs.Ytefnpalkkhhkfaa.IX
attribute [local go_sem] max2_int min2_int max_two min_two max_three min_three max_four min_four
attribute [local go_sem high] eqA24
set_option linter.unusedVariables false
set_option linter.unusedSimpArgs false
def T0 : TS := ⟨[], [], [], fun _ => 0, 0⟩
theorem rnew_calls (w : World) : Calls Try.prog 27 #[] w fun e w' => ∃ p F, e = .returned (.pointer (some ⟨p, 0, none⟩)) ∧ Tx w' F p T0 ∧ Below w.heap.size w w' ∧ ∀ k ∈ F, w.heap.size ≤ k := by
  have hmm := @run_makeMap Try.prog
  go_enter Try.func27, Try.ntmps27
  go_wp2_with (go_at_call 44; refine (new_calls w).mono ?_; rintro e w1 ⟨x, FI, rfl, hx, hb, hF⟩; have HX := Lib.hid hx; have HB := Lib.hid hb; have HFI := Lib.hid hF; clear hx hb hF)
  go_ret
  have b1 : Below w1.heap.size w1 (w1.alloc (.map #[] 0)) := (Below.refl _ w1).alloc (Nat.le_refl _) _
  have b2 : Below w1.heap.size w1 ((w1.alloc (.map #[] 0)).alloc (.cells #[.slice none 0 0, .pointer (some ⟨x, 0, none⟩), .slice none 0 0, .slice none 0 0, .map (some w1.heap.size), .int .i64 0] 74)) := b1.alloc (by rw [alloc_sz]; omega) _
  have hsz : (w1.alloc (.map #[] 0)).heap.size = w1.heap.size + 1 := alloc_sz _ _
  refine ⟨_, _, rfl, ⟨.slice none 0 0, x, .slice none 0 0, .slice none 0 0, w1.heap.size, FI, ?_, Kd.R_nil _ _ _ _ _, HX.out.below b2, Kd.R_nil _ _ _ _ _, Kd.R_nil _ _ _ _ _, (IM.new w1).keep (heap_old _ _ (by rw [hsz]; omega)), rfl⟩, below_step HB.out b2, ?_⟩
  · rw [← hsz]
    exact heap_new _ _
  · intro k hk
    have := HB.out.size
    simp only [ob, Value.ownBlock, List.mem_cons, List.mem_append, Option.toList_none, List.not_mem_nil, false_or, or_false] at hk
    rcases hk with rfl | rfl | hk
    · omega
    · omega
    · exact HFI.out k hk
def lessI (a b : S24) : Bool := lessB a.f0 a.f1 b.f0 b.f1
theorem less_is (a b : S24) (w : World) : Calls Try.prog 56 #[.agg #[.int .i64 a.f0, .int .i64 a.f1], .agg #[.int .i64 b.f0, .int .i64 b.f1]] w fun e w' => e = .returned (.bool (lessI a b)) ∧ Below w.heap.size w w' :=
  ident_Less.calls 3 a.f0 a.f1 b.f0 b.f1 _ w (less_f 0 _ _ _ _)
/-- How many of a row, from its head, have greater IDs. -/
def skipS (x : S24) : List S83 → Nat
  | [] => 0
  | e :: l => if lessI x e.f0 = true then skipS x l + 1 else 0
theorem skipS_le (x : S24) (l : List S83) : skipS x l ≤ l.length := by
  induction l with
  | nil => simp [skipS]
  | cons e l ih =>
    simp only [skipS, List.length_cons]
    split <;> omega
def opV (o : S49) : Value := .agg #[.int .i64 o.f0.f0, .int .i64 o.f0.f1, .int .i64 o.f1, .bool o.f2, .int .i64 o.f3.f0, .int .i64 o.f3.f1, .int .i32 o.f4]
def elOf (o : S49) : S83 := ⟨o.f0, o.f4, true⟩
end Go.Proofs.Ytefnpalkkhhkfaa.PC
namespace Go.Proofs.Ytefnpalkkhhkfaa.PC
open Go.RowKit Go.Proofs.YtefnpalkkhhkfaaW.PrintWords Go.Proofs.YtefnpalkkhhkfaaW.PrintLast Go.Proofs.YtefnpalkkhhkfaaW.PrintMore Go.Proofs.Ytefnpalkkhhkfaa.K Go.Proofs.Ytefnpalkkhhkfaa.IX
set_option linter.unusedVariables false
set_option linter.unusedSimpArgs false
def flX (e : S83) : List Value := [.int .i64 e.f0.f0, .int .i64 e.f0.f1, .int .i32 e.f1, .bool e.f2]
theorem flX_len (x : S83) : (flX x).length = k83.sz := rfl
theorem ownsX {w : World} {base : Nat} {ok : Nat → Prop} {v : Value} {xs : List S83} (h : Kd.R k83 83 w base ok v xs) : w.ownsRow base 83 4 v xs.length (xs.flatMap flX) :=
  owns_of_R (d := k83) flX_len (fun h => k83_openM h) h
theorem RX {w : World} {base : Nat} {v : Value} {xs : List S83} (h : w.ownsRow base 83 4 v xs.length (xs.flatMap flX)) : Kd.R k83 83 w base (fun _ => True) v xs :=
  R_of_owns (d := k83) (fl := flX) flX_len (fun _ _ _ _ => k83_mkM _ _ _ _) (fun _ _ => trivial) h
theorem flX_one (xs : List S83) : ∀ v ∈ xs.flatMap flX, v.oneCell' = true := by
  intro v hv
  obtain ⟨e, _, he⟩ := List.mem_flatMap.1 hv
  simp [flX] at he
  rcases he with rfl | rfl | rfl | rfl <;> rfl
theorem insX_flat (xs : List S83) (i : Nat) (e : S83) : (xs.flatMap flX).take (i * 4) ++ flX e ++ (xs.flatMap flX).drop (i * 4) = (xs.take i ++ [e] ++ xs.drop i).flatMap flX := by
  rw [flat_take (sz := 4) (fun _ => rfl), flat_drop (sz := 4) (fun _ => rfl), List.flatMap_append, List.flatMap_append, List.flatMap_cons, List.flatMap_nil, List.append_nil]
theorem insX_row (w : World) (lv : Value) (l : List S83) (n vb : Nat) (e : S83) (h : Rw k83 83 w lv l) (hn : n ≤ l.length) (hv : w.heap[vb]? = some (.cells #[.int .i64 e.f0.f0, .int .i64 e.f0.f1, .int .i32 e.f1, .bool e.f2] 83 (0, 0))) (hne : lv.ownBlock ≠ some vb) (hl : l.length ≤ 1000000) :
    Calls Try.prog 57 #[lv, .int .i64 (n : Int), .slice (some ⟨vb, 0, none⟩) 1 1] w fun e' w' => ∃ v', e' = .returned v' ∧ Rw k83 83 w' v' (l.take n ++ [e] ++ l.drop n) ∧ w.grownBy w' lv.ownBlock ∧ ∀ k ∈ ob v', k ∈ ob lv ∨ w.heap.size ≤ k := by
  refine (insX_calls w True lv l.length n vb (l.flatMap flX) (flX e) (srow_of_owns (ownsX h)) hn hv hne rfl (by intro v hv; simp [flX] at hv; rcases hv with rfl | rfl | rfl | rfl <;> rfl) (flX_one l) (by omega)).mono ?_
  rintro e' w' ⟨v', rfl, hI⟩
  rw [insX_flat] at hI
  have hlen : (l.take n ++ [e] ++ l.drop n).length = l.length + 1 := by simp; omega
  have ho := owns_of_srow (base := 0) hI.1 (fun _ _ => Nat.zero_le _)
  rw [← hlen] at ho
  refine ⟨v', rfl, Rw.of rfl (RX ho), hI.2.1, fun k hk => ?_⟩
  have hk2 := mem_ob.1 hk
  rcases hI.2.2.1 with q | ⟨b, q, hb⟩
  · exact .inl (mem_ob.2 (hk2.trans q))
  · rw [q] at hk2
    injection hk2 with hk2
    exact .inr (by omega)
theorem Ix.typed {w : World} {F : List Nat} {p : Nat} {ms : List Bool} (h : Ix w F p ms) : ∀ k ∈ F, ∃ cs t, w.heap[k]? = some (.cells cs t (0, 0)) ∧ (t = 79 ∨ t = 97 ∨ t = 99 ∨ t = 4) := by
  obtain ⟨lv, L, h1, rfl, rfl, h4⟩ := h
  intro k hk
  simp only [fpI, List.mem_cons, List.mem_append] at hk
  rcases hk with rfl | hk | hk
  · exact ⟨_, _, h1.head, .inl rfl⟩
  · obtain ⟨_, cs, hcs⟩ := h1.row.ob_lt k hk
    exact ⟨cs, _, hcs, .inr (.inl rfl)⟩
  · obtain ⟨cs, t, hcs, ht⟩ := h1.typed k hk
    exact ⟨cs, t, hcs, by rcases ht with ht | ht <;> simp [ht]⟩
/-- The blocks of a text's parts lie apart. -/
structure Apart (p mb : Nat) (lv ov vv : Value) (FI : List Nat) : Prop where
  pm : p ≠ mb
  pl : p ∉ ob lv
  po : p ∉ ob ov
  pv : p ∉ ob vv
  pi : p ∉ FI
  ml : mb ∉ ob lv
  mo : mb ∉ ob ov
  mv : mb ∉ ob vv
  mi : mb ∉ FI
  lo : ∀ k ∈ ob lv, k ∉ ob ov
  lw : ∀ k ∈ ob lv, k ∉ ob vv
  li : ∀ k ∈ ob lv, k ∉ FI
  ow : ∀ k ∈ ob ov, k ∉ ob vv
  oi : ∀ k ∈ ob ov, k ∉ FI
  vi : ∀ k ∈ ob vv, k ∉ FI
theorem apart_of {w : World} {p mb x : Nat} {lv ov vv : Value} {FI : List Nat} {cs : Array Value} {l : List S83} {os : List S49} {vs : List S104} {ms : List Bool} {f : Int → Int} (h1 : w.heap[p]? = some (.cells cs 74 (0, 0))) (h2 : Rw k83 83 w lv l) (h3 : Ix w FI x ms) (h4 : Rw k49 49 w ov os) (h5 : Rw k104 104 w vv vs) (h6 : IM w mb f) : Apart p mb lv ov vv FI := by
  have ne : ∀ {k j : Nat} {ca cb : Array Value} {ta tb : Nat}, w.heap[k]? = some (.cells ca ta (0, 0)) → w.heap[j]? = some (.cells cb tb (0, 0)) → ta ≠ tb → k ≠ j := fun a b c => heap_types a b c
  have i6 : ∀ {k : Nat} {ca : Array Value} {ta : Nat}, w.heap[k]? = some (.cells ca ta (0, 0)) → mb ≠ k := fun a => h6.ne a
  refine ⟨fun e => i6 h1 e.symm, fun hm => ?_, fun hm => ?_, fun hm => ?_, fun hm => ?_, fun hm => ?_, fun hm => ?_, fun hm => ?_, fun hm => ?_, fun k hk hm => ?_, fun k hk hm => ?_, fun k hk hm => ?_, fun k hk hm => ?_, fun k hk hm => ?_, fun k hk hm => ?_⟩
  · obtain ⟨c, hc⟩ := h2.typed _ hm; exact ne h1 hc (by decide) rfl
  · obtain ⟨c, hc⟩ := h4.typed _ hm; exact ne h1 hc (by decide) rfl
  · obtain ⟨c, hc⟩ := h5.typed _ hm; exact ne h1 hc (by decide) rfl
  · obtain ⟨c, t, hc, ht⟩ := h3.typed _ hm
    rcases ht with rfl | rfl | rfl | rfl <;> exact ne h1 hc (by decide) rfl
  · obtain ⟨c, hc⟩ := h2.typed _ hm; exact i6 hc rfl
  · obtain ⟨c, hc⟩ := h4.typed _ hm; exact i6 hc rfl
  · obtain ⟨c, hc⟩ := h5.typed _ hm; exact i6 hc rfl
  · obtain ⟨c, t, hc, _⟩ := h3.typed _ hm; exact i6 hc rfl
  · obtain ⟨c, hc⟩ := h2.typed _ hk; obtain ⟨d, hd⟩ := h4.typed _ hm; exact ne hc hd (by decide) rfl
  · obtain ⟨c, hc⟩ := h2.typed _ hk; obtain ⟨d, hd⟩ := h5.typed _ hm; exact ne hc hd (by decide) rfl
  · obtain ⟨c, hc⟩ := h2.typed _ hk; obtain ⟨d, t, hd, ht⟩ := h3.typed _ hm
    rcases ht with rfl | rfl | rfl | rfl <;> exact ne hc hd (by decide) rfl
  · obtain ⟨c, hc⟩ := h4.typed _ hk; obtain ⟨d, hd⟩ := h5.typed _ hm; exact ne hc hd (by decide) rfl
  · obtain ⟨c, hc⟩ := h4.typed _ hk; obtain ⟨d, t, hd, ht⟩ := h3.typed _ hm
    rcases ht with rfl | rfl | rfl | rfl <;> exact ne hc hd (by decide) rfl
  · obtain ⟨c, hc⟩ := h5.typed _ hk; obtain ⟨d, t, hd, ht⟩ := h3.typed _ hm
    rcases ht with rfl | rfl | rfl | rfl <;> exact ne hc hd (by decide) rfl
end Go.Proofs.Ytefnpalkkhhkfaa.PC
namespace Go.Proofs.Ytefnpalkkhhkfaa.PC
open Go.RowKit Go.Proofs.YtefnpalkkhhkfaaW.PrintWords Go.Proofs.YtefnpalkkhhkfaaW.PrintLast Go.Proofs.YtefnpalkkhhkfaaW.PrintMore Go.Proofs.Ytefnpalkkhhkfaa.K Go.Proofs.Ytefnpalkkhhkfaa.IX
set_option linter.unusedVariables false
set_option linter.unusedSimpArgs false
def insT (l : List S83) (n : Nat) (o : S49) : List S83 := l.take n ++ [elOf o] ++ l.drop n
def skT (l : List S83) (n : Nat) (o : S49) : Nat := n + skipS o.f0 (l.drop n)
theorem skT_go (l : List S83) (i : Nat) (o : S49) (h : i < l.length) (hq : lessI o.f0 l[i].f0 = true) : skT l i o = skT l (i + 1) o := by
  unfold skT
  rw [List.drop_eq_getElem_cons h]
  simp only [skipS, hq, if_true]
  omega
theorem skT_stop (l : List S83) (i : Nat) (o : S49) (h : i < l.length) (hq : lessI o.f0 l[i].f0 = false) : skT l i o = i := by
  unfold skT
  rw [List.drop_eq_getElem_cons h]
  simp only [skipS, hq, Bool.false_eq_true, if_false]
  omega
theorem skT_end (l : List S83) (i : Nat) (o : S49) (h : l.length ≤ i) : skT l i o = i := by
  unfold skT
  rw [List.drop_of_length_le h]
  simp [skipS]
theorem skT_le (l : List S83) (n : Nat) (o : S49) (h : n ≤ l.length) : n ≤ skT l n o ∧ skT l n o ≤ l.length := by
  unfold skT
  have := skipS_le o.f0 (l.drop n)
  rw [List.length_drop] at this
  omega
theorem insT_ms (l : List S83) (m : Nat) (o : S49) : (insT l m o).map (·.f2) = (l.map (·.f2)).take m ++ [true] ++ (l.map (·.f2)).drop m := by
  unfold insT
  simp [elOf, List.map_take, List.map_drop]
/-- What insert does to a text. -/
def InsertFin (w : World) (F : List Nat) (p : Nat) (T : TS) (m : Nat) (o : S49) (w' : World) : Prop :=
  ∃ F', Tx w' F' p { T with l := insT T.l m o } ∧ Fr F w w' ∧ ∀ k ∈ F', k ∈ F ∨ w.heap.size ≤ k
/-- The two calls that put an element in. -/
theorem insert_state {w W : World} {F : List Nat} {p : Nat} {T : TS} (h : Tx w F p T) (m : Nat) (o : S49) (hm : m ≤ T.l.length) (hl : T.l.length ≤ 500000) (hb : Below w.heap.size w W) :
    ∃ (lv : Value) (x : Nat) (ov vv : Value) (mb : Nat), w.heap[p]? = some (.cells #[lv, .pointer (some ⟨x, 0, none⟩), ov, vv, .map (some mb), .int .i64 T.top] 74 (0, 0)) ∧
      Calls Try.prog 57 #[lv, .int .i64 (m : Int), .slice (some ⟨W.heap.size, 0, none⟩) 1 1] (W.alloc (.cells #[.int .i64 o.f0.f0, .int .i64 o.f0.f1, .int .i32 o.f4, .bool true] 83)) fun e w3 => ∃ A' n' c', e = .returned (.slice A' n' c') ∧
        w3.heap[p]? = some (.cells #[lv, .pointer (some ⟨x, 0, none⟩), ov, vv, .map (some mb), .int .i64 T.top] 74 (0, 0)) ∧
        Calls Try.prog 58 #[.pointer (some ⟨x, 0, none⟩), .int .i64 (m : Int), .bool true] (w3.setCell ⟨p, 0, none⟩ (.slice A' n' c')) fun e w' => e = .returned (.bool true) ∧ InsertFin w F p T m o w' := by
  obtain ⟨lv, x, ov, vv, mb, FI, h1, h2, h3, h4, h5, h6, rfl⟩ := h
  have ha := apart_of h1 h2 h3 h4 h5 h6
  refine ⟨lv, x, ov, vv, mb, h1, ?_⟩
  obtain ⟨Wa, hWa⟩ : ∃ Wa, W.alloc (.cells #[.int .i64 o.f0.f0, .int .i64 o.f0.f1, .int .i32 o.f4, .bool true] 83) = Wa := ⟨_, rfl⟩
  have hba : Below w.heap.size w Wa := by rw [← hWa]; exact hb.alloc hb.size _
  have hsa : Wa.heap.size = W.heap.size + 1 := by rw [← hWa]; exact alloc_sz _ _
  have hnew : Wa.heap[W.heap.size]? = some (.cells #[.int .i64 o.f0.f0, .int .i64 o.f0.f1, .int .i32 o.f4, .bool true] 83 (0, 0)) := by rw [← hWa]; exact heap_new W _
  have hle := hb.size
  rw [hWa]
  have hlo : ∀ k ∈ ob lv, k < w.heap.size := h2.lt
  refine (insX_row Wa lv T.l m W.heap.size (elOf o) (h2.keep fun k hk => hba.block k (hlo k hk)) hm hnew (fun e => by have := hlo W.heap.size (mem_ob.2 e.symm); omega) (by omega)).mono ?_
  rintro e w3 ⟨v', rfl, r1, r2, r3⟩
  obtain ⟨A', c', rfl⟩ := Kd.R_slice r1
  have old : ∀ k, k < w.heap.size → k ∉ ob lv → w3.heap[k]? = w.heap[k]? := fun k hk hn => (r2.block k (by omega) (fun e => hn (mem_ob.2 e))).trans (hba.block k hk)
  have hps := lt_of h1
  have hp3 := (old p hps ha.pl).trans h1
  refine ⟨_, _, _, rfl, hp3, ?_⟩
  obtain ⟨v', hv'⟩ : ∃ v', Value.slice A' (T.l.take m ++ [elOf o] ++ T.l.drop m).length c' = v' := ⟨_, rfl⟩
  rw [hv'] at r1 r3 ⊢
  obtain ⟨Ws, hWs⟩ : ∃ Ws, w3.setCell ⟨p, 0, none⟩ v' = Ws := ⟨_, rfl⟩
  have hss : Ws.heap.size = w3.heap.size := by rw [← hWs]; simp [World.setCell]
  have far : ∀ k, k ≠ p → Ws.heap[k]? = w3.heap[k]? := fun k hk => by rw [← hWs]; exact heap_far _ _ _ hk
  have hpw : Ws.heap[p]? = some (.cells #[v', .pointer (some ⟨x, 0, none⟩), ov, vv, .map (some mb), .int .i64 T.top] 74 (0, 0)) := by rw [← hWs, heap_set _ _ _ _ hp3]; rfl
  have hge : w.heap.size ≤ Wa.heap.size := by omega
  have hg3 : Wa.heap.size ≤ w3.heap.size := r2.size
  have hix : Ix Ws FI x (T.l.map (·.f2)) := h3.keep fun k hk => (far k (fun e => ha.pi (e ▸ hk))).trans (old k (h3.lt k hk) (fun hm => ha.li k hm hk))
  rw [hWs]
  refine (ins_calls Ws FI x _ (m : Int) true hix (by rw [List.length_map]; omega)).mono ?_
  have hi : insS (T.l.map (·.f2)) (m : Int) true = (true, (insT T.l m o).map (·.f2)) := by
    unfold insS
    rw [if_pos ⟨by omega, by rw [List.length_map]; omega⟩, Int.toNat_natCast, insT_ms]
  rw [hi]
  rintro e w' ⟨rfl, F2, i1, i2, i3⟩
  have v3 : ∀ k ∈ ob v', k < w3.heap.size ∧ k ≠ p ∧ k ∉ FI ∧ (k ∈ ob lv ∨ w.heap.size ≤ k) := fun k hk => by
    refine ⟨r1.lt k hk, ?_, ?_, ?_⟩
    · rcases r3 k hk with q | q
      · exact fun e => ha.pl (e ▸ q)
      · omega
    · rcases r3 k hk with q | q
      · exact ha.li k q
      · exact fun hm => by have := h3.lt k hm; omega
    · rcases r3 k hk with q | q
      · exact .inl q
      · exact .inr (by omega)
  have oldw : ∀ k, k < w.heap.size → k ∉ ob lv → k ≠ p → k ∉ FI → w'.heap[k]? = w.heap[k]? := fun k hk n1 n2 n3 => ((i2.block k (by omega) n3).trans (far k n2)).trans (old k hk n1)
  refine ⟨rfl, p :: mb :: (ob v' ++ (F2 ++ (ob ov ++ ob vv))), ⟨v', x, ov, vv, mb, F2, ?_, ?_, i1, ?_, ?_, ?_, rfl⟩, ?_, ?_⟩
  · rw [i2.block p (by omega) ha.pi]
    exact hpw
  · refine r1.keep fun k hk => ?_
    obtain ⟨q1, q2, q3, _⟩ := v3 k hk
    exact (i2.block k (by omega) q3).trans (far k q2)
  · exact h4.keep fun k hk => oldw k (h4.lt k hk) (fun hm => ha.lo k hm hk) (fun e => ha.po (e ▸ hk)) (ha.oi k hk)
  · exact h5.keep fun k hk => oldw k (h5.lt k hk) (fun hm => ha.lw k hm hk) (fun e => ha.pv (e ▸ hk)) (ha.vi k hk)
  · exact h6.keep (oldw mb h6.lt ha.ml (fun e => ha.pm e.symm) ha.mi)
  · have same : ∀ (G : List Nat) (n : Nat), ∀ y ∈ G, y ∈ G ∨ n ≤ y := fun _ _ _ h => .inl h
    have f1 : Fr (p :: mb :: (ob lv ++ (FI ++ (ob ov ++ ob vv)))) w w3 := (Fr.of_below hba).trans (Fr.of_grown (F := p :: mb :: (ob lv ++ (FI ++ (ob ov ++ ob vv)))) r2 fun g hg => by
      have : g ∈ ob lv := mem_ob.2 hg.symm
      simp [this]) (same _ _)
    have f2 : Fr (p :: mb :: (ob lv ++ (FI ++ (ob ov ++ ob vv)))) w Ws := f1.trans (by rw [← hWs]; exact Fr.of_set (F := p :: mb :: (ob lv ++ (FI ++ (ob ov ++ ob vv)))) w3 ⟨p, 0, none⟩ v' (by simp)) (same _ _)
    exact f2.trans i2 fun y hy => .inl (by simp [hy])
  · intro k hk
    simp only [List.mem_cons, List.mem_append] at hk ⊢
    rcases hk with rfl | rfl | hk | hk | hk | hk
    · exact .inl (.inl rfl)
    · exact .inl (.inr (.inl rfl))
    · rcases (v3 k hk).2.2.2 with q | q
      · exact .inl (.inr (.inr (.inl q)))
      · exact .inr q
    · rcases i3 k hk with q | q
      · exact .inl (.inr (.inr (.inr (.inl q))))
      · exact .inr (by omega)
    · exact .inl (.inr (.inr (.inr (.inr (.inl hk)))))
    · exact .inl (.inr (.inr (.inr (.inr (.inr hk)))))
end Go.Proofs.Ytefnpalkkhhkfaa.PC
namespace Go.Proofs.Ytefnpalkkhhkfaa.PC
open Go.RowKit Go.Proofs.YtefnpalkkhhkfaaW.PrintWords Go.Proofs.YtefnpalkkhhkfaaW.PrintLast Go.Proofs.YtefnpalkkhhkfaaW.PrintMore Go.Proofs.Ytefnpalkkhhkfaa.K Go.Proofs.Ytefnpalkkhhkfaa.IX
attribute [local go_sem] max2_int min2_int max_two min_two max_three min_three max_four min_four
attribute [local go_sem high] eqA24
set_option linter.unusedVariables false
set_option linter.unusedSimpArgs false
/-- What insert does to a text. -/
def InsertPost (w : World) (F : List Nat) (p : Nat) (T : TS) (n : Nat) (o : S49) (e : Ending) (w' : World) : Prop :=
  e = .returned (.tuple #[]) ∧ InsertFin w F p T (skT T.l n o) o w'
set_option maxHeartbeats 4000000 in
set_option maxRecDepth 100000 in
theorem insert_calls (w : World) (F : List Nat) (p : Nat) (T : TS) (n : Nat) (o : S49) (h : Tx w F p T) (hn : n ≤ T.l.length) (hl : T.l.length ≤ 500000) :
    Calls Try.prog 39 #[.pointer (some ⟨p, 0, none⟩), .int .i64 (n : Int), opV o] w (InsertPost w F p T n o) := by
  obtain ⟨A1, c1, x, A2, c2, A3, c3, mb, FI, h0, h1, h2, h3, h4, h5, ⟨hc, hr⟩, _⟩ := h.read
  have HT := Lib.hid h
  have HR := Lib.hid hr
  have hp := World.block_lt_of_cell? w _ h0
  have hp1 := World.block_lt_of_cell? w _ h1
  obtain ⟨⟨o0, o1⟩, o2, o3, ⟨o4, o5⟩, o6⟩ := o
  have hbw : Below w.heap.size w (w.alloc (.cells #[.int .i64 o0, .int .i64 o1, .int .i64 o2, .bool o3, .int .i64 o4, .int .i64 o5, .int .i32 o6] 49)) := (Below.refl _ w).alloc (Nat.le_refl _) _
  have g0 := (cell_of (heap_new w (.cells #[.int .i64 o0, .int .i64 o1, .int .i64 o2, .bool o3, .int .i64 o4, .int .i64 o5, .int .i32 o6] 49)) 0).trans rfl
  obtain ⟨W1, hW1⟩ : ∃ W1, w.alloc (.cells #[.int .i64 o0, .int .i64 o1, .int .i64 o2, .bool o3, .int .i64 o4, .int .i64 o5, .int .i32 o6] 49) = W1 := ⟨_, rfl⟩
  have hnew : W1.heap[w.heap.size]? = some (.cells #[.int .i64 o0, .int .i64 o1, .int .i64 o2, .bool o3, .int .i64 o4, .int .i64 o5, .int .i32 o6] 49 (0, 0)) := by rw [← hW1]; exact heap_new w _
  rw [hW1] at hbw
  have hbl : w.heap.size < W1.heap.size := lt_of hnew
  have same : ∀ W, Below W1.heap.size W1 W → Below w.heap.size w W := fun W hb => below_step hbw hb
  have cells : ∀ W, Below W1.heap.size W1 W → W.cell? ⟨p, 0, none⟩ = some (.slice A1 T.l.length c1) ∧ W.cell? ⟨w.heap.size, 0, none⟩ = some (.int .i64 o0) ∧ W.cell? ⟨w.heap.size, 1, none⟩ = some (.int .i64 o1) ∧ W.cell? ⟨w.heap.size, 6, none⟩ = some (.int .i32 o6) := fun W hb =>
    ⟨((same W hb).cell hp).trans h0, (hb.cell hbl).trans ((cell_of hnew 0).trans rfl), (hb.cell hbl).trans ((cell_of hnew 1).trans rfl), (hb.cell hbl).trans ((cell_of hnew 6).trans rfl)⟩
  have els : ∀ W, Below W1.heap.size W1 W → ∀ i (hi : i < T.l.length), ∃ ad, A1 = some ad ∧ W.cell? (ad.add (i * 4)) = some (.int .i64 T.l[i].f0.f0) ∧ W.cell? ⟨(ad.add (i * 4)).block, (ad.add (i * 4)).off + 1, none⟩ = some (.int .i64 T.l[i].f0.f1) := fun W hb i hi => by
    obtain ⟨ad, e, c0, c1, _⟩ := cell_el HR.out (same W hb) i hi
    exact ⟨ad, e, c0, c1⟩
  have HSAME := Lib.hid same
  have HCELLS := Lib.hid cells
  have HELS := Lib.hid els
  have HW1 := Lib.hid hW1
  have K1 := Lib.hid (fun (e : S83) w2 => less_is ⟨o0, o1⟩ e.f0 w2)
  obtain ⟨len, hlen⟩ : ∃ len, T.l.length = len := ⟨_, rfl⟩
  rw [hlen] at h0 hc hn hl
  have H0 := Lib.hid h0
  have HLEN := Lib.hid hlen
  have HNB := Lib.hid hn
  clear h hr hp hp1 h1 h2 h3 h4 h5 h0 g0 hnew hbl hbw same cells els hlen
  unfold opV
  go_enter Try.func39, Try.ntmps39
  go_wp2
  clear hW1
  go_loopw [1] (fun v1 w' => ∃ i : Nat, v1 = .int .i64 (i : Int) ∧ i ≤ len ∧ Aside0 (n ≤ i ∧ skT T.l i ⟨⟨o0, o1⟩, o2, o3, ⟨o4, o5⟩, o6⟩ = skT T.l n ⟨⟨o0, o1⟩, o2, o3, ⟨o4, o5⟩, o6⟩ ∧ Below W1.heap.size W1 w')) (fun v1 _ => len - (intOf v1).toNat)
  case atStart => exact ⟨n, rfl, hn, Nat.le_refl _, rfl, Below.refl _ _⟩
  case round =>
    obtain ⟨i, rfl, hi, HI⟩ := hrel
    by_cases hlt : i < len
    · obtain ⟨ad, eA, e0, e1⟩ := HELS.out wr HI.out.2.2 i (by rw [HLEN.out]; exact hlt)
      subst eA
      have hskg := skT_go T.l i ⟨⟨o0, o1⟩, o2, o3, ⟨o4, o5⟩, o6⟩ (by rw [HLEN.out]; exact hlt)
      have hsks := skT_stop T.l i ⟨⟨o0, o1⟩, o2, o3, ⟨o4, o5⟩, o6⟩ (by rw [HLEN.out]; exact hlt)
      obtain ⟨e, he⟩ : ∃ e, T.l[i]'(by rw [HLEN.out]; exact hlt) = e := ⟨_, rfl⟩
      rw [he] at e0 e1 hskg hsks
      have hp0 := (HCELLS.out wr HI.out.2.2).1
      rw [HLEN.out] at hp0
      have HS : Aside0 (∀ W, Below wr.heap.size wr W → W.cell? ⟨p, 0, none⟩ = some (.slice (some ad) len c1) ∧ W.cell? ⟨w.heap.size, 0, none⟩ = some (.int .i64 o0) ∧ W.cell? ⟨w.heap.size, 1, none⟩ = some (.int .i64 o1) ∧ W.cell? (ad.add (i * 4)) = some (.int .i64 e.f0.f0) ∧ W.cell? ⟨(ad.add (i * 4)).block, (ad.add (i * 4)).off + 1, none⟩ = some (.int .i64 e.f0.f1)) :=
        ⟨fun W hb => ⟨(hb.cell (World.block_lt_of_cell? wr _ hp0)).trans hp0, (HCELLS.out W (below_step HI.out.2.2 hb)).2.1, (HCELLS.out W (below_step HI.out.2.2 hb)).2.2.1, (hb.cell (World.block_lt_of_cell? wr _ e0)).trans e0, (hb.cell (World.block_lt_of_cell? wr _ e1)).trans e1⟩⟩
      have HB0 := Lib.hid (show Below wr.heap.size wr wr.drew from (Below.refl _ wr).drew)
      obtain ⟨r, hr⟩ : ∃ r, lessI ⟨o0, o1⟩ e.f0 = r := ⟨_, rfl⟩
      have K2 := Lib.hid (fun w2 => K1.out e w2)
      rw [hr] at K2
      have hd : decide ((i : Int) < (len : Int)) = true := by simpa using hlt
      cases r with
      | true =>
        have HSK := Lib.hid (hskg hr)
        clear hskg hsks he hr
        go_wp2
        go_region_held3 (fun W => W.cell? ⟨p, 0, none⟩ = some (.slice (some ad) len c1) ∧ W.cell? ⟨w.heap.size, 0, none⟩ = some (.int .i64 o0) ∧ W.cell? ⟨w.heap.size, 1, none⟩ = some (.int .i64 o1) ∧ W.cell? (ad.add (i * 4)) = some (.int .i64 e.f0.f0) ∧ W.cell? ⟨(ad.add (i * 4)).block, (ad.add (i * 4)).off + 1, none⟩ = some (.int .i64 e.f0.f1)) ((first | exact HS.out _ HB0.out | exact HS.out _ HB2.out)) (first
          | (go_at_call 56; refine (K2.out _).mono ?_; rintro e' w4 ⟨rfl, hb⟩; have HB2 := Lib.hid (below_step HB0.out hb); clear hb))
        go_wp2
        go_roundw
        case rel => exact ⟨i + 1, by go_num, by omega, ⟨by have := HI.out.1; omega, HSK.out.symm.trans HI.out.2.1, below_step HI.out.2.2 HB2.out⟩⟩
        case measure => simp [intOf]; omega
      | false =>
        have HSK := Lib.hid (hsks hr)
        clear hskg hsks he hr
        go_wp2
        go_region_held3 (fun W => W.cell? ⟨p, 0, none⟩ = some (.slice (some ad) len c1) ∧ W.cell? ⟨w.heap.size, 0, none⟩ = some (.int .i64 o0) ∧ W.cell? ⟨w.heap.size, 1, none⟩ = some (.int .i64 o1) ∧ W.cell? (ad.add (i * 4)) = some (.int .i64 e.f0.f0) ∧ W.cell? ⟨(ad.add (i * 4)).block, (ad.add (i * 4)).off + 1, none⟩ = some (.int .i64 e.f0.f1)) ((first | exact HS.out _ HB0.out | exact HS.out _ HB2.out)) (first
          | (go_at_call 56; refine (K2.out _).mono ?_; rintro e' w4 ⟨rfl, hb⟩; have HB2 := Lib.hid (below_step HB0.out hb); clear hb))
        have HBW := Lib.hid (below_step HI.out.2.2 HB2.out)
        obtain ⟨lv, x', ov, vv, mb', hp1, hK⟩ := insert_state (W := w4.drew) HT.out i ⟨⟨o0, o1⟩, o2, o3, ⟨o4, o5⟩, o6⟩ (by rw [HLEN.out]; exact hi) (by rw [HLEN.out]; exact hl) (HSAME.out _ HBW.out.drew)
        have elv : lv = .slice (some ad) len c1 := by
          have e1 := (cell_of hp1 0).trans (show _ = some lv from rfl)
          have e2 := H0.out
          rw [e1] at e2
          injection e2
        subst elv
        have KIN := Lib.hid (show Calls Try.prog 57 #[.slice (some ad) len c1, .int .i64 (i : Int), .slice (some ⟨w4.heap.size, 0, none⟩) 1 1] ((w4.alloc (.cells #[.int .i64 o0, .int .i64 o1, .int .i32 o6, .bool true] 83)).drew) _ from hK)
        have HPW := Lib.hid (((HSAME.out _ HBW.out).block p (lt_of hp1)).trans hp1)
        have HCW := Lib.hid (HCELLS.out _ HBW.out)
        have HSKF := Lib.hid (show skT T.l n ⟨⟨o0, o1⟩, o2, o3, ⟨o4, o5⟩, o6⟩ = i from HI.out.2.1.symm.trans HSK.out)
        clear hp1 hK
        obtain ⟨r0, r1, r2, r6⟩ := HCW.out
        rw [HLEN.out] at r0
        have ra0 : (w4.alloc (.cells #[.int .i64 o0, .int .i64 o1, .int .i32 o6, .bool true] 83)).cell? ⟨p, 0, none⟩ = some (.slice (some ad) len c1) := (((Below.refl _ w4).alloc (Nat.le_refl _) _).cell (World.block_lt_of_cell? w4 _ r0)).trans r0
        go_upto_region 3 with fail
        go_region_with ((go_at_call 57; with_reducible refine KIN.out.mono ?_; rintro e3 w3 ⟨A', n', c', rfl, hp3, hK3⟩; have K3 := Lib.hid hK3; have q0 : w3.cell? ⟨p, 0, none⟩ = some (.slice (some ad) len c1) := (cell_of hp3 0).trans rfl; have q1 : w3.cell? ⟨p, 1, none⟩ = some (.pointer (some ⟨x', 0, none⟩)) := (cell_of hp3 1).trans rfl; have qf := free_of hp3; clear hp3 hK3))
        all_goals
          go_wp2_with (go_at_call 58; with_reducible refine K3.out.mono ?_; rintro e4 w5 ⟨rfl, hfin⟩; have HFIN := Lib.hid hfin; clear hfin)
          go_end0
          exact ⟨rfl, by rw [HSKF.out]; exact HFIN.out⟩
    · obtain rfl : i = len := by omega
      have hp0 := (HCELLS.out wr HI.out.2.2).1
      rw [HLEN.out] at hp0
      have hd : decide ((i : Int) < (i : Int)) = false := by simp
      go_wp2
      go_quiet (fail)
      have HBW := Lib.hid (show Below W1.heap.size W1 (wr.drewN nq) from pw_below_drewN HI.out.2.2 nq)
      obtain ⟨w4, hw4⟩ : ∃ w4, wr.drewN nq = w4 := ⟨_, rfl⟩
      rw [hw4] at HBW ⊢
      clear hw4
      obtain ⟨lv, x', ov, vv, mb', hp1, hK⟩ := insert_state (W := w4.drew) HT.out i ⟨⟨o0, o1⟩, o2, o3, ⟨o4, o5⟩, o6⟩ (by rw [HLEN.out]; exact hi) (by rw [HLEN.out]; exact hl) (HSAME.out _ HBW.out.drew)
      have elv : lv = .slice A1 i c1 := by
        have e1 := (cell_of hp1 0).trans (show _ = some lv from rfl)
        have e2 := H0.out
        rw [e1] at e2
        injection e2
      subst elv
      have KIN := Lib.hid (show Calls Try.prog 57 #[.slice A1 i c1, .int .i64 (i : Int), .slice (some ⟨w4.heap.size, 0, none⟩) 1 1] ((w4.alloc (.cells #[.int .i64 o0, .int .i64 o1, .int .i32 o6, .bool true] 83)).drew) _ from hK)
      have HPW := Lib.hid (((HSAME.out _ HBW.out).block p (lt_of hp1)).trans hp1)
      have HCW := Lib.hid (HCELLS.out _ HBW.out)
      have HSKF := Lib.hid (show skT T.l n ⟨⟨o0, o1⟩, o2, o3, ⟨o4, o5⟩, o6⟩ = i from HI.out.2.1.symm.trans (skT_end T.l i ⟨⟨o0, o1⟩, o2, o3, ⟨o4, o5⟩, o6⟩ (by rw [HLEN.out]; exact Nat.le_refl _)))
      clear hp1 hK
      obtain ⟨r0, r1, r2, r6⟩ := HCW.out
      rw [HLEN.out] at r0
      have ra0 : (w4.alloc (.cells #[.int .i64 o0, .int .i64 o1, .int .i32 o6, .bool true] 83)).cell? ⟨p, 0, none⟩ = some (.slice A1 i c1) := (((Below.refl _ w4).alloc (Nat.le_refl _) _).cell (World.block_lt_of_cell? w4 _ r0)).trans r0
      go_upto_region 3 with fail
      go_region_with ((go_at_call 57; with_reducible refine KIN.out.mono ?_; rintro e3 w3 ⟨A', n', c', rfl, hp3, hK3⟩; have K3 := Lib.hid hK3; have q0 : w3.cell? ⟨p, 0, none⟩ = some (.slice A1 i c1) := (cell_of hp3 0).trans rfl; have q1 : w3.cell? ⟨p, 1, none⟩ = some (.pointer (some ⟨x', 0, none⟩)) := (cell_of hp3 1).trans rfl; have qf := free_of hp3; clear hp3 hK3))
      all_goals
        go_wp2_with (go_at_call 58; with_reducible refine K3.out.mono ?_; rintro e4 w5 ⟨rfl, hfin⟩; have HFIN := Lib.hid hfin; clear hfin)
        go_end0
        exact ⟨rfl, by rw [HSKF.out]; exact HFIN.out⟩
end Go.Proofs.Ytefnpalkkhhkfaa.PC
namespace Go.Proofs.Ytefnpalkkhhkfaa.PC
open Go.RowKit Go.Proofs.YtefnpalkkhhkfaaW.PrintWords Go.Proofs.YtefnpalkkhhkfaaW.PrintLast Go.Proofs.YtefnpalkkhhkfaaW.PrintMore Go.Proofs.Ytefnpalkkhhkfaa.K Go.Proofs.Ytefnpalkkhhkfaa.IX
attribute [local go_sem] max2_int min2_int max_two min_two max_three min_three max_four min_four
attribute [local go_sem high] eqA24
set_option linter.unusedVariables false
set_option linter.unusedSimpArgs false
def aheadS (l : List S83) (x : S24) : Int := rankS (l.map (·.f2)) (placeS l x)
set_option maxHeartbeats 4000000 in
set_option maxRecDepth 100000 in
theorem ahead_calls (w : World) (F : List Nat) (p : Nat) (T : TS) (x : S24) (h : Tx w F p T) (hl : T.l.length ≤ 500000) : Calls Try.prog 30 #[.pointer (some ⟨p, 0, none⟩), .agg #[.int .i64 x.f0, .int .i64 x.f1]] w fun e w' => e = .returned (.int .i64 (aheadS T.l x)) ∧ Below w.heap.size w w' := by
  obtain ⟨x0, x1⟩ := x
  obtain ⟨W1, hW1⟩ : ∃ W1, (w.alloc (.cells #[.int .i64 x0, .int .i64 x1] 24)).drew = W1 := ⟨_, rfl⟩
  have hb : Below w.heap.size w W1 := by rw [← hW1]; exact ((Below.refl _ w).alloc (Nat.le_refl _) _).drew
  have hnew : W1.heap[w.heap.size]? = some (.cells #[.int .i64 x0, .int .i64 x1] 24 (0, 0)) := by rw [← hW1]; exact heap_new w _
  have K1 := Lib.hid (tplace_calls W1 F p T ⟨x0, x1⟩ (h.below hb) (by omega))
  obtain ⟨A1, c1, xi, A2, c2, A3, c3, mb, FI, h0, h1, h2, h3, h4, h5, _, hx, _⟩ := h.read
  unfold aheadS
  have HX := Lib.hid (fun W (hb : Below w.heap.size w W) a => rank_calls W FI xi _ a (hx.below hb) (by rw [List.length_map]; omega))
  generalize placeS T.l ⟨x0, x1⟩ = r at *
  obtain ⟨rr, hrr⟩ : ∃ rr, rankS (T.l.map (·.f2)) r = rr := ⟨_, rfl⟩
  have HX2 := Lib.hid (fun W (hb : Below w.heap.size w W) => (hrr ▸ HX.out W hb r : Calls Try.prog 48 #[.pointer (some ⟨xi, 0, none⟩), .int .i64 r] W fun e w' => e = .returned (.int .i64 rr) ∧ ∃ n, w' = W.drewN n))
  rw [hrr]
  have HB := Lib.hid hb
  have HS : Aside0 (∀ W, Below W1.heap.size W1 W → W.cell? ⟨p, 1, none⟩ = some (.pointer (some ⟨xi, 0, none⟩)) ∧ W.cell? ⟨w.heap.size, 0, none⟩ = some (.int .i64 x0) ∧ W.cell? ⟨w.heap.size, 1, none⟩ = some (.int .i64 x1)) :=
    ⟨fun W hb2 => ⟨((below_step hb hb2).cell (World.block_lt_of_cell? w _ h1)).trans h1, (hb2.cell (lt_of hnew)).trans ((cell_of hnew 0).trans rfl), (hb2.cell (lt_of hnew)).trans ((cell_of hnew 1).trans rfl)⟩⟩
  have HB0 := Lib.hid (Below.refl W1.heap.size W1)
  have HW1 := Lib.hid hW1
  clear h hb hnew hx hrr h0 h1 h2 h3 h4 h5 hW1
  go_enter Try.func30, Try.ntmps30
  go_wp2
  go_region_held3 (fun W => W.cell? ⟨p, 1, none⟩ = some (.pointer (some ⟨xi, 0, none⟩)) ∧ W.cell? ⟨w.heap.size, 0, none⟩ = some (.int .i64 x0) ∧ W.cell? ⟨w.heap.size, 1, none⟩ = some (.int .i64 x1)) ((first | (rw [HW1.out]; exact HS.out _ HB0.out) | exact HS.out _ HB0.out | exact HS.out _ HB2.out | exact HS.out _ HB3.out)) (first
    | (go_at_call 38; rw [HW1.out]; refine K1.out.mono ?_; rintro e w' ⟨rfl, hb⟩; have HB2 := Lib.hid hb; clear hb)
    | (go_at_call 48; refine (HX2.out _ (below_step HB.out HB2.out)).mono ?_; rintro e w6 ⟨rfl, n6, hw6⟩; have HB3 := Lib.hid (show Below W1.heap.size W1 w6 from by rw [hw6]; exact pw_below_drewN HB2.out n6); clear hw6))
  go_wp2
  go_ret
  exact ⟨rfl, below_step HB.out HB3.out⟩
end Go.Proofs.Ytefnpalkkhhkfaa.PC
namespace Go.Proofs.Ytefnpalkkhhkfaa.PC
open Go.RowKit Go.Proofs.YtefnpalkkhhkfaaW.PrintWords Go.Proofs.YtefnpalkkhhkfaaW.PrintLast Go.Proofs.YtefnpalkkhhkfaaW.PrintMore Go.Proofs.Ytefnpalkkhhkfaa.K Go.Proofs.Ytefnpalkkhhkfaa.IX
attribute [local go_sem] max2_int min2_int max_two min_two max_three min_three max_four min_four
attribute [local go_sem high] eqA24
set_option linter.unusedVariables false
set_option linter.unusedSimpArgs false
def atS (l : List S83) (k : Int) : S24 × Bool := if (selS (l.map (·.f2)) k).2 = true then ((rd_T83 l (selS (l.map (·.f2)) k).1).f0, true) else (z24, false)
set_option maxHeartbeats 4000000 in
set_option maxRecDepth 100000 in
theorem at_calls (w : World) (F : List Nat) (p : Nat) (T : TS) (k : Int) (h : Tx w F p T) (hl : T.l.length ≤ 500000) : Calls Try.prog 23 #[.pointer (some ⟨p, 0, none⟩), .int .i64 k] w fun e w' => e = .returned (.tuple #[.agg #[.int .i64 (atS T.l k).1.f0, .int .i64 (atS T.l k).1.f1], .bool (atS T.l k).2]) ∧ Below w.heap.size w w' := by
  obtain ⟨A1, c1, xi, A2, c2, A3, c3, mb, FI, h0, h1, h2, h3, h4, h5, ⟨hc, hr⟩, hx, _⟩ := h.read
  have hb : Below w.heap.size w (w.alloc (.cells #[.int .i64 0, .int .i64 0] 24)) := (Below.refl _ w).alloc (Nat.le_refl _) _
  obtain ⟨i, b, hib⟩ : ∃ i b, selS (T.l.map (·.f2)) k = (i, b) := ⟨_, _, rfl⟩
  have K1 := select_calls (w.alloc (.cells #[.int .i64 0, .int .i64 0] 24)) FI xi _ k (hx.below hb) (by rw [List.length_map]; omega)
  have hat : atS T.l k = if b = true then ((rd_T83 T.l i).f0, true) else (z24, false) := by unfold atS; rw [hib]
  have hir : b = true → 0 ≤ i ∧ i < T.l.length := by
    intro hb2
    subst hb2
    unfold selS at hib
    split at hib
    · rename_i hk
      by_cases hkc : k.toNat < cn (T.l.map (·.f2))
      · obtain ⟨j, hj, hjl, _⟩ := sel_some _ _ hkc
        rw [hj] at hib
        rw [List.length_map] at hjl
        injection hib with hib _
        omega
      · rw [sel_none _ _ (by omega)] at hib
        injection hib with _ hib
        cases hib
    · injection hib with _ hib
      cases hib
  rw [hib] at K1
  rw [hat]
  have HK := Lib.hid K1
  have HB := Lib.hid hb
  have HR := Lib.hid hr
  have HP := Lib.hid (World.block_lt_of_cell? w _ h0)
  have H0 := Lib.hid h0
  have H1 := Lib.hid ((hb.cell (World.block_lt_of_cell? w _ h1)).trans h1)
  have q1 := H1.out
  generalize T.l = l at *
  clear h hb hr h0 h1 h2 h3 h4 h5 hx hat hib K1
  cases b with
  | true =>
    obtain ⟨hi0, hi1⟩ := hir rfl
    obtain ⟨n, rfl⟩ : ∃ n : Nat, i = n := ⟨i.toNat, by omega⟩
    have hn : n < l.length := by omega
    have hrd : rd_T83 l (n : Int) = l[n] := by unfold rd_T83; simp [hn]
    rw [if_pos rfl, hrd]
    have K2 := Lib.hid (fun wr (hb : Below w.heap.size w wr) => cell_el HR.out hb n hn)
    obtain ⟨e, he⟩ : ∃ e, l[n] = e := ⟨_, rfl⟩
    rw [he] at K2 ⊢
    clear hrd he hir hi0 hi1
    go_enter Try.func23, Try.ntmps23
    go_wp2_with (go_at_call 35; refine HK.out.mono ?_; rintro e9 w' ⟨rfl, n9, hw⟩; have hb9 : Below (w.alloc (.cells #[.int .i64 0, .int .i64 0] 24)).heap.size (w.alloc (.cells #[.int .i64 0, .int .i64 0] 24)) w' := (by rw [hw]; exact pw_below_drewN (Below.refl _ _) n9); have hb2 := below_step HB.out hb9; have HB2 := Lib.hid hb2; have hnb : w'.heap[w.heap.size]? = some (.cells #[.int .i64 0, .int .i64 0] 24 (0, 0)) := (by rw [hw]; exact heap_new w _); have HNB := Lib.hid hnb; have fz := free_of hnb; have v0 : w'.cell? ⟨w.heap.size, 0, none⟩ = some (.int .i64 0) := (cell_of hnb 0).trans rfl; have v1 : w'.cell? ⟨w.heap.size, 1, none⟩ = some (.int .i64 0) := (cell_of hnb 1).trans rfl; obtain ⟨ad, eA, e0, e1, e2, e3⟩ := K2.out w' hb2; subst eA; have hp0 := (hb2.cell HP.out).trans H0.out; clear hb2 hb9 hw hnb)
    refine bodyPost_ret (results_ct rfl _ _ w.heap.size 24 #[.int .i64 e.f0.f0, .int .i64 e.f0.f1] (0, 0) _ rfl ((heap_set _ w.heap.size 1 _ (heap_set w' w.heap.size 0 _ HNB.out)).trans rfl) Try.underlying24 rfl (by kernel_rfl)) rfl ⟨rfl, ?_⟩
    exact ((Fr.of_set (F := [w.heap.size]) w' ⟨w.heap.size, 0, none⟩ _ (by simp)).trans (Fr.of_set (F := [w.heap.size]) _ ⟨w.heap.size, 1, none⟩ _ (by simp)) (fun _ h => .inl h)).below HB2.out (by simp)
  | false =>
    rw [if_neg (by decide)]
    go_enter Try.func23, Try.ntmps23
    go_wp2_with (go_at_call 35; refine HK.out.mono ?_; rintro e9 w' ⟨rfl, n9, hw⟩; have hb9 : Below (w.alloc (.cells #[.int .i64 0, .int .i64 0] 24)).heap.size (w.alloc (.cells #[.int .i64 0, .int .i64 0] 24)) w' := (by rw [hw]; exact pw_below_drewN (Below.refl _ _) n9); have hb2 := below_step HB.out hb9; have HB2 := Lib.hid hb2; have hnb : w'.heap[w.heap.size]? = some (.cells #[.int .i64 0, .int .i64 0] 24 (0, 0)) := (by rw [hw]; exact heap_new w _); have HNB := Lib.hid hnb; have fz := free_of hnb; have v0 : w'.cell? ⟨w.heap.size, 0, none⟩ = some (.int .i64 0) := (cell_of hnb 0).trans rfl; have v1 : w'.cell? ⟨w.heap.size, 1, none⟩ = some (.int .i64 0) := (cell_of hnb 1).trans rfl; clear hb2 hb9 hw hnb)
    refine bodyPost_ret (results_ct rfl _ _ w.heap.size 24 #[.int .i64 0, .int .i64 0] (0, 0) _ rfl ((heap_set _ w.heap.size 1 _ (heap_set w' w.heap.size 0 _ HNB.out)).trans rfl) Try.underlying24 rfl (by kernel_rfl)) rfl ⟨rfl, ?_⟩
    exact ((Fr.of_set (F := [w.heap.size]) w' ⟨w.heap.size, 0, none⟩ _ (by simp)).trans (Fr.of_set (F := [w.heap.size]) _ ⟨w.heap.size, 1, none⟩ _ (by simp)) (fun _ h => .inl h)).below HB2.out (by simp)
end Go.Proofs.Ytefnpalkkhhkfaa.PC
