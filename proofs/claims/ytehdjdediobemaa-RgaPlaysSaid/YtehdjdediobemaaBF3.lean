/- A part of the proof of rgaFront_holds: its texts, one behind the other, as far as the proof stands on them. (Lines of its texts on the printed words and functions began as lines that a program of the kit had written for this statement.) -/
import Derived.ArgAppend
import Derived.Below
import Derived.BigQuiet
import Derived.BigRegion
import Derived.ChangeMaps4
import Derived.ChangeMaps5
import Derived.Deep.AppendLies
import Derived.Deep.CutBlock
import Derived.Deep.DeepCutAuto
import Derived.Deep.DrawnRows
import Derived.Deep.Draws
import Derived.Deep.LoopGhost
import Derived.Deep.OwnRows
import Derived.Deep.QuietTactic
import Derived.Deep.RegionHeld3
import Derived.Deep.RegionLaw
import Derived.Deep.RegionWith
import Derived.KernelRfl
import Derived.Laws.BitsLemmas
import Derived.Laws.BytesArg
import Derived.Laws.CopyRow
import Derived.Laws.Externs
import Derived.Laws.IdiomCopy
import Derived.Laws.MakeOwn
import Derived.Laws.NewBlocks
import Derived.Laws.OwnMore
import Derived.Laws.Rows
import Derived.Laws.Slices
import Derived.Laws.StructEq
import Derived.Lib.AppendStr
import Derived.Lib.AppendZerosOnto
import Derived.Lib.ConvBytes
import Derived.Lib.Hide
import Derived.Lib.JoinLaws
import Derived.Lib.Overlaps
import Derived.Lib.Walk
import Derived.MapKept
import Derived.Maps.AppendAt
import Derived.OrdersHeld
import Derived.OwnWalk
import Derived.RegionTactic
import Derived.RowKit
import Derived.RowKit3
import Derived.StillTailTactics
import Derived.Tactics
import Derived.Test.YtehdjdediobemaaProg
import Derived.WalkKit
import Derived.WalkSpells
import Derived.WideLaws
import Derived.Test.YtehdjdediobemaaBF2
namespace Go.Proofs.Ytehdjdediobemaa.K
open Go.RowKit Go.Proofs.YtehdjdediobemaaW.PrintWords Go.Proofs.YtehdjdediobemaaW.PrintLast Go.Proofs.YtehdjdediobemaaW.PrintMore
set_option linter.unusedVariables false
section
variable {α : Type} {fl : α → List Value} {sz : Nat} {R : α → List Value → Prop}
theorem flat_len (hl : ∀ x, (fl x).length = sz) (ps : List α) : (ps.flatMap fl).length = ps.length * sz := by
  induction ps with
  | nil => simp
  | cons p ps ih => rw [List.flatMap_cons, List.length_append, ih, hl, List.length_cons, Nat.add_mul]; omega
theorem flat_drop (hl : ∀ x, (fl x).length = sz) (ps : List α) (j : Nat) : (ps.flatMap fl).drop (j * sz) = (ps.drop j).flatMap fl := by
  induction ps generalizing j with
  | nil => simp
  | cons p ps ih =>
    cases j with
    | zero => simp
    | succ j => rw [List.drop_succ_cons, ← ih j, List.flatMap_cons, Nat.add_mul, Nat.one_mul, List.drop_append, List.drop_of_length_le (by rw [hl]; omega), hl, List.nil_append, Nat.add_sub_cancel]
theorem flat_take (hl : ∀ x, (fl x).length = sz) (ps : List α) (j : Nat) : (ps.flatMap fl).take (j * sz) = (ps.take j).flatMap fl := by
  induction ps generalizing j with
  | nil => simp
  | cons p ps ih =>
    cases j with
    | zero => simp
    | succ j => rw [List.take_succ_cons, List.flatMap_cons, List.flatMap_cons, ← ih j, Nat.add_mul, Nat.one_mul, List.take_append, List.take_of_length_le (by rw [hl]; omega), hl, Nat.add_sub_cancel]
theorem flat_reps (hl : ∀ x, (fl x).length = sz) (hR : ∀ x, R x (fl x)) (ps : List α) : Reps R sz ps (ps.flatMap fl) := by
  refine ⟨flat_len hl ps, fun j p hj => ?_⟩
  rw [flat_drop hl]
  obtain ⟨hlt, rfl⟩ := List.getElem?_eq_some_iff.1 hj
  rw [List.drop_eq_getElem_cons hlt, List.flatMap_cons, List.take_left' (hl _)]
  exact hR _
theorem reps_flat (hl : ∀ x, (fl x).length = sz) (hR : ∀ x c, R x c → c = fl x) : ∀ {ps : List α} {cs : List Value}, Reps R sz ps cs → cs = ps.flatMap fl := by
  intro ps
  induction ps with
  | nil => intro cs h; have := h.1; simp at this; simp [this]
  | cons p ps ih =>
    intro cs h
    have h0 := hR _ _ (h.2 0 p rfl)
    rw [Nat.zero_mul, List.drop_zero] at h0
    have ht : Reps R sz ps (cs.drop sz) := by
      refine ⟨by rw [List.length_drop, h.1, List.length_cons, Nat.add_mul]; omega, fun j q hj => ?_⟩
      have := h.2 (j + 1) q (by simpa using hj)
      rw [List.drop_drop, show sz + j * sz = (j + 1) * sz by rw [Nat.add_mul]; omega]
      exact this
    have := ih ht
    rw [List.flatMap_cons, ← this, ← h0, List.take_append_drop]
end
theorem owns_of_R {α : Type} {d : Kd α} {fl : α → List Value} {e : Nat} {w : World} {base : Nat} {ok : Nat → Prop} {v : Value} {xs : List α} (hl : ∀ x, (fl x).length = d.sz)
    (hM : ∀ {w base ok x cs}, d.M w base ok x cs → cs = fl x) (h : d.R e w base ok v xs) : w.ownsRow base e d.sz v xs.length (xs.flatMap fl) := by
  obtain ⟨_, inner, ho, hr⟩ := h
  rw [reps_flat hl (fun x c hx => hM hx) hr] at ho
  exact ho
theorem R_of_owns {α : Type} {d : Kd α} {fl : α → List Value} {e : Nat} {w : World} {base : Nat} {ok : Nat → Prop} {v : Value} {xs : List α} (hl : ∀ x, (fl x).length = d.sz)
    (hM : ∀ w base ok x, d.M w base ok x (fl x)) (hok : ∀ k, v.ownBlock = some k → ok k) (h : w.ownsRow base e d.sz v xs.length (xs.flatMap fl)) : d.R e w base ok v xs :=
  ⟨hok, _, h, flat_reps hl (fun x => hM _ _ _ x) xs⟩
end Go.Proofs.Ytehdjdediobemaa.K
namespace Go.Proofs.Ytehdjdediobemaa.PC
open Go.RowKit Go.Proofs.YtehdjdediobemaaW.PrintWords Go.Proofs.YtehdjdediobemaaW.PrintLast Go.Proofs.YtehdjdediobemaaW.PrintMore Go.Proofs.Ytehdjdediobemaa.K Go.Proofs.Ytehdjdediobemaa.IX
attribute [local go_sem] max2_int min2_int max_two min_two max_three min_three max_four min_four
set_option linter.unusedVariables false
set_option linter.unusedSimpArgs false
set_option maxHeartbeats 4000000 in
theorem cloneB_some (w : World) (a : Addr) (c : Nat) (xs : List Bool) (hr : Kd.C Kd.bool w (some a) xs.length xs) (hc : xs.length ≤ 140737488355328) :
    Calls Try.prog 90 #[.slice (some a) xs.length c] w fun e w' => ∃ v, e = .returned v ∧ Kd.R Kd.bool 4 w' w.heap.size (fun _ => True) v xs ∧ Below w.heap.size w w' := by
  have hn : ∀ (w : World) n c, (binOp .eql 100 (.slice (some a) n c) (.slice none 0 0)).run Try.prog w = .ok (.bool false) w := fun w n c => Lib.run_eql_slice_nil w 100 4 (some a) n c 0 0 Try.underlying100
  have HR := Aside0.mk hr
  have HC := Aside0.mk hc
  clear hr hc
  go_enter Try.func90, Try.ntmps90
  go_wp2_with (first
    | ((with_reducible refine gate_dst (N := 5) rfl ?_); refine Kd.R_lit Kd.bool _ 4 ?hg (N := 5) ?hd (xs := ([] : List Bool)) (inner := []) (ok := fun _ => True) (okp := fun _ => True) ?hr ?hp (fun _ hk => hk) trivial (Below.refl _ _) (Nat.le_refl _) (by simp) ?_; (case hd => rfl); (case hg => rfl); (case hr => first | (go_simp; done) | (go_simp; rfl)); (case hp => exact (Reps.none _ _)); intro v6 w6 ho6 hb hg_ hnew_; have HB6 := Aside0.mk hb; have HL6 := Aside0.mk ho6; clear hb hg_ hnew_ ho6)
    | ((with_reducible refine gate_builtin (b := .append) (xs := #[.tmp 5, .tmp 6]) rfl ?_); at_builtin; refine Kd.R_append_rows Kd.bool (w0 := w) w.heap.size rfl (.tmp 5) (.tmp 6) 100 4 (.bool false) 1 rfl Try.underlying100 info4 rfl (by decide) (by omega) v6 [] xs _ _ _ (fun _ => True) (fun _ => True ∧ False) rfl rfl ?aO ?aR (fun _ _ h => h) (fun _ h => h.2.elim) ?aF ?aB ?aS ?aL ?_; (case aR => exact Kd.C_below HR.out HB6.out); (case aB => exact HB6.out); (case aF => exact (fun _ _ => trivial)); (case aO => exact HL6.out); (case aS => exact below_size HB6.out); (case aL => have := HC.out; simp only [List.length_nil]; omega); intro v7 w7 ho7 hb hg hat; have HB7 := Aside0.mk hb; rw [List.nil_append] at ho7; have HL7 := Aside0.mk ho7; clear hb hg hat ho7))
  go_ret
  exact ⟨v7, rfl, HL7.out, HB7.out⟩
theorem srow_of_RB {w : World} {base : Nat} {ok : Nat → Prop} {v : Value} {xs : List Bool} (h : Kd.R Kd.bool 4 w base ok v xs) : SRow w 4 1 False v xs.length (xs.map Value.bool) ∧ ∀ g ∈ ob v, base ≤ g := by
  have ho := owns_of_R (d := Kd.bool) (fl := fun b => [Value.bool b]) (fun _ => rfl) (fun h => h) h
  have e : ∀ ys : List Bool, ys.flatMap (fun b => [Value.bool b]) = ys.map Value.bool := by intro ys; induction ys <;> simp_all
  rw [e] at ho
  refine ⟨srow_of_owns ho, fun g hg => ?_⟩
  rcases ho.2 with ⟨rfl, _⟩ | ⟨g', cap, cur, rfl, hb, _⟩
  · simp [ob, Value.ownBlock] at hg
  · simp [ob, Value.ownBlock] at hg
    omega
theorem clipB_calls (w : World) (g n c : Nat) (hn : n ≤ c) (hc : c ≤ maxLen) : Calls Try.prog 91 #[.slice (some ⟨g, 0, none⟩) n c] w fun e w' => e = .returned (.slice (some ⟨g, 0, none⟩) n n) ∧ w = w' := by
  unfold maxLen at hc
  go_enter Try.func91, Try.ntmps91
  go_wp2
  go_ret
  exact ⟨rfl, rfl⟩
end Go.Proofs.Ytehdjdediobemaa.PC
namespace Go.Proofs.Ytehdjdediobemaa.PC
open Go.RowKit Go.Proofs.YtehdjdediobemaaW.PrintWords Go.Proofs.YtehdjdediobemaaW.PrintLast Go.Proofs.YtehdjdediobemaaW.PrintMore Go.Proofs.Ytehdjdediobemaa.K Go.Proofs.Ytehdjdediobemaa.IX
attribute [local go_sem] max2_int min2_int max_two min_two max_three min_three max_four min_four
set_option linter.unusedVariables false
set_option linter.unusedSimpArgs false
/-- What split does. -/
def SplitPost (w : World) (p : Nat) (lv : Value) (L : List Blk) (e : Ending) (w' : World) : Prop :=
  e = .returned (.tuple #[]) ∧ ∃ lv' L', IxR w' p lv' L' ∧ marks L' = marks L ∧ L'.length = L.length + 1 ∧ Fr (fpI p lv L) w w' ∧ ∀ j ∈ fpI p lv' L', j ∈ fpI p lv L ∨ w.heap.size ≤ j
theorem marks_read {w : World} {x : Blk} {g2 c2 : Nat} (h : BlkR w x) (hv : x.v = .slice (some ⟨g2, 0, none⟩) x.ms.length c2) {j : Nat} {u : Bool} (hu : x.ms[j]? = some u) : w.cell? ⟨g2, j, none⟩ = some (.bool u) := by
  obtain ⟨g3, c3, e3, _, _, _, hm⟩ := h.mark hu
  have e := hv.symm.trans e3
  injection e with e1 _ _
  injection e1 with e1
  injection e1 with e1
  subst e1
  exact hm
/-- Clone of the marks from 24 on, told in the walk's own words. -/
def CloneP (w : World) (ms : List Bool) (m : Nat) (e : Ending) (w1 : World) : Prop :=
  ∃ g3 c3, e = .returned (.slice (some ⟨g3, 0, none⟩) m c3) ∧ m ≤ c3 ∧ Aside0 (SRow w1 4 1 False (.slice (some ⟨g3, 0, none⟩) m c3) m (ms.map Value.bool) ∧ w.heap.size ≤ g3 ∧ g3 < w1.heap.size ∧ Below w.heap.size w w1)
theorem clone_p (w : World) (x : Blk) (g2 c2 c' : Nat) (h : BlkR w x) (hv : x.v = .slice (some ⟨g2, 0, none⟩) x.ms.length c2) (h24 : 24 < x.ms.length) (hl : x.ms.length ≤ 1000001) :
    Calls Try.prog 90 #[.slice (some ⟨g2, 24, none⟩) (x.ms.length - 24) c'] w (CloneP w (x.ms.drop 24) (x.ms.length - 24)) := by
  have hlen : (x.ms.drop 24).length = x.ms.length - 24 := List.length_drop
  have hC : Kd.C Kd.bool w (some ⟨g2, 24, none⟩) (x.ms.drop 24).length (x.ms.drop 24) := by
    refine ⟨rfl, by omega, fun _ => ⟨_, rfl, fun j u hu => ⟨[.bool u], rfl, rfl, fun i v hv2 => ?_⟩⟩⟩
    rw [List.getElem?_drop] at hu
    have hm := marks_read h hv hu
    match i, hv2 with
    | 0, hv2 =>
      simp at hv2
      subst hv2
      rw [Addr.add_lit]
      show w.cell? ⟨g2, 24 + (j * 1 + 0), none⟩ = _
      rw [show 24 + (j * 1 + 0) = 24 + j by omega]
      exact hm
    | i + 1, hv2 => simp at hv2
  have hc := cloneB_some w ⟨g2, 24, none⟩ c' (x.ms.drop 24) hC (by omega)
  rw [hlen] at hc
  refine hc.mono ?_
  rintro e w1 ⟨v, rfl, hR, hb⟩
  obtain ⟨hS, hg⟩ := srow_of_RB hR
  rw [hlen] at hS
  rcases hS.2 with ⟨_, h0⟩ | ⟨g3, c3, cur, rfl, hh, hn, _⟩
  · omega
  · exact ⟨g3, c3, rfl, hn, ⟨hS, hg g3 (by simp [ob, Value.ownBlock]), lt_of hh, hb⟩⟩
theorem mem_fpI {p : Nat} {lv : Value} {pre post : List Blk} {x : Blk} {j : Nat} : j ∈ fpI p lv (pre ++ x :: post) ↔ j = p ∨ j ∈ ob lv ∨ j ∈ fpB pre ∨ j = x.b ∨ j ∈ ob x.v ∨ j ∈ fpB post := by
  unfold fpI
  rw [fpB_app, fpB_cons]
  simp only [List.mem_cons, List.mem_append]
theorem IxR.halve {w D : World} {p : Nat} {lv v' : Value} {pre post : List Blk} {x x1 x2 : Blk} (h : IxR w p lv (pre ++ x :: post)) (hb : x1.b = x.b) (hms : x1.ms ++ x2.ms = x.ms) (ho : ob x1.v = ob x.v)
    (hhead : D.heap[p]? = some (.cells #[.int .i64 ((marks (pre ++ x :: post)).length : Int), .int .i64 (cn (marks (pre ++ x :: post)) : Int), v'] 88 (0, 0)))
    (hrow : SRow D 99 1 False v' ((pre ++ x :: post).length + 1) ((pre ++ x1 :: x2 :: post).map ptrV)) (h1 : BlkR D x1) (h2 : BlkR D x2) (hn1 : w.heap.size ≤ x2.b) (hn2 : ∀ g ∈ ob x2.v, w.heap.size ≤ g ∧ g ≠ x2.b)
    (hkeep : ∀ k ∈ fpB pre ++ fpB post, D.heap[k]? = w.heap[k]?) : IxR D p v' (pre ++ x1 :: x2 :: post) ∧ marks (pre ++ x1 :: x2 :: post) = marks (pre ++ x :: post) := by
  have hm : marks (pre ++ x1 :: x2 :: post) = marks (pre ++ x :: post) := by
    rw [marks_app, marks_cons, marks_cons, marks_app, marks_cons, ← hms, List.append_assoc]
  have hlt := h.lt
  have hold : ∀ k, k ∈ fpB pre ∨ k = x.b ∨ k ∈ ob x.v ∨ k ∈ fpB post → k < w.heap.size := by
    intro k hk
    refine hlt k (mem_fpI.2 ?_)
    rcases hk with hk | hk | hk | hk <;> simp [hk]
  refine ⟨⟨by rw [hm]; exact hhead, by rw [show (pre ++ x1 :: x2 :: post).length = (pre ++ x :: post).length + 1 by simp; omega]; exact hrow, fun y hy => ?_, ?_, by simp⟩, hm⟩
  · have old : y ∈ pre ∨ y ∈ post → BlkR D y := by
      intro hy
      have hyb := h.blk y (by rcases hy with hy | hy <;> simp [hy])
      have hmem : ∀ k, (k = y.b ∨ k ∈ ob y.v) → k ∈ fpB pre ++ fpB post := by
        intro k hk
        simp only [List.mem_append, mem_fpB]
        rcases hy with hy | hy
        · exact .inl ⟨y, hy, hk⟩
        · exact .inr ⟨y, hy, hk⟩
      exact ⟨(hkeep y.b (hmem _ (.inl rfl))).trans hyb.1, hyb.2.keep fun g hg => hkeep g (hmem _ (.inr hg))⟩
    rcases List.mem_append.1 hy with hy | hy
    · exact old (.inl hy)
    · rcases List.mem_cons.1 hy with rfl | hy
      · exact h1
      · rcases List.mem_cons.1 hy with rfl | hy
        · exact h2
        · exact old (.inr hy)
  · have hn := h.nd
    rw [fpB_app, fpB_cons] at hn
    rw [fpB_app, fpB_cons, fpB_cons, hb, ho]
    obtain ⟨n1, n2, n3⟩ := List.nodup_append.1 hn
    rw [List.nodup_cons] at n2
    obtain ⟨n4, n5⟩ := n2
    obtain ⟨n6, n7, n8⟩ := List.nodup_append.1 n5
    have nx : ∀ k, k = x2.b ∨ k ∈ ob x2.v → w.heap.size ≤ k := by
      rintro k (rfl | hk)
      · exact hn1
      · exact (hn2 k hk).1
    refine List.nodup_append.2 ⟨n1, List.nodup_cons.2 ⟨fun hm => ?_, List.nodup_append.2 ⟨n6, List.nodup_cons.2 ⟨fun hm => ?_, List.nodup_append.2 ⟨ob_nodup _, n7, fun a ha b hb2 e => ?_⟩⟩, fun a ha b hb2 e => ?_⟩⟩, fun a ha b hb2 e => ?_⟩
    · rcases List.mem_append.1 hm with hm | hm
      · exact n4 (by simp [hm])
      · rcases List.mem_cons.1 hm with hm | hm
        · have := nx _ (.inl hm); have := hold x.b (.inr (.inl rfl)); omega
        · rcases List.mem_append.1 hm with hm | hm
          · have := nx _ (.inr hm); have := hold x.b (.inr (.inl rfl)); omega
          · exact n4 (by simp [hm])
    · rcases List.mem_append.1 hm with hm | hm
      · exact (hn2 _ hm).2 rfl
      · have := hold _ (.inr (.inr (.inr hm))); omega
    · subst e
      have := nx _ (.inr ha); have := hold _ (.inr (.inr (.inr hb2))); omega
    · subst e
      rcases List.mem_cons.1 hb2 with hb2 | hb2
      · have := nx _ (.inl hb2); have := hold _ (.inr (.inr (.inl ha))); omega
      · rcases List.mem_append.1 hb2 with hb2 | hb2
        · have := nx _ (.inr hb2); have := hold _ (.inr (.inr (.inl ha))); omega
        · exact n8 a ha a hb2 rfl
    · subst e
      rcases List.mem_cons.1 hb2 with hb2 | hb2
      · exact n3 _ ha _ (by simp) hb2
      · rcases List.mem_append.1 hb2 with hb2 | hb2
        · exact n3 _ ha _ (by simp [hb2]) rfl
        · rcases List.mem_cons.1 hb2 with hb2 | hb2
          · have := nx _ (.inl hb2); have := hold _ (.inl ha); omega
          · rcases List.mem_append.1 hb2 with hb2 | hb2
            · have := nx _ (.inr hb2); have := hold _ (.inl ha); omega
            · exact n3 _ ha _ (by simp [hb2]) rfl
/-- slices.Insert of a block, told in the walk's own words. -/
def PutP (W : World) (p hb xb i : Nat) (lv : Value) (LL : Nat) (pre post : List Blk) (x : Blk) (tot c : Int) (e : Ending) (w3 : World) : Prop :=
  ∃ (A' : Option Addr) (c' : Nat), e = .returned (.slice A' (LL + 1) c') ∧ Aside0 (Ins (W.alloc (.cells #[.pointer (some ⟨hb, 0, none⟩)] 99)) 99 1 False lv (LL + 1) (pre.map ptrV ++ [.pointer (some ⟨x.b, 0, none⟩), .pointer (some ⟨hb, 0, none⟩)] ++ post.map ptrV) (.slice A' (LL + 1) c') w3) ∧
    w3.heap[p]? = some (.cells #[.int .i64 tot, .int .i64 c, lv] 88 (0, 0)) ∧ Aside0 (W.heap[xb]? = w3.heap[xb]?)
theorem put_p (W : World) (p hb xb i LL g cap : Nat) (pre post : List Blk) (x : Blk) {tot c : Int} {cx : Array Value} (hrow : SRow W 99 1 False (.slice (some ⟨g, 0, none⟩) LL cap) LL ((pre ++ x :: post).map ptrV)) (hLL : (pre ++ x :: post).length = LL) (hi : pre.length = i) (hL : LL ≤ 2000000)
    (hp : W.heap[p]? = some (.cells #[.int .i64 tot, .int .i64 c, .slice (some ⟨g, 0, none⟩) LL cap] 88 (0, 0))) (hx : W.heap[xb]? = some (.cells cx 102 (0, 0))) :
    Calls Try.prog 92 #[.slice (some ⟨g, 0, none⟩) LL cap, .int .i64 ((i : Int) + 1), .slice (some ⟨W.heap.size, 0, none⟩) 1 1] (W.alloc (.cells #[.pointer (some ⟨hb, 0, none⟩)] 99)) (PutP W p hb xb i (.slice (some ⟨g, 0, none⟩) LL cap) LL pre post x tot c) := by
  have hob := hrow.ob_lt
  have hg : g < W.heap.size := (hob g (by simp [ob, Value.ownBlock])).1
  have hs : SRow (W.alloc (.cells #[.pointer (some ⟨hb, 0, none⟩)] 99)) 99 1 False (.slice (some ⟨g, 0, none⟩) LL cap) LL ((pre ++ x :: post).map ptrV) := hrow.keep fun k hk => heap_old _ _ (hob k hk).1
  have hpl : pre.length + 1 ≤ LL := by rw [← hLL]; simp
  have e0 : (i : Int) + 1 = ((i + 1 : Nat) : Int) := by simp
  rw [e0]
  refine (insP_calls _ False _ LL (i + 1) W.heap.size ((pre ++ x :: post).map ptrV) [.pointer (some ⟨hb, 0, none⟩)] hs (by omega) (by exact heap_new _ _) (by simp [Value.ownBlock]; omega) rfl (by simp [Value.oneCell']) (by intro v hv; obtain ⟨b, _, rfl⟩ := List.mem_map.1 hv; rfl) (by omega)).mono ?_
  rintro e w3 ⟨v', rfl, hI⟩
  have e1 : ((pre ++ x :: post).map ptrV).take (i + 1) ++ [.pointer (some ⟨hb, 0, none⟩)] ++ ((pre ++ x :: post).map ptrV).drop (i + 1) = pre.map ptrV ++ [.pointer (some ⟨x.b, 0, none⟩), .pointer (some ⟨hb, 0, none⟩)] ++ post.map ptrV := by
    subst hi
    have h1 : (pre ++ x :: post).map ptrV = (pre.map ptrV ++ [ptrV x]) ++ post.map ptrV := by simp
    have h2 : (pre.map ptrV ++ [ptrV x]).length = pre.length + 1 := by simp
    rw [h1, List.take_left' h2, List.drop_left' h2]
    simp [ptrV]
  rw [e1] at hI
  obtain ⟨A', c', rfl, _, _⟩ := hI.1.form
  have keep : ∀ b o, W.heap[b]? = some o → b ≠ g → w3.heap[b]? = W.heap[b]? := by
    intro b o hbo hbn
    have hlt := lt_of hbo
    rw [hI.2.1.block b (by rw [alloc_sz]; exact Nat.lt_succ_of_lt hlt) (by simp [Value.ownBlock]; omega)]
    exact heap_old _ _ hlt
  obtain ⟨_, cg, hcg⟩ := hob g (by simp [ob, Value.ownBlock])
  exact ⟨A', c', rfl, ⟨hI⟩, (keep p _ hp (heap_types hp hcg (by decide))).trans hp, ⟨(keep xb _ hx (heap_types hx hcg (by decide))).symm⟩⟩
set_option maxHeartbeats 4000000 in
set_option maxRecDepth 100000 in
theorem split_calls (w : World) (p : Nat) (lv : Value) (pre post : List Blk) (x : Blk) (hR : IxR w p lv (pre ++ x :: post)) (hx : 24 < x.ms.length) (hs : (marks (pre ++ x :: post)).length ≤ 1000001) (hL : (pre ++ x :: post).length ≤ 2000000) :
    Calls Try.prog 82 #[.pointer (some ⟨p, 0, none⟩), .int .i64 (pre.length : Int)] w (SplitPost w p lv (pre ++ x :: post)) := by
  obtain ⟨g, cap, rfl, hcap, h0, h1, k2, hrow⟩ := hR.head_cells
  obtain ⟨hxi, hb⟩ := found hR rfl
  have hm0 : ∃ u, x.ms[0]? = some u := ⟨x.ms[0], List.getElem?_eq_getElem (by omega)⟩
  obtain ⟨u0, hm0⟩ := hm0
  obtain ⟨g2, c2, hxv, hc2, kc0, kc1, _⟩ := hb.mark hm0
  have kptr := hrow _ _ hxi
  have hil : pre.length < (pre ++ x :: post).length := by simp
  have hxl : x.ms.length ≤ (marks (pre ++ x :: post)).length := by rw [marks_app, marks_cons]; simp; omega
  have hcl := fun c' => clone_p w x g2 c2 c' hb hxv hx (by omega)
  have hcs := cn_le x.ms
  have HR := Lib.hid hR
  have HXV := Lib.hid hxv
  have HB := Lib.hid hb
  have HCL := Lib.hid hcl
  have hc3 : ¬ c2 = 24 := by omega
  have hlen : (x.ms.drop 24).length = x.ms.length - 24 := List.length_drop
  have HLEN := Lib.hid hlen
  have hxl2 : x.ms.length ≤ 1000001 := by omega
  clear hR hrow hxi hm0 hcl h0 h1 hb hxv hs hxl hlen
  generalize hln : x.ms.length = ln at *
  generalize hcsx : cn x.ms = cs at *
  generalize hxb : x.b = xb at *
  generalize hi : pre.length = i at *
  generalize hLL : (pre ++ x :: post).length = LL at *
  have HLN := Lib.hid hln
  have HCS := Lib.hid hcsx
  have HXB := Lib.hid hxb
  have HI := Lib.hid hi
  have HLL := Lib.hid hLL
  clear hln hcsx hxb hi hLL
  go_enter Try.func82, Try.ntmps82
  go_wp2_with (go_at_call 90; refine (HCL.out _).mono ?_; rintro e w1 ⟨g3, c3, rfl, hc3, HC⟩)
  obtain ⟨W1, hW1⟩ : ∃ W1, w1.alloc (.cells #[.slice (some ⟨g3, 0, none⟩) (ln - 24) c3, .int .i64 0] 102) = W1 := ⟨_, rfl⟩
  rw [hW1]
  have hH : W1.heap[w1.heap.size]? = some (.cells #[.slice (some ⟨g3, 0, none⟩) (ln - 24) c3, .int .i64 0] 102 (0, 0)) := by rw [← hW1]; exact heap_new _ _
  have hF1 : Below w.heap.size w W1 := by rw [← hW1]; exact HC.out.2.2.2.alloc HC.out.2.2.2.size _
  have hS1 : SRow W1 4 1 False (.slice (some ⟨g3, 0, none⟩) (ln - 24) c3) (ln - 24) ((x.ms.drop 24).map Value.bool) := by
    refine HC.out.1.keep fun g' hg' => ?_
    rw [← hW1]
    exact heap_old _ _ (HC.out.1.ob_lt g' hg').1
  have hne3 : w1.heap.size ≠ g3 := by have := HC.out.2.2.1; omega
  have hge3 := HC.out.2.1
  have hge1 := HC.out.2.2.2.size
  have HW1 := Lib.hid hW1
  have HH := Lib.hid hH
  have HF1 := Lib.hid hF1
  have HS1 := Lib.hid hS1
  have HG3 := Lib.hid hge3
  have HG1 := Lib.hid hge1
  clear hW1 hH hF1 hS1 hge3 hge1 HC k2 kptr kc0 kc1
  generalize hhb : w1.heap.size = hb at *
  have HHB := Lib.hid hhb
  clear hhb
  generalize hm : ln - 24 = m at *
  have hmb : m ≤ 1000000 := by omega
  have HM := Lib.hid hm
  clear hm
  go_loopw [7, 28] (fun v7 v28 wr => ∃ j : Nat, v28 = .int .i64 (j : Int) ∧ j ≤ m ∧ Aside0 (Fr [hb] W1 wr ∧ wr.heap[hb]? = some (.cells #[.slice (some ⟨g3, 0, none⟩) m c3, .int .i64 (cn ((x.ms.drop 24).take j) : Int)] 102 (0, 0)))) (fun _ v28 _ => m - (intOf v28).toNat)
  case atStart => exact ⟨0, rfl, by omega, ⟨Fr.refl _ _, HH.out⟩⟩
  case round =>
    obtain ⟨j, rfl, hj, HJ⟩ := hrel
    have hcj := cn_le ((x.ms.drop 24).take j)
    rw [List.length_take] at hcj
    have hcj2 : cn ((x.ms.drop 24).take j) ≤ 1000000 := by omega
    have j0 := cell_of HJ.out.2 0
    have j1 := cell_of HJ.out.2 1
    have j2 := free_of HJ.out.2
    simp only [List.getElem?_toArray, List.getElem?_cons_zero, List.getElem?_cons_succ] at j0 j1
    by_cases hlt : j < m
    · have hjl : j < (x.ms.drop 24).length := by rw [HLEN.out]; have := HM.out; have := HLN.out; omega
      obtain ⟨g4, c4, e4, _, hm4⟩ := (HS1.out.keep (w' := wr) fun g' hg' => HJ.out.1.block g' (HS1.out.ob_lt g' hg').1 (by simp [ob, Value.ownBlock] at hg'; simp; omega)).cell1 (i := j) (u := .bool (x.ms.drop 24)[j]) (by rw [List.getElem?_map, List.getElem?_eq_getElem hjl]; rfl)
      injection e4 with e5 e6 e7
      injection e5 with e5
      injection e5 with e5
      subst e5 e7
      clear e6
      have hct := cn_take_succ (x.ms.drop 24) j hjl
      obtain ⟨u, hu⟩ : ∃ u, (x.ms.drop 24)[j] = u := ⟨_, rfl⟩
      rw [hu] at hm4 hct
      generalize cn ((x.ms.drop 24).take j) = s at *
      have hob := oneI_b u
      have hoe : ((cn ((x.ms.drop 24).take (j + 1)) : Nat) : Int) = (s : Int) + oneI u := by rw [hct]; unfold oneI; split <;> simp
      have HOE := Lib.hid hoe
      clear hct hu hcj hoe hjl
      have hw2 : IntKind.i64.wrap ((s : Int) + oneI u) = (s : Int) + oneI u := by rw [IntKind.wrap_i64]; omega
      go_wp2
      go_region_with ((go_at_call 70; refine (one_calls u _).mono ?_; rintro e w' ⟨rfl, rfl⟩))
      all_goals
        go_wp2
        go_roundw
        case rel => exact ⟨j + 1, by go_num, by omega, ⟨(HJ.out.1.trans (Fr.of_set wr ⟨hb, 1, none⟩ _ (by simp)) (fun _ h => .inl h)).trans (Fr.of_drew (F := []) _) (by simp), by rw [HOE.out]; exact (heap_set wr hb 1 _ HJ.out.2).trans rfl⟩⟩
        case measure => simp [intOf]; omega
    · obtain rfl : m = j := by omega
      have hj0 := HJ.out.2
      rw [List.take_of_length_le (by rw [HLEN.out]; have := HM.out; have := HLN.out; omega)] at hj0
      have hcn := cn_le (x.ms.drop 24)
      rw [HLEN.out] at hcn
      have hsum : cs = cn (x.ms.take 24) + cn (x.ms.drop 24) := by rw [← cn_app, List.take_append_drop, HCS.out]
      generalize hch : cn (x.ms.drop 24) = ch at *
      have HCH := Lib.hid hch
      have HSUM := Lib.hid hsum
      clear hch hcj hcj2
      have hch2 : ch ≤ cs := by omega
      clear hsum
      have hcs3 : cs ≤ 1000001 := by omega
      -- what is read of the elder block
      have hbx : wr.heap[xb]? = some (.cells #[.slice (some ⟨g2, 0, none⟩) ln c2, .int .i64 (cs : Int)] 102 (0, 0)) := by
        have h1 := HB.out.1
        rw [HXB.out, HXV.out, HCS.out] at h1
        have hlt := lt_of h1
        have hge := HG1.out
        rw [HJ.out.1.block xb (Nat.lt_of_lt_of_le hlt HF1.out.size) (by simp; omega), HF1.out.block xb hlt]
        exact h1
      have hxh : xb ≠ hb := by
        have h1 := HB.out.1
        rw [HXB.out] at h1
        have hlt := lt_of h1
        have hge := HG1.out
        omega
      have hcap2 : c2 ≤ maxLen := by
        rcases HB.out.2.2 with ⟨h, _⟩ | ⟨_, _, _, h, _, _, h2, _⟩
        · rw [HXV.out] at h; cases h
        · rw [HXV.out] at h
          injection h with _ _ h3
          rw [h3]; exact h2
      have HJX := Lib.hid hj0
      have HBX := Lib.hid hbx
      have HJ1 := Lib.hid HJ.out.1
      replace j0 := cell_of hj0 0
      replace j1 := cell_of hj0 1
      replace j2 := free_of hj0
      have b0 := cell_of hbx 0
      have b1 := cell_of hbx 1
      have b2 := free_of hbx
      simp only [List.getElem?_toArray, List.getElem?_cons_zero, List.getElem?_cons_succ] at j0 j1 b0 b1
      have hw2 : IntKind.i64.wrap ((cs : Int) - (ch : Int)) = (cs : Int) - (ch : Int) := by rw [IntKind.wrap_i64]; omega
      have hclip := fun W => clipB_calls W g2 24 c2 (by omega) hcap2
      have HCLIP := Lib.hid hclip
      have HCAP2 := Lib.hid hcap2
      clear hj0 hbx hclip hcap2 HJ
      have h24 : (24 : Int) ≤ (c2 : Int) := by omega
      go_wp2
      go_cut [] (fun wx => Aside0 (Fr [xb] wr wx ∧ wx.heap[xb]? = some (.cells #[.slice (some ⟨g2, 0, none⟩) 24 24, .int .i64 ((cs : Int) - (ch : Int))] 102 (0, 0))))
      case first =>
        go_region_with ((go_at_call 91; refine (HCLIP.out _).mono ?_; rintro e w' ⟨rfl, rfl⟩))
        all_goals (go_wp2_with fail; go_meet; exact ⟨((Fr.of_set wr ⟨xb, 0, none⟩ _ (by simp)).trans (Fr.of_set (F := [xb]) _ ⟨xb, 1, none⟩ _ (by simp)) (by simp)).trans (Fr.of_drew (F := []) _) (by simp), (heap_set _ xb 1 _ (heap_set wr xb 0 _ HBX.out)).trans rfl⟩)
      case rest =>
        obtain ⟨W7, rfl⟩ : ∃ W7 : World, W7 = wc := ⟨_, rfl⟩
        have hX7 := hcut.out.2
        have hF7 := hcut.out.1
        have hp0 := HR.out.head
        have hps := lt_of hp0
        have hpx : p ≠ xb := by have := heap_types hp0 HB.out.1 (by decide); rw [HXB.out] at this; exact this
        have hge := HG1.out
        have step : ∀ k, k < w.heap.size → k ≠ xb → W7.heap[k]? = w.heap[k]? := by
          intro k hk hkx
          have h1 : k < W1.heap.size := Nat.lt_of_lt_of_le hk HF1.out.size
          rw [hF7.block k (Nat.lt_of_lt_of_le h1 HJ1.out.size) (by simpa using hkx), HJ1.out.block k h1 (by simp; omega), HF1.out.block k hk]
        have hp7 := (step p hps hpx).trans hp0
        have hrow7 : SRow W7 99 1 False (.slice (some ⟨g, 0, none⟩) LL cap) LL ((pre ++ x :: post).map ptrV) := by
          have h1 := HR.out.row
          rw [HLL.out] at h1
          refine h1.keep fun k hk => ?_
          obtain ⟨h2, cs2, h3⟩ := h1.ob_lt k hk
          refine step k h2 ?_
          rw [← HXB.out]
          exact heap_types h3 HB.out.1 (by decide)
        have hput := put_p W7 p hb xb i LL g cap pre post x hrow7 HLL.out HI.out hL hp7 hX7
        have HPUT := Lib.hid hput
        have HX7 := Lib.hid hX7
        have HF7 := Lib.hid hF7
        have HP7 := Lib.hid hp7
        have HSTEP := Lib.hid step
        have p2 := cell_of hp7 2
        simp only [List.getElem?_toArray, List.getElem?_cons_zero, List.getElem?_cons_succ] at p2
        have hw3 : IntKind.i64.wrap ((i : Int) + 1) = (i : Int) + 1 := by rw [IntKind.wrap_i64]; omega
        clear hX7 hF7 hp0 hp7 step hrow7 hput hcut j0 j1 j2 b0 b1 b2
        go_wp2_with (go_at_call 92; refine HPUT.out.mono ?_; rintro e w3 ⟨A', c', rfl, HI3, h3p, h3x⟩; have H3P := Lib.hid h3p; have q2 := cell_of h3p 2; have q3 := free_of h3p; simp only [List.getElem?_toArray, List.getElem?_cons_zero, List.getElem?_cons_succ] at q2; clear h3p)
        go_end0
        obtain ⟨D, hD⟩ : ∃ D, w3.setCell ⟨p, 2, none⟩ (.slice A' (LL + 1) c') = D := ⟨_, rfl⟩
        rw [hD]
        have hI := HI3.out
        have hR0 := HR.out
        have hx0 := HB.out
        have hgw : g < w.heap.size := (hR0.row.ob_lt g (by simp [ob, Value.ownBlock])).1
        obtain ⟨_, cg, hcg⟩ := hR0.row.ob_lt g (by simp [ob, Value.ownBlock])
        have hg2o : g2 ∈ ob x.v := by rw [HXV.out]; simp [ob, Value.ownBlock]
        obtain ⟨hg2w, cg2, hcg2⟩ := hx0.2.ob_lt g2 hg2o
        have hsz7 : w.heap.size ≤ W7.heap.size := Nat.le_trans HF1.out.size (Nat.le_trans HJ1.out.size HF7.out.size)
        have hpw := lt_of hR0.head
        have hpg : p ≠ g := heap_types hR0.head hcg (by decide)
        have hge := HG1.out
        have hge3 := HG3.out
        have chain : ∀ k, k < W7.heap.size → k ≠ g → k ≠ p → D.heap[k]? = W7.heap[k]? := by
          intro k hk h1 h2
          rw [← hD, heap_far _ _ _ h2, hI.2.1.block k (by rw [alloc_sz]; exact Nat.lt_succ_of_lt hk) (by simp [Value.ownBlock]; omega)]
          exact heap_old _ _ hk
        have old : ∀ k, k < w.heap.size → k ≠ xb → k ≠ g → k ≠ p → D.heap[k]? = w.heap[k]? := fun k hk h1 h2 h3 => (chain k (Nat.lt_of_lt_of_le hk hsz7) h2 h3).trans (HSTEP.out k hk h1)
        have hxw : xb < w.heap.size := by have := lt_of hx0.1; rw [HXB.out] at this; exact this
        have hxg : xb ≠ g := by have := heap_types hx0.1 hcg (by decide); rw [HXB.out] at this; exact this
        have hbW1 : hb < W1.heap.size := lt_of HH.out
        have hbW7 : hb < W7.heap.size := Nat.lt_of_lt_of_le hbW1 (Nat.le_trans HJ1.out.size HF7.out.size)
        have hg3W1 : g3 < W1.heap.size := (HS1.out.ob_lt g3 (by simp [ob, Value.ownBlock])).1
        have hg3W7 : g3 < W7.heap.size := Nat.lt_of_lt_of_le hg3W1 (Nat.le_trans HJ1.out.size HF7.out.size)
        have hDb : D.heap[hb]? = some (.cells #[.slice (some ⟨g3, 0, none⟩) m c3, .int .i64 (ch : Int)] 102 (0, 0)) := by
          rw [chain hb hbW7 (by omega) (by omega), HF7.out.block hb (lt_of HJX.out) (by simp; omega)]
          exact HJX.out
        have hD3 : D.heap[g3]? = W1.heap[g3]? := by
          rw [chain g3 hg3W7 (by omega) (by omega), HF7.out.block g3 (Nat.lt_of_lt_of_le hg3W1 HJ1.out.size) (by simp; omega), HJ1.out.block g3 hg3W1 (by simp; omega)]
        have hm3 : (x.ms.drop 24).length = m := HLEN.out
        have hty : ∀ k ∈ fpB pre ++ fpB post, k < w.heap.size ∧ k ≠ xb ∧ k ≠ g ∧ k ≠ p := by
          intro k hk
          obtain ⟨n1, n2, n3⟩ := hR0.others k (by rw [List.mem_append]; exact .inr hk)
          have hk2 : k ∈ fpB (pre ++ x :: post) := by
            rw [fpB_app, fpB_cons]
            rcases List.mem_append.1 hk with h1 | h1 <;> simp [h1]
          obtain ⟨cs2, t2, h2, h3⟩ := hR0.typed k hk2
          exact ⟨lt_of h2, by rw [← HXB.out]; exact n2, heap_types h2 hcg (by rcases h3 with rfl | rfl <;> decide), n1⟩
        have hob1 : ob (Value.slice (some ⟨g2, 0, none⟩) 24 24) = ob x.v := by rw [HXV.out]; rfl
        have hal := hR0.halve (D := D) (v' := .slice A' (LL + 1) c') (x1 := ⟨x.b, .slice (some ⟨g2, 0, none⟩) 24 24, x.ms.take 24⟩) (x2 := ⟨hb, .slice (some ⟨g3, 0, none⟩) m c3, x.ms.drop 24⟩) rfl (List.take_append_drop _ _) hob1
          (by rw [← hD]; exact (heap_set w3 p 2 _ H3P.out).trans rfl)
          (by
            have e1 : ((pre ++ (⟨x.b, .slice (some ⟨g2, 0, none⟩) 24 24, x.ms.take 24⟩ : Blk) :: (⟨hb, .slice (some ⟨g3, 0, none⟩) m c3, x.ms.drop 24⟩ : Blk) :: post).map ptrV) = pre.map ptrV ++ [.pointer (some ⟨x.b, 0, none⟩), .pointer (some ⟨hb, 0, none⟩)] ++ post.map ptrV := by simp [ptrV]
            rw [e1, HLL.out]
            refine hI.1.keep fun k hk => ?_
            obtain ⟨_, c5, h5⟩ := hI.1.ob_lt k hk
            rw [← hD]
            exact heap_far _ _ _ (heap_types h5 H3P.out (by decide)))
          (by
            refine ⟨?_, ?_⟩
            · show D.heap[x.b]? = some (.cells #[.slice (some ⟨g2, 0, none⟩) 24 24, .int .i64 (cn (x.ms.take 24) : Int)] 102 (0, 0))
              rw [HXB.out, chain xb (Nat.lt_of_lt_of_le hxw hsz7) hxg (Ne.symm hpx), HX7.out]
              have := HSUM.out
              rw [show (cs : Int) - (ch : Int) = (cn (x.ms.take 24) : Int) by omega]
            · show SRow D 4 1 False (.slice (some ⟨g2, 0, none⟩) 24 24) (x.ms.take 24).length ((x.ms.take 24).map Value.bool)
              have hl24 : (x.ms.take 24).length = 24 := by rw [List.length_take, HLN.out]; omega
              rcases (srow1.1 hx0.2).2 with ⟨h, _⟩ | ⟨g5, c5, cur, h5, h6, h7, h8, h9, _, h10⟩
              · rw [HXV.out] at h; cases h
              · rw [HXV.out] at h5
                injection h5 with h5 _ _
                injection h5 with h5
                injection h5 with h5
                subst h5
                rw [hl24]
                refine srow1.2 ⟨by rw [List.length_map, hl24], .inr ⟨g2, 24, cur, rfl, ?_, Nat.le_refl _, by unfold maxLen; omega, by have := HLN.out; omega, fun h => h.elim, ?_⟩⟩
                · rw [old g2 hg2w (by rw [← HXB.out]; exact heap_types h6 hx0.1 (by decide)) (heap_types h6 hcg (by decide)) (heap_types h6 hR0.head (by decide))]
                  exact h6
                · rw [List.map_take, ← h10, List.take_take, Nat.min_eq_left (by rw [HLN.out]; omega)])
          (by
            refine ⟨?_, ?_⟩
            · show D.heap[hb]? = some (.cells #[.slice (some ⟨g3, 0, none⟩) m c3, .int .i64 (cn (x.ms.drop 24) : Int)] 102 (0, 0))
              rw [hDb, HCH.out]
            · show SRow D 4 1 False (.slice (some ⟨g3, 0, none⟩) m c3) (x.ms.drop 24).length ((x.ms.drop 24).map Value.bool)
              rw [hm3]
              refine HS1.out.keep fun k hk => ?_
              have : k = g3 := by simp [ob, Value.ownBlock] at hk; omega
              rw [this]; exact hD3)
          (by omega) (by intro k hk; have : k = g3 := (by simp [ob, Value.ownBlock] at hk; omega); rw [this]; exact ⟨hge3, Ne.symm hne3⟩)
          (fun k hk => by obtain ⟨a1, a2, a3, a4⟩ := hty k hk; exact old k a1 a2 a3 a4)
        refine ⟨rfl, _, _, hal.1, hal.2, by simp; omega, ?_, ?_⟩
        · have same : ∀ (F : List Nat), ∀ y ∈ F, y ∈ F ∨ w.heap.size ≤ y := fun _ _ h => .inl h
          have g1 : Fr (fpI p (.slice (some ⟨g, 0, none⟩) LL cap) (pre ++ x :: post)) w W1 := Fr.of_below HF1.out
          have g4 := ((g1.trans HJ1.out fun y hy => by rw [List.mem_singleton] at hy; right; omega).trans HF7.out fun y hy => by rw [List.mem_singleton] at hy; exact .inl (mem_fpI.2 (.inr (.inr (.inr (.inl (by rw [hy, HXB.out]))))))).trans (Fr.of_alloc W7 (.cells #[.pointer (some ⟨hb, 0, none⟩)] 99)) (same _)
          have g5 := g4.trans (Fr.of_grown (F := [g]) hI.2.1 fun k hk => by simp [Value.ownBlock] at hk; simp [hk]) fun y hy => by rw [List.mem_singleton] at hy; exact .inl (mem_fpI.2 (.inr (.inl (by rw [hy]; simp [ob, Value.ownBlock]))))
          rw [← hD]
          exact g5.trans (Fr.of_set (F := [p]) w3 ⟨p, 2, none⟩ _ (by simp)) fun y hy => by rw [List.mem_singleton] at hy; exact .inl (mem_fpI.2 (.inl hy))
        · intro j hj
          rcases mem_fpI.1 hj with h | h | h | h | h | h
          · exact .inl (mem_fpI.2 (.inl h))
          · rcases hI.2.2.1 with h2 | ⟨b, h2, h3⟩
            · left
              refine mem_fpI.2 (.inr (.inl ?_))
              unfold ob at h ⊢
              rw [← h2]; exact h
            · right
              have : j = b := by simp only [ob, h2, Option.toList] at h; simpa using h
              rw [alloc_sz] at h3
              omega
          · exact .inl (mem_fpI.2 (.inr (.inr (.inl h))))
          · exact .inl (mem_fpI.2 (.inr (.inr (.inr (.inl h)))))
          · exact .inl (mem_fpI.2 (.inr (.inr (.inr (.inr (.inl (by rw [← hob1]; exact h)))))))
          · rw [fpB_cons] at h
            rcases List.mem_cons.1 h with h | h
            · right
              have : j = hb := h
              omega
            · rcases List.mem_append.1 h with h | h
              · right
                have : j = g3 := by simp [ob, Value.ownBlock] at h; omega
                omega
              · exact .inl (mem_fpI.2 (.inr (.inr (.inr (.inr (.inr h))))))
end Go.Proofs.Ytehdjdediobemaa.PC
namespace Go.Proofs.Ytehdjdediobemaa.PC
open Go.RowKit Go.Proofs.YtehdjdediobemaaW.PrintWords Go.Proofs.YtehdjdediobemaaW.PrintLast Go.Proofs.YtehdjdediobemaaW.PrintMore Go.Proofs.Ytehdjdediobemaa.K Go.Proofs.Ytehdjdediobemaa.IX
attribute [local go_sem] max2_int min2_int max_two min_two max_three min_three max_four min_four
set_option linter.unusedVariables false
set_option linter.unusedSimpArgs false
/-- find, told in the walk's own words, where a mark is put in. -/
def FoundIns (w : World) (p g LL cap tot : Nat) (L : List Blk) (n : Nat) (e : Ending) (w1 : World) : Prop :=
  ∃ (pre : List Blk) (x : Blk) (post : List Blk) (i k xb cs c nd c2 : Nat) (s : Int) (A : Option Addr), e = .returned (.tuple #[.int .i64 (i : Int), .int .i64 (k : Int), .int .i64 s]) ∧ Aside0 (L = pre ++ x :: post ∧ n = (marks pre).length + k ∧ k ≤ x.ms.length ∧ x.b = xb ∧ cn x.ms = cs ∧ pre.length = i ∧ cn (marks L) = c ∧ x.v = .slice A x.ms.length c2) ∧
    Aside0 (w1 = w.drewN nd) ∧ i < LL ∧ cs ≤ 1000000 ∧ c ≤ 1000000 ∧ p ≠ xb ∧ x.ms.length ≤ 1000000 ∧ k ≤ x.ms.length ∧
    w1.cell? ⟨p, 0, none⟩ = some (.int .i64 (tot : Int)) ∧ w1.cell? ⟨p, 1, none⟩ = some (.int .i64 (c : Int)) ∧ w1.cell? ⟨p, 2, none⟩ = some (.slice (some ⟨g, 0, none⟩) LL cap) ∧ w1.cell? ⟨g, i, none⟩ = some (.pointer (some ⟨xb, 0, none⟩)) ∧ w1.cell? ⟨xb, 0, none⟩ = some x.v ∧ w1.cell? ⟨xb, 1, none⟩ = some (.int .i64 (cs : Int))
theorem find_ins (w : World) (p g cap : Nat) (L : List Blk) (n : Nat) (hR : IxR w p (.slice (some ⟨g, 0, none⟩) L.length cap) L) (hs : (marks L).length ≤ 1000000) (hL : L.length ≤ 1000001) (hn : n ≤ (marks L).length) :
    Calls Try.prog 69 #[.pointer (some ⟨p, 0, none⟩), .int .i64 (n : Int), .bool true] w (FoundIns w p g L.length cap (marks L).length L n) := by
  refine (find_calls w p _ L n true hR hs hL (by rcases Nat.lt_or_ge n (marks L).length with h | h; (exact .inl h); exact .inr ⟨rfl, by omega⟩)).mono ?_
  rintro e w1 ⟨pre, x, post, k, hL2, hat, hk, rfl, nd, rfl⟩
  have hk2 : k ≤ x.ms.length := by rcases hk with h | h <;> omega
  obtain ⟨hx, hb⟩ := found hR hL2
  obtain ⟨g', cap', e, _, h0, h1, h2, hrow⟩ := hR.head_cells
  injection e with e1 e2 e3
  injection e1 with e1
  injection e1 with e1
  subst e1 e3
  obtain ⟨A, c2, hv, hc2, hc0, hc1⟩ := hb.cells
  have hcs := cn_le x.ms
  have hcb := cn_le (marks L)
  have hxl : x.ms.length ≤ (marks L).length := by rw [hL2, marks_app, marks_cons]; simp; omega
  exact ⟨pre, x, post, pre.length, k, x.b, cn x.ms, cn (marks L), nd, c2, _, A, rfl, ⟨hL2, hat, hk2, rfl, rfl, rfl, rfl, hv⟩, ⟨rfl⟩, by rw [hL2]; simp, by omega, by omega, heap_types hR.head hb.1 (by decide), by omega, hk2, h0, h1, h2, hrow _ _ hx, by rw [hv]; exact hc0, hc1⟩
/-- slices.Insert of a mark, told in the walk's own words. -/
def PutB (w1 : World) (p xb tot c cs k : Nat) (lv : Value) (x : Blk) (u : Bool) (e : Ending) (w2 : World) : Prop :=
  ∃ (A' : Option Addr) (c' : Nat), e = .returned (.slice A' (x.ms.length + 1) c') ∧ Aside0 (Ins (w1.alloc (.cells #[.bool u] 4)) 4 1 False x.v (x.ms.length + 1) ((x.ms.take k ++ [u] ++ x.ms.drop k).map Value.bool) (.slice A' (x.ms.length + 1) c') w2) ∧
    w2.heap[xb]? = some (.cells #[x.v, .int .i64 (cs : Int)] 102 (0, 0)) ∧ w2.heap[p]? = some (.cells #[.int .i64 (tot : Int), .int .i64 (c : Int), lv] 88 (0, 0)) ∧ x.ms.length + 1 ≤ c'
theorem put_b (w w1 : World) (nd p k : Nat) (lv : Value) (L : List Blk) (x : Blk) (u : Bool) (hw : w1 = w.drewN nd) (hR : IxR w p lv L) (hx : x ∈ L) (hk : k ≤ x.ms.length) (hl : x.ms.length ≤ 1000000) :
    Calls Try.prog 81 #[x.v, .int .i64 (k : Int), .slice (some ⟨w1.heap.size, 0, none⟩) 1 1] (w1.alloc (.cells #[.bool u] 4)) (PutB w1 p x.b (marks L).length (cn (marks L)) (cn x.ms) k lv x u) := by
  subst hw
  have hb := hR.blk x hx
  have hob := hb.2.ob_lt
  have hne : x.v.ownBlock ≠ some (w.drewN nd).heap.size := by
    intro e
    have := (hob (w.drewN nd).heap.size (by simp [ob, e])).1
    simp at this
  have hs : SRow ((w.drewN nd).alloc (.cells #[.bool u] 4)) 4 1 False x.v x.ms.length (x.ms.map Value.bool) := by
    refine hb.2.keep fun g hg => ?_
    exact Below.heap_alloc _ _ _ (hob g hg).1
  refine (insB_calls _ False x.v x.ms.length k (w.drewN nd).heap.size (x.ms.map Value.bool) [.bool u] hs hk (by exact heap_new _ _) hne rfl (by simp [Value.oneCell']) (by intro v hv; obtain ⟨b, _, rfl⟩ := List.mem_map.1 hv; rfl) (by omega)).mono ?_
  rintro e w2 ⟨v', rfl, hI⟩
  have e1 : ((x.ms.map Value.bool).take k ++ [Value.bool u] ++ (x.ms.map Value.bool).drop k) = (x.ms.take k ++ [u] ++ x.ms.drop k).map Value.bool := by simp [List.map_take, List.map_drop]
  rw [e1] at hI
  obtain ⟨A', c', rfl, hc', _⟩ := hI.1.form
  have keep : ∀ b o, w.heap[b]? = some o → b ∉ ob x.v → w2.heap[b]? = some o := by
    intro b o hbo hbn
    have hlt := lt_of hbo
    rw [hI.2.1.block b (by rw [alloc_sz]; exact Nat.lt_succ_of_lt hlt) (fun h => hbn (by simp [ob, ← h]))]
    exact (Below.heap_alloc _ _ _ hlt).trans hbo
  refine ⟨A', c', rfl, ⟨hI⟩, keep _ _ hb.1 fun hm => ?_, keep _ _ hR.head fun hm => ?_, hc'⟩
  · obtain ⟨_, cs2, hcs2⟩ := hob _ hm
    exact heap_types hb.1 hcs2 (by decide) rfl
  · obtain ⟨_, cs2, hcs2⟩ := hob _ hm
    exact heap_types hR.head hcs2 (by decide) rfl
theorem cn_ins (l : List Bool) (k : Nat) (u : Bool) : (cn (l.take k ++ [u] ++ l.drop k) : Int) = cn l + oneI u := by
  have h : cn l = cn (l.take k) + cn (l.drop k) := by rw [← cn_app, List.take_append_drop]
  rw [cn_app, cn_app, cn_cons, h]
  unfold oneI
  simp only [cn, List.count_nil, Nat.add_zero]
  split <;> omega
theorem drop_found (pre post : List Blk) (x : Blk) (k : Nat) (h : k ≤ x.ms.length) : (marks (pre ++ x :: post)).drop ((marks pre).length + k) = x.ms.drop k ++ marks post := by
  have e : (marks pre).drop ((marks pre).length + k) = [] := List.drop_of_length_le (by omega)
  rw [marks_app, marks_cons, List.drop_append, e, Nat.add_sub_cancel_left, List.drop_append_of_le_length h, List.nil_append]
theorem marks_ins (pre post : List Blk) (x : Blk) (b : Nat) (v : Value) (k : Nat) (u : Bool) (hk : k ≤ x.ms.length) :
    marks (pre ++ ⟨b, v, x.ms.take k ++ [u] ++ x.ms.drop k⟩ :: post) = (marks (pre ++ x :: post)).take ((marks pre).length + k) ++ [u] ++ (marks (pre ++ x :: post)).drop ((marks pre).length + k) := by
  rw [take_found _ _ _ _ hk, drop_found _ _ _ _ hk, marks_app, marks_cons]
  simp
theorem ins_state {w w2 W D : World} {nd p k : Nat} {lv v' : Value} {pre post : List Blk} {x : Blk} {u : Bool} {o : Obj} (hR : IxR w p lv (pre ++ x :: post)) (hk : k ≤ x.ms.length)
    (hI : Ins ((w.drewN nd).alloc o) 4 1 False x.v (x.ms.length + 1) ((x.ms.take k ++ [u] ++ x.ms.drop k).map Value.bool) v' w2)
    (hW : Fr [x.b] w2 W) (hWx : W.heap[x.b]? = some (.cells #[v', .int .i64 ((cn x.ms : Int) + oneI u)] 102 (0, 0))) (hD : Fr [p] W D)
    (hDp : D.heap[p]? = some (.cells #[.int .i64 (((marks (pre ++ x :: post)).length : Int) + 1), .int .i64 ((cn (marks (pre ++ x :: post)) : Int) + oneI u), lv] 88 (0, 0))) :
    IxR D p lv (pre ++ ⟨x.b, v', x.ms.take k ++ [u] ++ x.ms.drop k⟩ :: post) ∧ Fr (fpI p lv (pre ++ x :: post)) w D ∧ (∀ j ∈ fpI p lv (pre ++ ⟨x.b, v', x.ms.take k ++ [u] ++ x.ms.drop k⟩ :: post), j ∈ fpI p lv (pre ++ x :: post) ∨ w.heap.size ≤ j) ∧
      marks (pre ++ ⟨x.b, v', x.ms.take k ++ [u] ++ x.ms.drop k⟩ :: post) = (marks (pre ++ x :: post)).take ((marks pre).length + k) ++ [u] ++ (marks (pre ++ x :: post)).drop ((marks pre).length + k) := by
  have hx := hR.blk x (by simp)
  have hlen : (x.ms.take k ++ [u] ++ x.ms.drop k).length = x.ms.length + 1 := by simp; omega
  have e2 := marks_ins pre post x x.b v' k u hk
  have hlk : (marks pre).length + k ≤ (marks (pre ++ x :: post)).length := by rw [marks_app, marks_cons]; simp; omega
  have same : ∀ (F : List Nat), ∀ y ∈ F, y ∈ F ∨ w.heap.size ≤ y := fun _ _ h => .inl h
  have f2 : Fr (fpI p lv (pre ++ x :: post)) w w2 :=
    ((Fr.of_drewN w nd).trans (Fr.of_alloc _ o) (same _)).trans (Fr.of_grown hI.2.1 fun g hg => mem_fpI.2 (.inr (.inr (.inr (.inr (.inl (by simp [ob, hg]))))))) (same _)
  have f3 : Fr (fpI p lv (pre ++ x :: post)) w W := f2.trans hW fun y hy => by
    rw [List.mem_singleton] at hy
    exact .inl (mem_fpI.2 (.inr (.inr (.inr (.inl hy)))))
  have f4 : Fr (fpI p lv (pre ++ x :: post)) w D := f3.trans hD fun y hy => by
    rw [List.mem_singleton] at hy
    exact .inl (mem_fpI.2 (.inl hy))
  have hnew : ∀ g ∈ ob v', g ∈ ob x.v ∨ w.heap.size ≤ g := by
    intro g hg
    rcases hI.2.2.1 with h | ⟨b, hb, hle⟩
    · left; unfold ob at hg ⊢; rw [← h]; exact hg
    · right
      have : g = b := by simp [ob, hb] at hg; exact hg
      rw [alloc_sz] at hle
      have : (w.drewN nd).heap.size = w.heap.size := rfl
      omega
  have hpx : p ≠ x.b := heap_types hR.head hx.1 (by decide)
  have hv2 := hI.1.ob_lt
  have typ : ∀ g ∈ ob v', g ≠ x.b ∧ g ≠ p := by
    intro g hg
    rcases hnew g hg with h | h
    · obtain ⟨_, cs, hcs⟩ := hx.2.ob_lt g h
      exact ⟨heap_types hcs hx.1 (by decide), heap_types hcs hR.head (by decide)⟩
    · have h1 := lt_of hx.1
      have h2 := lt_of hR.head
      omega
  have hWb : BlkR D ⟨x.b, v', x.ms.take k ++ [u] ++ x.ms.drop k⟩ := by
    refine ⟨?_, ?_⟩
    · show D.heap[x.b]? = some (.cells #[v', .int .i64 (cn (x.ms.take k ++ [u] ++ x.ms.drop k) : Int)] 102 (0, 0))
      rw [hD.block x.b (lt_of hWx) (by simpa using Ne.symm hpx), hWx, cn_ins]
    · show SRow D 4 1 False v' (x.ms.take k ++ [u] ++ x.ms.drop k).length _
      rw [hlen]
      refine hI.1.keep fun g hg => ?_
      have hlt := (hv2 g hg).1
      rw [hD.block g (Nat.lt_of_lt_of_le hlt hW.size) (by simpa using (typ g hg).2), hW.block g hlt (by simpa using (typ g hg).1)]
  refine ⟨hR.put ⟨x.b, v', x.ms.take k ++ [u] ++ x.ms.drop k⟩ rfl ?_ hWb ?_ hnew, f4, ?_, e2⟩
  · rw [e2, hDp]
    have h1 : ((marks (pre ++ x :: post)).take ((marks pre).length + k) ++ [u] ++ (marks (pre ++ x :: post)).drop ((marks pre).length + k)).length = (marks (pre ++ x :: post)).length + 1 := by simp; omega
    rw [h1, cn_ins]
    rfl
  · intro j hj
    obtain ⟨n1, n2, n3⟩ := hR.others j hj
    have hlt : j < w.heap.size := by
      refine hR.lt j (mem_fpI.2 ?_)
      simp only [List.mem_append] at hj
      rcases hj with h | h | h <;> simp [h]
    have h2 : w2.heap[j]? = w.heap[j]? := (hI.2.1.block j (by rw [alloc_sz]; exact Nat.lt_succ_of_lt hlt) (fun h => n3 (by simp [ob, ← h]))).trans (heap_old (w.drewN nd) o hlt)
    rw [hD.block j (Nat.lt_of_lt_of_le hlt (Nat.le_trans f2.size hW.size)) (by simpa using n1), hW.block j (Nat.lt_of_lt_of_le hlt f2.size) (by simpa using n2), h2]
  · intro j hj
    rcases mem_fpI.1 hj with h | h | h | h | h | h
    · exact .inl (mem_fpI.2 (.inl h))
    · exact .inl (mem_fpI.2 (.inr (.inl h)))
    · exact .inl (mem_fpI.2 (.inr (.inr (.inl h))))
    · exact .inl (mem_fpI.2 (.inr (.inr (.inr (.inl h)))))
    · rcases hnew j h with h | h
      · exact .inl (mem_fpI.2 (.inr (.inr (.inr (.inr (.inl h))))))
      · exact .inr h
    · exact .inl (mem_fpI.2 (.inr (.inr (.inr (.inr (.inr h))))))
/-- What Insert does. -/
def InsPost (w : World) (p : Nat) (lv : Value) (L : List Blk) (n : Nat) (u : Bool) (e : Ending) (w' : World) : Prop :=
  e = .returned (.bool true) ∧ ∃ lv' L', IxR w' p lv' L' ∧ marks L' = (marks L).take n ++ [u] ++ (marks L).drop n ∧ L'.length ≤ L.length + 1 ∧ Fr (fpI p lv L) w w' ∧ ∀ j ∈ fpI p lv' L', j ∈ fpI p lv L ∨ w.heap.size ≤ j
set_option maxHeartbeats 4000000 in
set_option maxRecDepth 100000 in
theorem ins_walk (w : World) (p g cap : Nat) (L : List Blk) (n : Nat) (u : Bool) (hR : IxR w p (.slice (some ⟨g, 0, none⟩) L.length cap) L) (hs : (marks L).length ≤ 1000000) (hL : L.length ≤ 1000001) (hn : n ≤ (marks L).length) :
    Calls Try.prog 68 #[.pointer (some ⟨p, 0, none⟩), .int .i64 (n : Int), .bool u] w (InsPost w p (.slice (some ⟨g, 0, none⟩) L.length cap) L n u) := by
  have hf := find_ins w p g cap L n hR hs hL hn
  have hu := oneI_b u
  have h0 : w.cell? ⟨p, 0, none⟩ = some (.int .i64 ((marks L).length : Int)) := by rw [cell_of hR.head]; rfl
  have hcap : L.length ≤ cap := by
    obtain ⟨_, _, e, hcap, _⟩ := hR.head_cells
    injection e with _ _ e3
    rw [e3]; exact hcap
  have HR := Lib.hid hR
  generalize htot : (marks L).length = tot at *
  generalize hLL : L.length = LL at *
  have hf2 : Calls Try.prog 69 #[.pointer (some ⟨p, 0, none⟩), .int .i64 (n : Int), .bool true] w (FoundIns w p g LL cap tot L n) := hf
  have HF := Lib.hid hf2
  have HT := Lib.hid htot
  have HLL := Lib.hid hLL
  clear hf hf2 hR htot hLL
  have hd1 : decide ((n : Int) < 0) = false := by simp
  have hd2 : decide (tot < n) = false := by simpa using hn
  go_enter Try.func68, Try.ntmps68
  go_wp2_with (first
    | (go_at_call 69; refine HF.out.mono ?_; rintro e w1 ⟨pre, x, post, i, k, xb, cs, c, nd, c2, s, A, rfl, HX, HW, hil, hcs, hcb, hpx, hln, hk, k0, k1, k2, kptr, kc0, kc1⟩; have hw1 : IntKind.i64.wrap ((cs : Int) + oneI u) = (cs : Int) + oneI u := (by rw [IntKind.wrap_i64]; omega); have hw2 : IntKind.i64.wrap ((c : Int) + oneI u) = (c : Int) + oneI u := (by rw [IntKind.wrap_i64]; omega); have hw3 : IntKind.i64.wrap ((tot : Int) + 1) = (tot : Int) + 1 := (by rw [IntKind.wrap_i64]; omega))
    | (go_at_call 81; refine (put_b w w1 nd p k _ L x u HW.out HR.out (by rw [HX.out.1]; simp) hk hln).mono ?_; rintro e w2 ⟨A', c', rfl, HI, hb1, hb2, hc'⟩; rw [HX.out.2.2.2.1, HX.out.2.2.2.2.1] at hb1; rw [HT.out, HX.out.2.2.2.2.2.2.1] at hb2; have HB1 := Lib.hid hb1; have HB2 := Lib.hid hb2; have j0 := cell_of hb1 0; have j1 := cell_of hb1 1; have j2 := free_of hb1; have i0 := cell_of hb2 0; have i1 := cell_of hb2 1; have i2 := cell_of hb2 2; have i3 := free_of hb2; simp only [List.getElem?_toArray, List.getElem?_cons_zero, List.getElem?_cons_succ] at j0 j1 i0 i1 i2; clear hb1 hb2))
  obtain ⟨W, hW⟩ : ∃ W, w2.setCell ⟨xb, 0, none⟩ (.slice A' (x.ms.length + 1) c') = W := ⟨_, rfl⟩
  rw [hW]
  have hb1 : W.heap[xb]? = some (.cells #[.slice A' (x.ms.length + 1) c', .int .i64 (cs : Int)] 102 (0, 0)) := by rw [← hW, heap_set _ _ _ _ HB1.out]; rfl
  have hb2 : W.heap[p]? = some (.cells #[.int .i64 (tot : Int), .int .i64 (c : Int), .slice (some ⟨g, 0, none⟩) LL cap] 88 (0, 0)) := by rw [← hW, heap_far _ _ _ hpx]; exact HB2.out
  have HW1 := Lib.hid hW
  have HC1 := Lib.hid hb1
  have HC2 := Lib.hid hb2
  replace j0 := cell_of hb1 0
  replace j1 := cell_of hb1 1
  replace j2 := free_of hb1
  replace i0 := cell_of hb2 0
  replace i1 := cell_of hb2 1
  replace i2 := cell_of hb2 2
  replace i3 := free_of hb2
  simp only [List.getElem?_toArray, List.getElem?_cons_zero, List.getElem?_cons_succ] at j0 j1 i0 i1 i2
  clear hW hb1 hb2 k0 k1 k2 kptr kc0 kc1 h0
  go_cut [] (fun wx => Aside0 (Fr [xb] W wx ∧ wx.heap[xb]? = some (.cells #[.slice A' (x.ms.length + 1) c', .int .i64 ((cs : Int) + oneI u)] 102 (0, 0))))
  case first =>
    go_region_with ((go_at_call 70; refine (one_calls u _).mono ?_; rintro e w' ⟨rfl, rfl⟩))
    all_goals (go_wp2_with fail; go_meet; exact ⟨(Fr.of_set W ⟨xb, 1, none⟩ _ (by simp)).trans (Fr.of_drew (F := []) _) (by simp), (heap_set W xb 1 _ HC1.out).trans rfl⟩)
  case rest =>
    obtain ⟨W6, rfl⟩ : ∃ W6 : World, W6 = wc := ⟨_, rfl⟩
    have hb1 := hcut.out.2
    have hb2 : W6.heap[p]? = some (.cells #[.int .i64 (tot : Int), .int .i64 (c : Int), .slice (some ⟨g, 0, none⟩) LL cap] 88 (0, 0)) := (hcut.out.1.block p (lt_of HC2.out) (by simpa using hpx)).trans HC2.out
    have HC3 := Lib.hid hb1
    have HC4 := Lib.hid hb2
    have HF6 := Lib.hid hcut.out.1
    replace j0 := cell_of hb1 0
    replace j1 := cell_of hb1 1
    replace j2 := free_of hb1
    replace i0 := cell_of hb2 0
    replace i1 := cell_of hb2 1
    replace i2 := cell_of hb2 2
    replace i3 := free_of hb2
    simp only [List.getElem?_toArray, List.getElem?_cons_zero, List.getElem?_cons_succ] at j0 j1 i0 i1 i2
    clear hb1 hb2 hcut
    go_wp2
    go_cut [] (fun wx => Aside0 (Fr [p] W6 wx ∧ wx.heap[p]? = some (.cells #[.int .i64 ((tot : Int) + 1), .int .i64 ((c : Int) + oneI u), .slice (some ⟨g, 0, none⟩) LL cap] 88 (0, 0))))
    case first =>
      go_region_with ((go_at_call 70; refine (one_calls u _).mono ?_; rintro e w' ⟨rfl, rfl⟩))
      all_goals (go_wp2_with fail; go_meet; exact ⟨((Fr.of_set W6 ⟨p, 0, none⟩ _ (by simp)).trans (Fr.of_set (F := [p]) _ ⟨p, 1, none⟩ _ (by simp)) (by simp)).trans (Fr.of_drew (F := []) _) (by simp), (heap_set _ p 1 _ (heap_set W6 p 0 _ HC4.out)).trans rfl⟩)
    case rest =>
      have hp7 := hcut.out.2
      have hx7 : wc.heap[xb]? = some (.cells #[.slice A' (x.ms.length + 1) c', .int .i64 ((cs : Int) + oneI u)] 102 (0, 0)) := (hcut.out.1.block xb (lt_of HC3.out) (by simpa using Ne.symm hpx)).trans HC3.out
      have HF7 := hcut.out.1
      have hst : ∃ L', IxR wc p (.slice (some ⟨g, 0, none⟩) LL cap) (pre ++ ⟨xb, .slice A' (x.ms.length + 1) c', x.ms.take k ++ [u] ++ x.ms.drop k⟩ :: post) ∧ Fr (fpI p (.slice (some ⟨g, 0, none⟩) LL cap) L) w wc ∧
          (∀ j ∈ fpI p (.slice (some ⟨g, 0, none⟩) LL cap) (pre ++ ⟨xb, .slice A' (x.ms.length + 1) c', x.ms.take k ++ [u] ++ x.ms.drop k⟩ :: post), j ∈ fpI p (.slice (some ⟨g, 0, none⟩) LL cap) L ∨ w.heap.size ≤ j) ∧
          marks (pre ++ ⟨xb, .slice A' (x.ms.length + 1) c', x.ms.take k ++ [u] ++ x.ms.drop k⟩ :: post) = (marks L).take n ++ [u] ++ (marks L).drop n ∧ L' = pre ++ ⟨xb, .slice A' (x.ms.length + 1) c', x.ms.take k ++ [u] ++ x.ms.drop k⟩ :: post ∧ L'.length = L.length := by
        obtain ⟨q1, q2, q3, q4, q5, q6, q7, q8⟩ := HX.out
        obtain rfl := q1
        have hD : wc.heap[p]? = some (.cells #[.int .i64 (((marks (pre ++ x :: post)).length : Int) + 1), .int .i64 ((cn (marks (pre ++ x :: post)) : Int) + oneI u), .slice (some ⟨g, 0, none⟩) LL cap] 88 (0, 0)) := by rw [HT.out, q7]; exact hp7
        have hI := HI.out
        rw [HW.out] at hI
        have hS : Fr [xb] w2 W6 := by
          have e1 : Fr [xb] w2 W := by rw [← HW1.out]; exact Fr.of_set w2 ⟨xb, 0, none⟩ _ (by simp)
          exact e1.trans HF6.out fun _ h => .inl h
        subst q4 q5
        have e := ins_state (D := wc) HR.out q3 hI hS HC3.out HF7 hD
        exact ⟨_, e.1, e.2.1, e.2.2.1, by rw [e.2.2.2, q2], rfl, by simp⟩
      obtain ⟨L', s1, s2, s3, s4, hL', s5⟩ := hst
      rw [← hL'] at s1 s3 s4
      have hin : i = pre.length := HX.out.2.2.2.2.2.1.symm
      have HS1 := Lib.hid s1
      have HS2 := Lib.hid s2
      have HS3 := Lib.hid s3
      have HS4 := Lib.hid s4
      have HS5 := Lib.hid s5
      have HIN := Lib.hid hin
      have HLP := Lib.hid hL'
      replace j0 := cell_of hx7 0
      simp only [List.getElem?_toArray, List.getElem?_cons_zero, List.getElem?_cons_succ] at j0
      clear j1 j2 i0 i1 i2 i3 hx7 hp7 hcut HF7 s1 s2 s3 s4 s5 hin hL'
      by_cases h48 : x.ms.length + 1 ≤ 48
      · have hd3 : decide ((48 : Int) < ((x.ms.length + 1 : Nat) : Int)) = false := by simp; omega
        go_wp2
        go_ret
        exact ⟨rfl, _, L', HS1.out, HS4.out, by rw [HS5.out]; omega, HS2.out, HS3.out⟩
      · have h48' : 48 < x.ms.length + 1 := by omega
        have hsp := split_calls wc p (.slice (some ⟨g, 0, none⟩) LL cap) pre post ⟨xb, .slice A' (x.ms.length + 1) c', x.ms.take k ++ [u] ++ x.ms.drop k⟩ (by rw [← HLP.out]; exact HS1.out) (by simp; omega) (by rw [← HLP.out, HS4.out]; have := HT.out; simp; omega) (by rw [← HLP.out, HS5.out]; have := HLL.out; omega)
        rw [← HLP.out, ← HIN.out] at hsp
        have HSP := Lib.hid hsp
        clear hsp
        go_wp2_with (go_at_call 82; refine HSP.out.mono ?_; rintro e w' ⟨rfl, hpost⟩; have HP := Lib.hid hpost; clear hpost)
        go_ret
        obtain ⟨lv', L2, t1, t2, t3, t4, t5⟩ := HP.out
        refine ⟨rfl, lv', L2, t1, by rw [t2]; exact HS4.out, by rw [t3, HS5.out]; omega, ?_, ?_⟩
        · exact HS2.out.trans t4 HS3.out
        · intro j hj
          rcases t5 j hj with h | h
          · exact HS3.out j h
          · exact .inr (Nat.le_trans HS2.out.size h)
def insS (ms : List Bool) (a : Int) (u : Bool) : Bool × List Bool := if 0 ≤ a ∧ a ≤ ms.length then (true, ms.take a.toNat ++ [u] ++ ms.drop a.toNat) else (false, ms)
theorem ins_calls (w : World) (F : List Nat) (p : Nat) (ms : List Bool) (a : Int) (u : Bool) (h : Ix w F p ms) (hs : ms.length ≤ 1000000) :
    Calls Try.prog 68 #[.pointer (some ⟨p, 0, none⟩), .int .i64 a, .bool u] w fun e w' => e = .returned (.bool (insS ms a u).1) ∧ ∃ F', Ix w' F' p (insS ms a u).2 ∧ Fr F w w' ∧ ∀ j ∈ F', j ∈ F ∨ w.heap.size ≤ j := by
  obtain ⟨lv, L, hR, rfl, rfl, hLn⟩ := h
  obtain ⟨g, cap, rfl, hcap, h0, h1, h2, hrow⟩ := hR.head_cells
  by_cases hin : 0 ≤ a ∧ a ≤ ((marks L).length : Int)
  · obtain ⟨n, rfl⟩ : ∃ n : Nat, a = n := ⟨a.toNat, by omega⟩
    unfold insS
    rw [if_pos hin, Int.toNat_natCast]
    refine (ins_walk w p g cap L n u hR hs (by omega) (by omega)).mono ?_
    rintro e w' ⟨rfl, lv', L', a1, a2, a3, a4, a5⟩
    refine ⟨rfl, _, ⟨lv', L', a1, a2, rfl, ?_⟩, a4, a5⟩
    have : ((marks L).take n ++ [u] ++ (marks L).drop n).length = (marks L).length + 1 := by simp; omega
    show L'.length ≤ ((marks L).take n ++ [u] ++ (marks L).drop n).length + 1
    omega
  · unfold insS
    rw [if_neg hin]
    have hk : ∀ W, w = W → ∃ F', Ix W F' p (marks L) ∧ Fr (fpI p (.slice (some ⟨g, 0, none⟩) L.length cap) L) w W ∧ ∀ j ∈ F', j ∈ fpI p (.slice (some ⟨g, 0, none⟩) L.length cap) L ∨ w.heap.size ≤ j := by
      rintro W rfl
      exact ⟨_, ⟨_, L, hR, rfl, rfl, hLn⟩, Fr.refl _ _, fun _ h => .inl h⟩
    have HK := Lib.hid hk
    clear hrow hR hk hLn hs
    generalize (marks L).length = tot at *
    by_cases h3 : a < 0
    · clear hin
      go_enter Try.func68, Try.ntmps68
      go_wp2
      go_ret
      exact ⟨rfl, HK.out _ rfl⟩
    · have h4 : (tot : Int) < a := by omega
      clear hin
      go_enter Try.func68, Try.ntmps68
      go_wp2
      go_ret
      exact ⟨rfl, HK.out _ rfl⟩
theorem new_state (w : World) (N : Nat) (hN : w.heap.size = N) :
    Ix (((w.alloc (.cells #[.slice none 0 0, .int .i64 0] 102)).alloc (.cells #[.pointer (some ⟨N, 0, none⟩)] 99)).alloc (.cells #[.int .i64 0, .int .i64 0, .slice (some ⟨N + 1, 0, none⟩) 1 1] 88)) (fpI (N + 1 + 1) (.slice (some ⟨N + 1, 0, none⟩) 1 1) [⟨N, .slice none 0 0, []⟩]) (N + 1 + 1) [] := by
  obtain ⟨A, hA⟩ : ∃ A, w.alloc (.cells #[.slice none 0 0, .int .i64 0] 102) = A := ⟨_, rfl⟩
  obtain ⟨B, hB⟩ : ∃ B, A.alloc (.cells #[.pointer (some ⟨N, 0, none⟩)] 99) = B := ⟨_, rfl⟩
  obtain ⟨C, hC⟩ : ∃ C, B.alloc (.cells #[.int .i64 0, .int .i64 0, .slice (some ⟨N + 1, 0, none⟩) 1 1] 88) = C := ⟨_, rfl⟩
  rw [hA, hB, hC]
  have sA : A.heap.size = N + 1 := by rw [← hA, alloc_sz, hN]
  have sB : B.heap.size = N + 1 + 1 := by rw [← hB, alloc_sz, sA]
  have a0 : A.heap[N]? = some (.cells #[.slice none 0 0, .int .i64 0] 102 (0, 0)) := by rw [← hA, ← hN]; exact heap_new _ _
  have b0 : B.heap[N]? = some (.cells #[.slice none 0 0, .int .i64 0] 102 (0, 0)) := by rw [← hB, heap_old _ _ (by omega)]; exact a0
  have b1 : B.heap[N + 1]? = some (.cells #[.pointer (some ⟨N, 0, none⟩)] 99 (0, 0)) := by rw [← hB, ← sA]; exact heap_new _ _
  have c0 : C.heap[N]? = some (.cells #[.slice none 0 0, .int .i64 0] 102 (0, 0)) := by rw [← hC, heap_old _ _ (by omega)]; exact b0
  have c1 : C.heap[N + 1]? = some (.cells #[.pointer (some ⟨N, 0, none⟩)] 99 (0, 0)) := by rw [← hC, heap_old _ _ (by omega)]; exact b1
  have c2 : C.heap[N + 1 + 1]? = some (.cells #[.int .i64 0, .int .i64 0, .slice (some ⟨N + 1, 0, none⟩) 1 1] 88 (0, 0)) := by rw [← hC, ← sB]; exact heap_new _ _
  refine ⟨.slice (some ⟨N + 1, 0, none⟩) 1 1, [⟨N, .slice none 0 0, []⟩], ⟨c2, ?_, ?_, ?_, by simp⟩, rfl, rfl, by simp⟩
  · exact srow1.2 ⟨rfl, .inr ⟨N + 1, 1, _, rfl, c1, Nat.le_refl _, by unfold maxLen; omega, Nat.le_refl _, fun h => h.elim, rfl⟩⟩
  · intro x hx
    simp at hx
    subst hx
    exact ⟨c0, srow1.2 ⟨rfl, .inl ⟨rfl, rfl⟩⟩⟩
  · simp [fpB, ob, Value.ownBlock]
set_option maxHeartbeats 4000000 in
theorem new_calls (w : World) : Calls Try.prog 40 #[] w fun e w' => ∃ p F, e = .returned (.pointer (some ⟨p, 0, none⟩)) ∧ Ix w' F p [] ∧ Below w.heap.size w w' ∧ ∀ k ∈ F, w.heap.size ≤ k := by
  go_enter Try.func40, Try.ntmps40
  go_wp2
  go_ret
  refine ⟨_, _, rfl, new_state w _ rfl, ?_, ?_⟩
  · exact (((Below.refl _ _).alloc (Nat.le_refl _) _).alloc (by rw [alloc_sz]; omega) _).alloc (by rw [alloc_sz, alloc_sz]; omega) _
  · intro k hk
    simp [fpI, fpB, ob, Value.ownBlock] at hk
    omega
end Go.Proofs.Ytehdjdediobemaa.PC
namespace Go.Proofs.Ytehdjdediobemaa.PC
open Go.RowKit Go.Proofs.YtehdjdediobemaaW.PrintWords Go.Proofs.YtehdjdediobemaaW.PrintLast Go.Proofs.YtehdjdediobemaaW.PrintMore Go.Proofs.Ytehdjdediobemaa.K Go.Proofs.Ytehdjdediobemaa.IX
attribute [local go_sem] max2_int min2_int max_two min_two max_three min_three max_four min_four
set_option linter.unusedVariables false
set_option linter.unusedSimpArgs false
/-- An index that the law made, and nothing that was there has changed. -/
def Ow (w0 w : World) (p : Nat) (ms : List Bool) : Prop := ∃ F, Ix w F p ms ∧ (∀ k ∈ F, w0.heap.size ≤ k) ∧ Below w0.heap.size w0 w
theorem Ow.below {w0 w w' : World} {p : Nat} {ms : List Bool} (h : Ow w0 w p ms) (hb : Below w.heap.size w w') : Ow w0 w' p ms := by
  obtain ⟨F, h1, h2, h3⟩ := h
  exact ⟨F, h1.below hb, h2, below_step h3 hb⟩
theorem Ow.bel {w0 w : World} {p : Nat} {ms : List Bool} (h : Ow w0 w p ms) : Below w0.heap.size w0 w := by
  obtain ⟨F, h1, h2, h3⟩ := h
  exact h3
end Go.Proofs.Ytehdjdediobemaa.PC
namespace Go.Proofs.Ytehdjdediobemaa.K
open Go.RowKit Go.MapKept Go.ChangeMaps
set_option linter.unusedVariables false
set_option linter.unusedSimpArgs false
/-- What a row of pairs tells of a key. -/
def look : List (Int × Int) → Int → Int
  | [], _ => 0
  | e :: m, a => if e.1 = a then e.2 else look m a
def ent (x : (Int × Int) × Nat) : MapEntry := ⟨.int .i64 x.1.1, .int .i64 x.1.2, x.2⟩
def ents (m : List (Int × Int)) : List MapEntry := m.zipIdx.map ent
/-- A map of whole numbers in memory: what it tells of each key (0 of a key that is not there). -/
def IM (w : World) (b : Nat) (f : Int → Int) : Prop :=
  ∃ m : List (Int × Int), w.heap[b]? = some (.map (ents m).toArray m.length) ∧ (m.map (·.1)).Nodup ∧ ∀ a, look m a = f a
def upd (f : Int → Int) (a c : Int) : Int → Int := fun x => if x = a then c else f x
theorem ents_get (m : List (Int × Int)) (j : Nat) : (ents m)[j]? = (m[j]?).map fun e => ent (e, j) := by
  unfold ents
  rw [List.getElem?_map, List.getElem?_zipIdx]
  cases m[j]? <;> simp
theorem ents_len (m : List (Int × Int)) : (ents m).length = m.length := by simp [ents]
theorem look_none (m : List (Int × Int)) (a : Int) (h : ∀ e ∈ m, e.1 ≠ a) : look m a = 0 := by
  induction m with
  | nil => rfl
  | cons e m ih => rw [look, if_neg (h e (by simp)), ih (fun x hx => h x (by simp [hx]))]
theorem look_at (m : List (Int × Int)) (j : Nat) (e : Int × Int) (hn : (m.map (·.1)).Nodup) (h : m[j]? = some e) : look m e.1 = e.2 := by
  induction m generalizing j with
  | nil => simp at h
  | cons x m ih =>
    rw [List.map_cons, List.nodup_cons] at hn
    cases j with
    | zero => simp at h; subst h; simp [look]
    | succ j =>
      simp at h
      have hne : x.1 ≠ e.1 := fun q => hn.1 (by rw [q]; exact List.mem_map.2 ⟨e, List.mem_of_getElem? h, rfl⟩)
      rw [look, if_neg hne]
      exact ih j hn.2 h
theorem look_snoc (m : List (Int × Int)) (a c x : Int) (h : ∀ e ∈ m, e.1 ≠ a) : look (m ++ [(a, c)]) x = upd (look m) a c x := by
  induction m with
  | nil =>
    simp only [List.nil_append, look, upd]
    by_cases hx : x = a
    · simp [hx]
    · rw [if_neg hx, if_neg (fun q => hx q.symm)]
  | cons e m ih =>
    have he := h e (by simp)
    have ih2 := ih (fun y hy => h y (by simp [hy]))
    simp only [List.cons_append, look, ih2, upd]
    by_cases hx : e.1 = x
    · rw [if_pos hx, if_pos hx, if_neg (fun q => he (hx.trans q))]
    · rw [if_neg hx, if_neg hx]
theorem look_set (m : List (Int × Int)) (j : Nat) (e : Int × Int) (c x : Int) (hn : (m.map (·.1)).Nodup) (h : m[j]? = some e) : look (m.set j (e.1, c)) x = upd (look m) e.1 c x := by
  induction m generalizing j with
  | nil => simp at h
  | cons y m ih =>
    rw [List.map_cons, List.nodup_cons] at hn
    cases j with
    | zero =>
      simp at h; subst h
      simp only [List.set_cons_zero, look, upd]
      by_cases hx : y.1 = x
      · rw [if_pos hx, if_pos hx.symm]
      · rw [if_neg hx, if_neg (fun q => hx q.symm), if_neg hx]
    | succ j =>
      simp at h
      have hne : y.1 ≠ e.1 := fun q => hn.1 (by rw [q]; exact List.mem_map.2 ⟨e, List.mem_of_getElem? h, rfl⟩)
      simp only [List.set_cons_succ, look, ih j hn.2 h, upd]
      by_cases hx : y.1 = x
      · rw [if_pos hx, if_pos hx, if_neg (fun q => hne (hx.trans q))]
      · rw [if_neg hx, if_neg hx]
section
variable {P : Program} {w : World} {b : Nat} {f : Int → Int} {mt kt et : TypeId}
theorem find_ents (m : List (Int × Int)) (a : Int) (hn : (m.map (·.1)).Nodup) :
    (Instr.findNow (.int .i64) (.int .i64 a) (ents m) 0 = some none ∧ (∀ e ∈ m, e.1 ≠ a) ∧ look m a = 0) ∨
      ∃ j c, Instr.findNow (.int .i64) (.int .i64 a) (ents m) 0 = some (some (j, .int .i64 c)) ∧ m[j]? = some (a, c) ∧ look m a = c := by
  rcases findNow_spec (d := .int .i64) (k := .int .i64 a) rfl (ents m) 0 (fun x hx => by
    obtain ⟨y, _, rfl⟩ := List.mem_map.1 hx
    rfl) with ⟨h1, h2⟩ | ⟨j, e, h1, h2, h3⟩
  · have h4 : ∀ e ∈ m, e.1 ≠ a := fun e he q => by
      obtain ⟨i, hi⟩ := List.getElem?_of_mem he
      refine h2 (ent (e, i)) (List.mem_of_getElem? (i := i) (by rw [ents_get, hi]; rfl)) ?_
      show Value.int .i64 e.1 = _
      rw [q]
    exact .inl ⟨h1, h4, look_none m a h4⟩
  · rw [ents_get] at h2
    obtain ⟨y, hy, rfl⟩ := Option.map_eq_some_iff.1 h2
    have h5 : y.1 = a := by injection h3
    refine .inr ⟨j, y.2, ?_, ?_, ?_⟩
    · rw [h1, Nat.zero_add]; rfl
    · rw [hy, ← h5]
    · rw [← h5]; exact look_at m j y hn hy
theorem IM.look_ (h : IM w b f) (hm : P.underlying mt = some (.map kt et)) (hk : P.underlying kt = some (.int .i64)) (hz : (zeroValue et).run P w = .ok (.int .i64 0) w) (a : Int) :
    (Instr.lookup mt (.map (some b)) (.int .i64 a) false).run P w = .ok (.int .i64 (f a)) w := by
  obtain ⟨m, hb, hn, hf⟩ := h
  rw [← hf]
  rcases find_ents m a hn with ⟨h1, _, h3⟩ | ⟨j, c, h1, _, h3⟩
  · rw [h3]
    simp [Instr.lookup, run_underlying hm, Go.MapKept.run_getObj_map hb, run_checkKey hk (k := .int .i64 a) rfl, run_findKey hk h1, Result.andThen, hz]
  · rw [h3]
    simp [Instr.lookup, run_underlying hm, Go.MapKept.run_getObj_map hb, run_checkKey hk (k := .int .i64 a) rfl, run_findKey hk h1, Result.andThen]
theorem modify_same (m : List (Int × Int)) (j : Nat) (a c : Int) (h : m[j]? = some (a, c)) : (ents m).modify j (fun e => { key := .int .i64 a, val := e.val, born := e.born }) = ents m := by
  apply List.ext_getElem?
  intro i
  rw [List.getElem?_modify]
  by_cases q : j = i
  · subst q
    simp only [ents_get, h, if_true, Option.map_some]
    rfl
  · simp [q]
theorem modify_val (m : List (Int × Int)) (j : Nat) (a v c : Int) (h : m[j]? = some (a, v)) : (ents m).modify j (fun e => { key := e.key, val := .int .i64 c, born := e.born }) = ents (m.set j (a, c)) := by
  have hj := (List.getElem?_eq_some_iff.1 h).1
  apply List.ext_getElem?
  intro i
  rw [List.getElem?_modify]
  simp only [ents_get, List.getElem?_set]
  by_cases q : j = i
  · subst q
    simp only [h, if_true, Option.map_some, hj]
    rfl
  · simp [q]
theorem find_born (m : List (Int × Int)) (j : Nat) (h : j < m.length) : (ents m).toArray.findIdx? (fun e => (e.born : Int) == (j : Int)) = some j := by
  rw [List.findIdx?_toArray, List.findIdx?_eq_some_iff_getElem]
  refine ⟨by rw [ents_len]; exact h, ?_, fun i hi => ?_⟩
  · have e := ents_get m j
    rw [List.getElem?_eq_getElem h, List.getElem?_eq_getElem (by rw [ents_len]; exact h)] at e
    injection e with e
    rw [e]
    simp [ent]
  · have e := ents_get m i
    rw [List.getElem?_eq_getElem (show i < m.length by omega), List.getElem?_eq_getElem (show i < (ents m).length by rw [ents_len]; omega)] at e
    injection e with e
    rw [e]
    simp [ent]
    omega
/-- The entry of a key, laid if it is not there; then what is stored into it. -/
theorem IM.entry (h : IM w b f) (hm : P.underlying mt = some (.map kt et)) (hk : P.underlying kt = some (.int .i64)) (hz : ∀ w, (zeroValue et).run P w = .ok (.int .i64 0) w) (a : Int) :
    ∃ (st : Nat) (o : Obj), (Instr.mapEntry mt (.map (some b)) (.int .i64 a)).run P w = .ok (.tuple #[.int .i64 (f a), .int .i64 (st : Int)]) (setBlock w b o) ∧ (setBlock w b o).heap[b]? = some o ∧
      ∀ (w2 : World) (c : Int), w2.heap[b]? = some o → ∃ o2, (Instr.entryStore mt (.map (some b)) (.int .i64 (st : Int)) (.int .i64 c)).run P w2 = .ok () (setBlock w2 b o2) ∧ IM (setBlock w2 b o2) b (upd f a c) := by
  obtain ⟨m, hb, hn, hf⟩ := h
  have key : ∃ (m1 : List (Int × Int)) (j : Nat) (v : Int), m1[j]? = some (a, v) ∧ v = f a ∧ (m1.map (·.1)).Nodup ∧ (∀ c x, look (m1.set j (a, c)) x = upd f a c x) ∧
      (Instr.mapEntry mt (.map (some b)) (.int .i64 a)).run P w = .ok (.tuple #[.int .i64 v, .int .i64 (j : Int)]) (setBlock w b (.map (ents m1).toArray m1.length)) := by
    rcases find_ents m a hn with ⟨h1, h2, h3⟩ | ⟨j, c, h1, h2, h3⟩
    · refine ⟨m ++ [(a, 0)], m.length, 0, by simp, by rw [← hf, h3], ?_, fun c x => ?_, ?_⟩
      · rw [List.map_append, List.nodup_append]
        refine ⟨hn, by simp, fun x hx y hy q => ?_⟩
        simp at hy
        obtain ⟨e, he, rfl⟩ := List.mem_map.1 hx
        exact h2 e he (q.trans hy)
      · rw [List.set_append_right _ _ (Nat.le_refl _), Nat.sub_self]
        show look (m ++ [(a, c)]) x = _
        rw [look_snoc m a c x h2]
        unfold upd
        rw [hf]
      · have e : ents m ++ [⟨.int .i64 a, .int .i64 0, m.length⟩] = ents (m ++ [(a, 0)]) := by
          simp [ents, List.zipIdx_append, ent]
        simp [Instr.mapEntry, run_underlying hm, Go.MapKept.run_getObj_map hb, run_checkKey hk (k := .int .i64 a) rfl, run_findKey hk h1, Result.andThen, hz, Go.MapKept.run_setObj_map _ hb, e, setBlock, goInt]
    · refine ⟨m, j, c, h2, by rw [← hf, h3], hn, fun c2 x => ?_, ?_⟩
      · rw [look_set m j (a, c) c2 x hn h2]
        unfold upd
        rw [hf]
      · have e1 : (ents m)[j]? = some (ent ((a, c), j)) := by rw [ents_get, h2]; rfl
        simp [Instr.mapEntry, run_underlying hm, Go.MapKept.run_getObj_map hb, run_checkKey hk (k := .int .i64 a) rfl, run_findKey hk h1, Result.andThen, e1, ent, run_keyThatStays (d := .int .i64) (k := .int .i64 a) rfl, Go.MapKept.run_setObj_map _ hb, modify_same m j a c h2, setBlock, goInt]
  obtain ⟨m1, j, v, k1, rfl, k3, k4, k5⟩ := key
  have hj := (List.getElem?_eq_some_iff.1 k1).1
  refine ⟨j, _, k5, heap_setBlock_same hb _, fun w2 c hw2 => ⟨.map (ents (m1.set j (a, c))).toArray m1.length, ?_, m1.set j (a, c), ?_, ?_, k4 c⟩⟩
  · simp [Instr.entryStore, Go.MapKept.run_getObj_map hw2, Result.andThen, asInt, asIntOf, find_born m1 j hj, Go.MapKept.run_setObj_map _ hw2, modify_val m1 j a (f a) c k1, setBlock]
  · rw [heap_setBlock_same hw2]
    simp
  · have e : (m1.set j (a, c)).map (·.1) = m1.map (·.1) := by
      rw [List.map_set]
      apply List.ext_getElem?
      intro i
      rw [List.getElem?_set]
      by_cases q : j = i
      · subst q
        rw [List.getElem?_map, k1]
        simp [hj]
      · simp [q]
    rw [e]
    exact k3
theorem IM.keep {w' : World} (h : IM w b f) (hk : w'.heap[b]? = w.heap[b]?) : IM w' b f := by
  obtain ⟨m, hb, h2⟩ := h
  exact ⟨m, hk.trans hb, h2⟩
theorem IM.lt (h : IM w b f) : b < w.heap.size := by
  obtain ⟨m, hb, h2⟩ := h
  exact (Array.getElem?_eq_some_iff.1 hb).1
theorem IM.ne (h : IM w b f) {k : Nat} {cs : Array Value} {t : TypeId} {fz : Nat × Nat} (hc : w.heap[k]? = some (.cells cs t fz)) : b ≠ k := by
  rintro rfl
  obtain ⟨m, hb, h2⟩ := h
  rw [hb] at hc
  cases hc
theorem IM.new (w : World) : IM (w.alloc (.map #[] 0)) w.heap.size (fun _ => 0) := ⟨[], heap_new w _, List.nodup_nil, fun _ => rfl⟩
end
end Go.Proofs.Ytehdjdediobemaa.K
namespace Go.Proofs.Ytehdjdediobemaa.PC
open Go.RowKit Go.Proofs.Ytehdjdediobemaa.K
set_option linter.unusedVariables false
set_option linter.unusedSimpArgs false
theorem ovE (w : World) (ga gb oa ob la ca lb cb : Nat) (hne : ga ≠ gb) {xa xb : Array Value} (ha : w.heap[ga]? = some (.cells xa 80 (0, 0))) (hb : w.heap[gb]? = some (.cells xb 80 (0, 0))) (hk : xb.size ≠ 0) :
    (callFunc 83 #[.slice (some ⟨ga, oa, none⟩) la ca, .slice (some ⟨gb, ob, none⟩) lb cb]).run Try.prog w = .ok (.value (.bool false)) w := by
  rw [run_callFunc_extern Try.func83 (by kernel_rfl) (by kernel_rfl) (by kernel_rfl) (e := Extern.SlicesOverlaps.overlaps #[43, 43] #[4]) (by kernel_rfl),
    run_overlaps2 w 43 4 80 Try.underlying43 2 (fun _ => by kernel_rfl) ga gb oa ob la ca lb cb hne ha hb hk]
  rfl
set_option maxHeartbeats 4000000 in
set_option maxRecDepth 100000 in
theorem insE_shift (w : World) (g n cap i vb : Nat) (cur : Array Value) (c : List Value) (hg : w.heap[g]? = some (.cells cur 80 (0, 0))) (hv : w.heap[vb]? = some (.cells c.toArray 80 (0, 0))) (hne : vb ≠ g) (hc : c.length = 2)
    (h1c : ∀ v ∈ c, v.oneCell' = true) (h1 : ∀ v ∈ cur.toList.take (n * 2), v.oneCell' = true) (hi : i < n) (hroom : n + 1 ≤ cap) (hcap : cap ≤ maxLen) (hcur : cap * 2 ≤ cur.size) :
    Calls Try.prog 71 #[.slice (some ⟨g, 0, none⟩) n cap, .int .i64 i, .slice (some ⟨vb, 0, none⟩) 1 1] w fun e w' =>
      e = .returned (.slice (some ⟨g, 0, none⟩) (n + 1) cap) ∧ ∃ k, w' = (w.drewN k).setRow g (cur.toList.take (i * 2) ++ c ++ (cur.toList.take (n * 2)).drop (i * 2) ++ cur.toList.drop ((n + 1) * 2)).toArray := by
  unfold maxLen at hcap
  have hov : ∀ oa ob la ca lb cb, (callFunc 83 #[.slice (some ⟨vb, oa, none⟩) la ca, .slice (some ⟨g, ob, none⟩) lb cb]).run Try.prog w = .ok (.value (.bool false)) w := fun oa ob la ca lb cb => ovE w vb g oa ob la ca lb cb hne hv hg (by omega)
  have hz2 : ¬ ((i : Int) = (n : Int)) := by omega
  have hw1 : IntKind.i64.wrap ((i : Int) + 1) = (i : Int) + 1 := by rw [IntKind.wrap_i64]; omega
  have hw2 : IntKind.i64.wrap ((n : Int) + 1) = (n : Int) + 1 := by rw [IntKind.wrap_i64]; omega
  have hb1 : (0 : Int) ≤ (i : Int) + 1 := by omega
  have hin : i ≤ n := by omega
  have hb2 : ¬ (cap = i + 1) := by omega
  have hb3 : (i : Int) ≤ (n : Int) + 1 := by omega
  have hb4 : ¬ (cap = i) := by omega
  have hsz : (Try.prog.info? 80).map (·.size) = some 2 := by kernel_rfl
  have hcl : cur.toList.length = cur.size := Array.length_toList
  obtain ⟨tl, htl⟩ : ∃ tl, (cur.toList.take (n * 2)).drop (i * 2) = tl := ⟨_, rfl⟩
  have htll : tl.length = (n - i) * 2 := by rw [← htl, List.length_drop, List.length_take, hcl]; omega
  obtain ⟨row1, hrow1⟩ : ∃ r, (cur.toList.take ((i + 1) * 2) ++ tl ++ cur.toList.drop ((i + 1) * 2 + tl.length)).toArray = r := ⟨_, rfl⟩
  have hcp1 : ∀ ty dc sc, (Builtin.copy_ #[43, 43] ty #[.slice (some ⟨g, (i + 1) * 2, none⟩) (n - i) dc, .slice (some ⟨g, i * 2, none⟩) (n + 1 - i) sc]).run Try.prog w.drew = .ok (goInt ((n - i : Nat) : Int)) (w.drew.setRow g row1) := fun ty dc sc => by
    rw [← hrow1]
    refine run_copy_rowK w.drew 43 43 ty 80 g ((i + 1) * 2) (n - i) dc ⟨g, i * 2, none⟩ (n + 1 - i) sc cur 80 tl 2 (n - i) Try.underlying43 hsz hg (by simp only [Nat.min_def]; split <;> omega) htll (fun j v hj => ?_) (by rw [htll]; omega) (fun v hv => ?_)
    · rw [Addr.add_lit, cell_of (w := w.drew) hg]
      rw [← htl, List.getElem?_drop, List.getElem?_take] at hj
      split at hj
      · rw [← hj]; simp
      · cases hj
    · rw [← htl] at hv
      exact h1 v (List.mem_of_mem_drop hv)
  have hg1 : (w.drew.setRow g row1).heap[g]? = some (.cells row1 80 (0, 0)) := setRow_heap w.drew g cur _ 80 _ hg
  have hrl : row1.size = cur.size := by rw [← hrow1]; simp [htll]; omega
  obtain ⟨row2, hrow2⟩ : ∃ r, (row1.toList.take (i * 2) ++ c ++ row1.toList.drop (i * 2 + c.length)).toArray = r := ⟨_, rfl⟩
  have hcp2 : ∀ (W : World), W = w.drew.setRow g row1 → ∀ ty dc, (Builtin.copy_ #[43, 43] ty #[.slice (some ⟨g, i * 2, none⟩) (n + 1 - i) dc, .slice (some ⟨vb, 0, none⟩) 1 1]).run Try.prog W = .ok (goInt 1) (W.setRow g row2) := fun W hW ty dc => by
    subst hW
    rw [← hrow2]
    refine run_copy_rowK _ 43 43 ty 80 g (i * 2) (n + 1 - i) dc ⟨vb, 0, none⟩ 1 1 row1 80 c 2 1 Try.underlying43 hsz hg1 (by simp only [Nat.min_def]; split <;> omega) (by omega) (fun j v hj => ?_) (by rw [hrl, hc]; omega) h1c
    have hv1 : (w.drew.setRow g row1).heap[vb]? = some (.cells c.toArray 80 (0, 0)) := by rw [setRow_ne _ _ _ hne]; exact hv
    rw [Addr.add_lit, cell_of hv1, Nat.zero_add]
    simpa using hj
  have hfin : row2 = (cur.toList.take (i * 2) ++ c ++ (cur.toList.take (n * 2)).drop (i * 2) ++ cur.toList.drop ((n + 1) * 2)).toArray := by
    rw [← hrow2, ← hrow1, ← htl]
    exact congrArg List.toArray (put_in cur.toList c 2 i n hc hin (by rw [hcl]; omega))
  have HF := Lib.hid hfin
  clear hfin hrow1 hrow2 htll htl hcl hsz hg1 hrl h1 h1c
  go_enter Try.func71, Try.ntmps71
  go_wp2_with (simp only [hov])
  go_region_law (refine step_copy_run rfl _ _ 43 43 rfl _ _ (by simp [Act.eval, Act.put]) (by simp [Act.eval, Act.put]) (hcp1 _ _ _) ?_)
  go_wp2_with (at_builtin; refine wpList_copy_run _ rfl _ _ 43 43 rfl _ _ rfl rfl (hcp2 _ rfl _ _) ?_)
  go_ret
  exact ⟨rfl, 1, by rw [← HF.out, setRow_setRow]; rfl⟩
set_option maxHeartbeats 4000000 in
set_option maxRecDepth 100000 in
theorem insE_end (w : World) (q : Prop) (v : Value) (n vb : Nat) (xs c : List Value) (h : SRow w 80 2 q v n xs) (hv : w.heap[vb]? = some (.cells c.toArray 80 (0, 0))) (hc : c.length = 2)
    (h1c : ∀ v ∈ c, v.oneCell' = true) (hbytes : (n + 1) * 16 ≤ 140737488355328) :
    Calls Try.prog 71 #[v, .int .i64 n, .slice (some ⟨vb, 0, none⟩) 1 1] w fun e w' => ∃ v', e = .returned v' ∧ Ins w 80 2 q v (n + 1) (xs ++ c) v' w' := by
  obtain ⟨v', w', hr, hI⟩ := app_one (P := Try.prog) w 43 80 (.agg #[(.int .i64 0), (.int .i64 0)]) 2 16 q v n xs c vb 1 Try.underlying43 info80 rfl (by decide) h hv hc h1c hbytes (by unfold maxLen; omega) 43
  have HI := Lib.hid hI
  obtain ⟨a, cap, rfl, hca⟩ : ∃ a cap, v = .slice a n cap ∧ n ≤ cap := by
    rcases h.2 with ⟨rfl, rfl⟩ | ⟨g, cap, cur, rfl, _, hn, _⟩
    · exact ⟨none, 0, rfl, Nat.le_refl _⟩
    · exact ⟨_, cap, rfl, hn⟩
  have hnn : n ≤ 8796093022208 := by omega
  clear hI h h1c hc hv
  by_cases hcn : cap = n
  · subst hcn
    go_enter Try.func71, Try.ntmps71
    go_wp2_with (at_builtin; refine Lib.wpList_append_run _ rfl _ _ 43 43 rfl _ _ rfl rfl _ _ hr ?_)
    go_ret
    exact ⟨v', rfl, HI.out⟩
  · go_enter Try.func71, Try.ntmps71
    go_wp2_with (at_builtin; refine Lib.wpList_append_run _ rfl _ _ 43 43 rfl _ _ rfl rfl _ _ hr ?_)
    go_ret
    exact ⟨v', rfl, HI.out⟩
set_option maxHeartbeats 4000000 in
set_option maxRecDepth 100000 in
theorem insE_grow (w : World) (g n cap i vb : Nat) (cur : Array Value) (xs c : List Value) (hg : w.heap[g]? = some (.cells cur 80 (0, 0))) (hv : w.heap[vb]? = some (.cells c.toArray 80 (0, 0))) (hc : c.length = 2)
    (h1c : ∀ v ∈ c, v.oneCell' = true) (h1 : ∀ v ∈ xs, v.oneCell' = true) (hi : i < n) (hn : n ≤ cap) (hroom : cap < n + 1) (hbytes : (n + 1) * 16 ≤ 140737488355328) (hcur : cap * 2 ≤ cur.size) (hxs : cur.toList.take (n * 2) = xs) :
    Calls Try.prog 71 #[.slice (some ⟨g, 0, none⟩) n cap, .int .i64 i, .slice (some ⟨vb, 0, none⟩) 1 1] w fun e w' =>
      ∃ G row, e = .returned (.slice (some ⟨w.heap.size, 0, none⟩) (n + 1) G) ∧ n + 1 ≤ G ∧ G ≤ maxLen ∧ row.size = G * 2 ∧ row.toList.take ((n + 1) * 2) = xs.take (i * 2) ++ c ++ xs.drop (i * 2) ∧
        w'.heap[w.heap.size]? = some (.cells row 80 (0, 0)) ∧ w.grownBy w' none := by
  obtain ⟨i0, hi0, hzz⟩ := Option.map_eq_some_iff.1 info80
  simp only [Prod.mk.injEq] at hzz
  obtain ⟨hz0, hz1, hz2⟩ := hzz
  have hsz : (Try.prog.info? 80).map (·.size) = some 2 := by kernel_rfl
  have hcl : cur.toList.length = cur.size := Array.length_toList
  have hxl : xs.length = n * 2 := by rw [← hxs, List.length_take]; omega
  have hgw := lt_of hg
  have hvw := lt_of hv
  have hsrc : ∀ (W : World), (∀ k, k < w.heap.size → W.heap[k]? = w.heap[k]?) → ∀ o j u, (xs.drop o)[j]? = some u → W.cell? ((⟨g, o, none⟩ : Addr).add j) = some u := fun W hW o j u hj => by
    rw [Addr.add_lit, cell_of ((hW g hgw).trans hg)]
    rw [List.getElem?_drop, ← hxs, List.getElem?_take] at hj
    split at hj
    · simpa using hj
    · cases hj
  have hold : (Builtin.firstCells i0.size i (.slice (some ⟨g, 0, none⟩) i cap)).run Try.prog w.drew = .ok (xs.take (i * 2)).toArray w.drew := by
    rw [hz1]
    refine run_firstCells_some w.drew 2 i ⟨g, 0, none⟩ i cap (xs.take (i * 2)) (by rw [List.length_take]; omega) (fun j v hj => ?_)
    rw [List.getElem?_take] at hj
    split at hj
    · exact hsrc w.drew (fun _ _ => rfl) 0 j v (by simpa using hj)
    · cases hj
  have hrz0 := fun ty => Lib.run_append_grow_zeros (P := Try.prog) w 43 3 ty 80 i0 (.agg #[(.int .i64 0), (.int .i64 0)]) .i64 .i64 Try.underlying43 Try.underlying3 hi0 hz0 (some ⟨g, 0, none⟩) i cap (xs.take (i * 2)) hold (n + 1 - i) (by omega) (by omega) (by omega) (by omega) (by rw [hz2]; omega)
    (by rw [hz2, show i + (n + 1 - i) = n + 1 by omega]; exact growslice_fits hroom hbytes)
  rw [show i + (n + 1 - i) = n + 1 by omega] at hrz0
  have hGn := grownCap_ge w (n + 1) cap 80
  have hGm := grownCap_le_maxLen w (n + 1) cap 80 (by unfold maxLen; omega)
  obtain ⟨G, hG⟩ : ∃ G, grownCap w (n + 1) cap 80 = G := ⟨_, rfl⟩
  rw [hG] at hrz0 hGn hGm
  obtain ⟨Z, hZ⟩ : ∃ Z : List Value, (Builtin.zeroCells (Value.agg #[.int .i64 0, .int .i64 0]).cells (n + 1 - i) ++ Builtin.zeroCells (Value.agg #[.int .i64 0, .int .i64 0]).cells (G - (n + 1))).toList = Z := ⟨_, rfl⟩
  have hZl : Z.length = (G - i) * 2 := by
    rw [← hZ, Array.length_toList, Array.size_append, size_zeroCells, size_zeroCells]
    have : (Value.agg #[Value.int .i64 0, Value.int .i64 0]).cells.size = 2 := by decide
    rw [this]; omega
  obtain ⟨R0, hR0⟩ : ∃ R : Array Value, (xs.take (i * 2) ++ Z).toArray = R := ⟨_, rfl⟩
  have hrow0 : (xs.take (i * 2)).toArray ++ Builtin.zeroCells (Value.agg #[.int .i64 0, .int .i64 0]).cells (n + 1 - i) ++ Builtin.zeroCells (Value.agg #[.int .i64 0, .int .i64 0]).cells (G - (n + 1)) = R0 := by
    rw [← hR0, ← hZ]
    apply Array.ext'
    simp [List.append_assoc]
  rw [hrow0] at hrz0
  obtain ⟨hp1, hp2, hp3⟩ := put_new xs c Z 2 i n hxl hc (by omega) (by rw [hZl]; omega)
  have hR0t : R0.toList = xs.take (i * 2) ++ Z := by rw [← hR0]
  rw [← hR0t] at hp1 hp2 hp3
  have hR0s : R0.size = G * 2 := by
    rw [← Array.length_toList, hR0t, List.length_append, List.length_take, hZl]; omega
  obtain ⟨R1, hR1⟩ : ∃ R : Array Value, (R0.toList.take (i * 2) ++ c ++ R0.toList.drop (i * 2 + c.length)).toArray = R := ⟨_, rfl⟩
  have hR1t : R1.toList = R0.toList.take (i * 2) ++ c ++ R0.toList.drop (i * 2 + c.length) := by rw [← hR1]
  rw [← hR1t] at hp1 hp2 hp3
  obtain ⟨R2, hR2⟩ : ∃ R : Array Value, (R1.toList.take ((i + 1) * 2) ++ xs.drop (i * 2) ++ R1.toList.drop ((i + 1) * 2 + (xs.drop (i * 2)).length)).toArray = R := ⟨_, rfl⟩
  have hR2t : R2.toList = R1.toList.take ((i + 1) * 2) ++ xs.drop (i * 2) ++ R1.toList.drop ((i + 1) * 2 + (xs.drop (i * 2)).length) := by rw [← hR2]
  rw [← hR2t] at hp1 hp3
  have hR1s : R1.size = G * 2 := by rw [← Array.length_toList, hp2, Array.length_toList]; exact hR0s
  have hR2s : R2.size = G * 2 := by rw [← Array.length_toList, hp1, Array.length_toList]; exact hR0s
  obtain ⟨N, hN⟩ : ∃ N, w.heap.size = N := ⟨_, rfl⟩
  obtain ⟨W0, hW0⟩ : ∃ W, w.drew.alloc (.cells R0 80) = W := ⟨_, rfl⟩
  have hW0g : W0.heap[N]? = some (.cells R0 80 (0, 0)) := by rw [← hW0, ← hN]; exact heap_alloc_new w.drew _
  have hW0o : ∀ k, k < w.heap.size → W0.heap[k]? = w.heap[k]? := fun k hk => by rw [← hW0]; exact heap_alloc_old w.drew _ hk
  have hdl : (xs.drop (i * 2)).length = (n - i) * 2 := by rw [List.length_drop, hxl]; omega
  have hcpA : ∀ (W : World), W.heap = W0.heap → ∀ ty dc, (Builtin.copy_ #[43, 43] ty #[.slice (some ⟨N, i * 2, none⟩) (n + 1 - i) dc, .slice (some ⟨vb, 0, none⟩) 1 1]).run Try.prog W = .ok (goInt 1) (W.setRow N R1) := fun W hW ty dc => by
    rw [← hR1]
    refine run_copy_rowK W 43 43 ty 80 N (i * 2) (n + 1 - i) dc ⟨vb, 0, none⟩ 1 1 R0 80 c 2 1 Try.underlying43 hsz (by rw [hW]; exact hW0g) (by simp only [Nat.min_def]; split <;> omega) (by omega) (fun j v hj => ?_) (by rw [hR0s, hc]; omega) h1c
    rw [Addr.add_lit, cell_of (e := 80) (fz := (0, 0)) (by rw [hW]; exact (hW0o vb hvw).trans hv), Nat.zero_add]
    simpa using hj
  have hcpB : ∀ (W : World), W.heap = (W0.setRow N R1).heap → ∀ ty dc sc, (Builtin.copy_ #[43, 43] ty #[.slice (some ⟨N, (i + 1) * 2, none⟩) (n - i) dc, .slice (some ⟨g, i * 2, none⟩) (n - i) sc]).run Try.prog W = .ok (goInt ((n - i : Nat) : Int)) (W.setRow N R2) := fun W hW ty dc sc => by
    rw [← hR2]
    refine run_copy_rowK W 43 43 ty 80 N ((i + 1) * 2) (n - i) dc ⟨g, i * 2, none⟩ (n - i) sc R1 80 (xs.drop (i * 2)) 2 (n - i) Try.underlying43 hsz (by rw [hW]; exact setRow_heap W0 N R0 R1 80 _ hW0g) (by simp only [Nat.min_def]; split <;> omega) hdl (fun j v hj => ?_) (by rw [hR1s, hdl]; omega)
      (fun v hv => h1 v (List.mem_of_mem_drop hv))
    exact hsrc W (fun k hk => by rw [hW, setRow_ne _ _ _ (by omega)]; exact hW0o k hk) (i * 2) j v hj
  have hW0s : W0.heap.size = N + 1 := by rw [← hW0, ← hN]; simp
  have hW0e : W0.os = w.os ∧ W0.tape = w.tape ∧ W0.output = w.output := by rw [← hW0]; exact ⟨rfl, rfl, rfl⟩
  have hfr : ∀ W : World, W.os = W0.os → W.tape = W0.tape → W.output = W0.output → W.heap = ((W0.setRow N R1).setRow N R2).heap → W.heap[w.heap.size]? = some (.cells R2 80 (0, 0)) ∧ w.grownBy W none := fun W a1 a2 a3 a4 => by
    refine ⟨by rw [hN, a4]; exact setRow_heap _ N R1 R2 80 _ (setRow_heap W0 N R0 R1 80 _ hW0g), a1.trans hW0e.1, a2.trans hW0e.2.1, a3.trans hW0e.2.2, by rw [a4]; simp [hW0s]; omega, fun k hk _ => ?_⟩
    rw [a4, setRow_ne _ _ _ (by omega), setRow_ne _ _ _ (by omega)]
    exact hW0o k hk
  have HF := Lib.hid hfr
  have HP := Lib.hid hp3
  have HG := Lib.hid (show n + 1 ≤ G ∧ G ≤ maxLen ∧ R2.size = G * 2 from ⟨hGn, hGm, hR2s⟩)
  have hG63 : G ≤ 9223372036854775807 := by unfold maxLen at hGm; omega
  have hrz : ∀ ty, (Builtin.append_ #[43, 3] ty #[.slice (some ⟨g, 0, none⟩) i cap, .int .i64 ((n : Int) + 1 - (i : Int))]).run Try.prog w = .ok (.slice (some ⟨N, 0, none⟩) (n + 1) G) W0 := fun ty => by
    rw [show (n : Int) + 1 - (i : Int) = ((n + 1 - i : Nat) : Int) by omega, ← hN, ← hW0]
    exact hrz0 ty
  have hz2 : ¬ ((i : Int) = (n : Int)) := by omega
  have hw1 : IntKind.i64.wrap ((i : Int) + 1) = (i : Int) + 1 := by rw [IntKind.wrap_i64]; omega
  have hw2 : IntKind.i64.wrap ((n : Int) + 1) = (n : Int) + 1 := by rw [IntKind.wrap_i64]; omega
  have hb1 : (0 : Int) ≤ (i : Int) + 1 := by omega
  have hin : i ≤ n := by omega
  have hb3 : (i : Int) ≤ (n : Int) := by omega
  have hGi : ¬ (G = i) := by omega
  have hGim : ¬ (G = i + 1) := by omega
  have hci : ¬ (cap = i) := by omega
  have hr3 : (cap : Int) < (n : Int) + 1 := by omega
  clear hfr hW0e hp1 hp2 hp3 hGm hR1t hR2t hR0t hR1 hR2 hR0 hR0s hR1s hR2s hrow0 hrz0 hZ hZl hold hsrc hW0 hW0g hW0o hW0s hG hdl hxs hxl hcl hsz hz0 hz1 hz2 hi0 h1 h1c hg hv hc hgw hvw
  go_enter Try.func71, Try.ntmps71
  go_wp2_with (first
    | (at_builtin; refine Lib.wpList_append_run _ rfl _ _ _ _ rfl _ _ rfl rfl _ _ (hrz _) ?_)
    | (at_builtin; refine wpList_copy_run _ rfl _ _ 43 43 rfl _ _ rfl rfl (hcpA _ rfl _ _) ?_))
  go_region_law (refine step_copy_run rfl _ _ 43 43 rfl _ _ (by simp [Act.eval, Act.put]) (by simp [Act.eval, Act.put]) (hcpB ((W0.setRow N R1).drew) rfl 3 (G - (i + 1)) (cap - i)) ?_)
  go_wp2
  go_ret
  exact ⟨G, R2, by subst hN; rfl, HG.out.1, HG.out.2.1, HG.out.2.2, HP.out, (HF.out ((W0.setRow N R1).drew.setRow N R2) rfl rfl rfl rfl).1, (HF.out ((W0.setRow N R1).drew.setRow N R2) rfl rfl rfl rfl).2⟩
/-- slices.Insert of one element. -/
theorem insE_calls (w : World) (q : Prop) (v : Value) (n i vb : Nat) (xs c : List Value) (h : SRow w 80 2 q v n xs) (hi : i ≤ n) (hv : w.heap[vb]? = some (.cells c.toArray 80 (0, 0))) (hne : v.ownBlock ≠ some vb) (hc : c.length = 2)
    (h1c : ∀ v ∈ c, v.oneCell' = true) (h1 : ∀ v ∈ xs, v.oneCell' = true) (hbytes : (n + 1) * 16 ≤ 140737488355328) :
    Calls Try.prog 71 #[v, .int .i64 i, .slice (some ⟨vb, 0, none⟩) 1 1] w fun e w' => ∃ v', e = .returned v' ∧ Ins w 80 2 q v (n + 1) (xs.take (i * 2) ++ c ++ xs.drop (i * 2)) v' w' := by
  have hlen := h.1
  by_cases hin : i = n
  · subst hin
    have e := insE_end w q v i vb xs c h hv hc h1c hbytes
    rw [List.take_of_length_le (by omega), List.drop_of_length_le (by omega), List.append_nil]
    exact e
  · rcases h.2 with ⟨rfl, rfl⟩ | ⟨g, cap, cur, rfl, hg, hn, hm, hs, hq, htk⟩
    · omega
    · have hvg : vb ≠ g := fun e => hne (by rw [e]; rfl)
      have hcl : cur.toList.length = cur.size := Array.length_toList
      have hnc : n * 2 ≤ cap * 2 := Nat.mul_le_mul_right _ hn
      have hlx : (xs.take (i * 2) ++ c ++ xs.drop (i * 2)).length = (n + 1) * 2 := by
        rw [List.length_append, List.length_append, List.length_take, List.length_drop, hlen, hc]; omega
      by_cases hr : n + 1 ≤ cap
      · refine (insE_shift w g n cap i vb cur c hg hv hvg hc h1c (by rw [htk]; exact h1) (by omega) hr hm hs).mono ?_
        rintro e w' ⟨rfl, k, rfl⟩
        have hsz : (cur.toList.take (i * 2) ++ c ++ (cur.toList.take (n * 2)).drop (i * 2) ++ cur.toList.drop ((n + 1) * 2)).length = cur.size := by
          simp only [List.length_append, List.length_take, List.length_drop, hcl, hc]; omega
        refine ⟨_, rfl, ⟨hlx, .inr ⟨g, cap, _, rfl, setRow_heap (w.drewN k) g cur _ 80 _ hg, hr, hm, ?_, ?_, ?_⟩⟩, ⟨rfl, rfl, rfl, by simp, fun k' hk hk' => ?_⟩, .inl rfl, by simp [Value.ownBlock]⟩
        · rw [List.size_toArray, hsz]; exact hs
        · intro hq'; rw [List.size_toArray, hsz]; exact hq hq'
        · have e1 : cur.toList.take (i * 2) = xs.take (i * 2) := by rw [← htk, List.take_take, Nat.min_eq_left (by omega)]
          rw [htk, e1]
          exact List.take_left' hlx
        · exact setRow_ne _ _ _ (fun e => hk' (by rw [e]; rfl))
      · refine (insE_grow w g n cap i vb cur xs c hg hv hc h1c h1 (by omega) hn (by omega) hbytes hs htk).mono ?_
        rintro e w' ⟨G, row, rfl, hG1, hG2, hR, hRt, hh, hgr⟩
        exact ⟨_, rfl, ⟨hlx, .inr ⟨w.heap.size, G, row, rfl, hh, hG1, hG2, Nat.le_of_eq hR.symm, fun _ => hR.symm, hRt⟩⟩, grownBy_none hgr, .inr ⟨_, rfl, Nat.le_refl _⟩, by simp [Value.ownBlock]⟩
end Go.Proofs.Ytehdjdediobemaa.PC
namespace Go.Proofs.Ytehdjdediobemaa.I
set_option linter.unusedVariables false
/-- An entry of a vector: an author, a number. -/
structure En where
  a : Int
  s : Int
deriving DecidableEq
/-- The author's number; 0: none. -/
def sq : List En → Int → Int
  | [], _ => 0
  | e :: v, x => if e.a = x then e.s else sq v x
/-- A vector in which an author's number is as great. -/
def wt : List En → Int → Int → List En
  | [], x, s => if 0 < s then [⟨x, s⟩] else []
  | e :: v, x, s => if e.a < x then e :: wt v x s else if e.a = x then ⟨x, max e.s s⟩ :: v else if 0 < s then ⟨x, s⟩ :: e :: v else e :: v
/-- Authors rise. -/
def up : List En → Prop
  | [] => True
  | e :: v => (∀ f ∈ v, e.a < f.a) ∧ up v
/-- Each entry is one of these. -/
def fit (v : List En) : Prop := ∀ e ∈ v, 0 ≤ e.a ∧ e.a < 4194304 ∧ 1 ≤ e.s ∧ e.s ≤ 4294967295
def vec (v : List En) : Prop := up v ∧ fit v
theorem fit_cons {e : En} {v : List En} : fit (e :: v) ↔ (0 ≤ e.a ∧ e.a < 4194304 ∧ 1 ≤ e.s ∧ e.s ≤ 4294967295) ∧ fit v := by simp [fit]
theorem vec_nil : vec [] := ⟨trivial, fun e h => by simp at h⟩
theorem vec_tail {e : En} {v : List En} (h : vec (e :: v)) : vec v := ⟨h.1.2, (fit_cons.1 h.2).2⟩
theorem sq_none {v : List En} {x : Int} (h : ∀ e ∈ v, e.a ≠ x) : sq v x = 0 := by
  induction v with
  | nil => rfl
  | cons e v ih =>
    simp only [sq]
    rw [if_neg (h e (by simp))]
    exact ih fun f hf => h f (List.mem_cons_of_mem _ hf)
theorem sq_pos {v : List En} (h : vec v) (x : Int) : 0 ≤ sq v x ∧ sq v x ≤ 4294967295 ∧ (sq v x = 0 ↔ ∀ e ∈ v, e.a ≠ x) := by
  induction v with
  | nil => simp [sq]
  | cons e v ih =>
    have hf := (fit_cons.1 h.2).1
    have ih := ih (vec_tail h)
    simp only [sq]
    by_cases k : e.a = x
    · rw [if_pos k]
      refine ⟨by omega, by omega, ?_⟩
      constructor
      · intro g; omega
      · intro g; exact absurd k (g e (by simp))
    · rw [if_neg k]
      refine ⟨ih.1, ih.2.1, ?_⟩
      rw [ih.2.2]
      simp [k]
/-- What With puts in is there. -/
theorem wt_mem {v : List En} {x s : Int} {f : En} (h : f ∈ wt v x s) : f ∈ v ∨ f.a = x := by
  induction v with
  | nil =>
    simp only [wt] at h
    split at h
    · simp at h; right; rw [h]
    · simp at h
  | cons e v ih =>
    simp only [wt] at h
    split at h
    · rcases List.mem_cons.1 h with rfl | h
      · exact .inl (by simp)
      · rcases ih h with h | h
        · exact .inl (List.mem_cons_of_mem _ h)
        · exact .inr h
    · split at h
      · rcases List.mem_cons.1 h with rfl | h
        · exact .inr rfl
        · exact .inl (List.mem_cons_of_mem _ h)
      · split at h
        · rcases List.mem_cons.1 h with rfl | h
          · exact .inr rfl
          · exact .inl h
        · exact .inl h
theorem wt_up {v : List En} (h : up v) (x s : Int) : up (wt v x s) := by
  induction v with
  | nil =>
    simp only [wt]
    split
    · exact ⟨fun f hf => by simp at hf, trivial⟩
    · trivial
  | cons e v ih =>
    simp only [wt]
    split
    · rename_i hlt
      refine ⟨fun f hf => ?_, ih h.2⟩
      rcases wt_mem hf with hf | hf
      · exact h.1 f hf
      · omega
    · split
      · rename_i heq
        exact ⟨fun f hf => by have := h.1 f hf; simp only; omega, h.2⟩
      · split
        · refine ⟨fun f hf => ?_, h⟩
          rcases List.mem_cons.1 hf with rfl | hf
          · simp only; omega
          · have := h.1 f hf; simp only; omega
        · exact h
theorem wt_fit {v : List En} (h : fit v) {x s : Int} (hx : 0 ≤ x ∧ x < 4194304) (hs : s ≤ 4294967295) : fit (wt v x s) := by
  induction v with
  | nil =>
    simp only [wt]
    split
    · intro f hf; simp at hf; subst hf; simp only; omega
    · exact h
  | cons e v ih =>
    have he := (fit_cons.1 h).1
    have hv := (fit_cons.1 h).2
    simp only [wt]
    split
    · exact fit_cons.2 ⟨he, ih hv⟩
    · split
      · exact fit_cons.2 ⟨by simp only; omega, hv⟩
      · split
        · exact fit_cons.2 ⟨by simp only; omega, h⟩
        · exact h
theorem wt_vec {v : List En} (h : vec v) {x s : Int} (hx : 0 ≤ x ∧ x < 4194304) (hs : s ≤ 4294967295) : vec (wt v x s) := ⟨wt_up h.1 x s, wt_fit h.2 hx hs⟩
theorem wt_sq {v : List En} (h : vec v) {x s : Int} (hs : 0 ≤ s) (y : Int) : sq (wt v x s) y = if y = x then max (sq v x) s else sq v y := by
  induction v with
  | nil =>
    simp only [wt]
    by_cases h0 : 0 < s
    · rw [if_pos h0]; simp only [sq]
      by_cases e : y = x
      · subst e; simp; omega
      · rw [if_neg (fun k => e k.symm), if_neg e]
    · rw [if_neg h0]; simp only [sq]
      split <;> omega
  | cons e v ih =>
    have ih := ih (vec_tail h)
    have he := (fit_cons.1 h.2).1
    simp only [wt]
    by_cases h1 : e.a < x
    · rw [if_pos h1]
      simp only [sq]
      rw [ih]
      by_cases e1 : e.a = y
      · rw [if_pos e1, if_pos e1, if_neg (by omega)]
      · rw [if_neg e1, if_neg e1, if_neg (show ¬ e.a = x by omega)]
    · rw [if_neg h1]
      by_cases h2 : e.a = x
      · rw [if_pos h2]
        simp only [sq]
        by_cases e1 : y = x
        · subst e1
          rw [if_pos rfl, if_pos rfl, if_pos h2]
        · rw [if_neg (fun k => e1 k.symm), if_neg e1, if_neg (by omega)]
      · rw [if_neg h2]
        have hn : sq (e :: v) x = 0 := sq_none fun f hf => by
          rcases List.mem_cons.1 hf with rfl | hf
          · exact h2
          · have := h.1.1 f hf; omega
        rw [hn]
        by_cases h0 : 0 < s
        · rw [if_pos h0]
          simp only [sq]
          by_cases e1 : y = x
          · subst e1
            rw [if_pos rfl, if_pos rfl]; omega
          · rw [if_neg (fun k => e1 k.symm), if_neg e1]
        · rw [if_neg h0]
          by_cases e1 : y = x
          · subst e1; rw [if_pos rfl, hn]; omega
          · rw [if_neg e1]
theorem wt_len (v : List En) (x s : Int) : (wt v x s).length ≤ v.length + 1 := by
  induction v with
  | nil => simp only [wt]; split <;> simp
  | cons e v ih =>
    simp only [wt]
    repeat' split
    all_goals simp
    exact ih
end Go.Proofs.Ytehdjdediobemaa.I
