/- A part of the proof of rgaPlays_holds: its texts, one behind the other, as far as the proof stands on them. (Lines of its texts on the printed words and functions began as lines that a program of the kit had written for this statement.) -/
import Derived.ArgAppend
import Derived.Below
import Derived.BigQuiet
import Derived.BigRegion
import Derived.ChangeMaps4
import Derived.ChangeMaps5
import Derived.ChangeOld
import Derived.Deep.AppendLies
import Derived.Deep.CutBlock
import Derived.Deep.CutRange
import Derived.Deep.DeepCutAuto
import Derived.Deep.DrawnRows
import Derived.Deep.Draws
import Derived.Deep.LoopGhost
import Derived.Deep.OwnRows
import Derived.Deep.QuietTactic
import Derived.Deep.RegionHeld3
import Derived.Deep.RegionLaw
import Derived.Deep.RegionWith
import Derived.KernelRfl
import Derived.Laws.BitsLemmas
import Derived.Laws.BytesArg
import Derived.Laws.CopyRow
import Derived.Laws.Cover4
import Derived.Laws.Externs
import Derived.Laws.IdiomCopy
import Derived.Laws.MakeOwn
import Derived.Laws.NewBlocks
import Derived.Laws.OwnMore
import Derived.Laws.Rows
import Derived.Laws.Slices
import Derived.Laws.StructEq
import Derived.Lib.AppendStr
import Derived.Lib.AppendZeros
import Derived.Lib.AppendZerosOnto
import Derived.Lib.ConvBytes
import Derived.Lib.Hide
import Derived.Lib.JoinLaws
import Derived.Lib.Overlaps
import Derived.Lib.SmallJoins
import Derived.Lib.Walk
import Derived.MapKept
import Derived.Maps.AppendAt
import Derived.OpenShut
import Derived.OrdersHeld
import Derived.OwnWalk
import Derived.ProofKit
import Derived.RegionTactic
import Derived.RowKit
import Derived.RowKit3
import Derived.StillTail
import Derived.StillTailTactics
import Derived.Tactics
import Derived.Test.YtehdjdediobemaaProg
import Derived.Test.YtehdjdediobemaaRows
import Derived.WalkKit
import Derived.WalkSpells
import Derived.WideLaws
import Derived.Test.YtehdjdediobemaaBV0
namespace Go.Proofs.Ytehdjdediobemaa.OpenS
open Go.ChangeShapes Go.WideShapes Go.ChangeAt Go.Joins
set_option linter.unusedVariables false
set_option maxRecDepth 100000
variable {H : Type} {enc : TypeId × Value → H} {w : World} {base : Nat} {spare : Nat → Bool} {held : Bool}
theorem open31 {r : Reach} {b0 : Nat} {v : Value} {d : DataW H} {p : List MemPlace} (hv : Value.okWide Try.prog w r b0 31 v) (h : DataW.Trod enc Try.prog w base spare held 31 v d p) :
    ∃ a b, v = .agg #[.int .i64 a, .int .i64 b] ∧ (Lit.int .i64 a).wf = true ∧ (Lit.int .i64 b).wf = true := by
  obtain ⟨cs, rfl, hsz⟩ := okWide_struct Try.underlying31 hv
  obtain ⟨fuel, hf⟩ := h
  obtain ⟨a, b, hc, wa, wb⟩ := cells31 hf
  have hc : cs.toList = [.int .i64 a, .int .i64 b] := by simpa [Value.cells] using hc
  exact ⟨a, b, by rw [show cs = cs.toList.toArray by simp, hc], wa, wb⟩
end Go.Proofs.Ytehdjdediobemaa.OpenS
namespace Go.Proofs.Ytehdjdediobemaa.PC
open Go.RowKit Go.Proofs.YtehdjdediobemaaW.PrintWords Go.Proofs.YtehdjdediobemaaW.PrintLast Go.Proofs.YtehdjdediobemaaW.PrintMore Go.Proofs.Ytehdjdediobemaa.K Go.Proofs.Ytehdjdediobemaa.I
attribute [local go_sem] max2_int min2_int max_two min_two max_three min_three max_four min_four
set_option linter.unusedVariables false
set_option linter.unusedSimpArgs false
theorem upS_up {xs : List S80} (h : upS xs) : up (ens xs) := by
  induction xs with
  | nil => trivial
  | cons x xs ih =>
    obtain ⟨h1, h2⟩ := List.pairwise_cons.1 h
    refine ⟨fun f hf => ?_, ih h2⟩
    obtain ⟨y, hy, rfl⟩ := List.mem_map.1 hf
    exact h1 y hy
end Go.Proofs.Ytehdjdediobemaa.PC
namespace Go.Proofs.Ytehdjdediobemaa.PC
open Go.RowKit Go.Proofs.YtehdjdediobemaaW.PrintWords Go.Proofs.YtehdjdediobemaaW.PrintLast Go.Proofs.YtehdjdediobemaaW.PrintMore Go.Proofs.Ytehdjdediobemaa.K Go.Proofs.Ytehdjdediobemaa.IX
attribute [local go_sem] max2_int min2_int max_two min_two max_three min_three max_four min_four
attribute [local go_sem high] eqA31
set_option linter.unusedVariables false
set_option linter.unusedSimpArgs false
def hasS (l : List S75) (x : S31) : Bool := decide (0 ≤ placeS l x)
theorem has_calls (w : World) (F : List Nat) (p : Nat) (T : TS) (x : S31) (h : Tx w F p T) (hl : T.l.length ≤ 1000000) : Calls Try.prog 35 #[.pointer (some ⟨p, 0, none⟩), .agg #[.int .i64 x.f0, .int .i64 x.f1]] w fun e w' => e = .returned (.bool (hasS T.l x)) ∧ Below w.heap.size w w' := by
  obtain ⟨x0, x1⟩ := x
  have hb : Below w.heap.size w (w.alloc (.cells #[.int .i64 x0, .int .i64 x1] 31)) := (Below.refl _ w).alloc (Nat.le_refl _) _
  have K1 := Lib.hid (tplace_calls _ F p T ⟨x0, x1⟩ (h.below hb) hl)
  unfold hasS
  generalize placeS T.l ⟨x0, x1⟩ = r at *
  have HB := Lib.hid hb
  clear h hb
  go_enter Try.func35, Try.ntmps35
  go_wp2_with (go_at_call 43; refine K1.out.mono ?_; rintro e w' ⟨rfl, hb⟩; have HB2 := Lib.hid (below_step HB.out hb); clear hb)
  go_ret
  exact ⟨rfl, HB2.out⟩
end Go.Proofs.Ytehdjdediobemaa.PC
namespace Go.Proofs.Ytehdjdediobemaa.PC
open Go.RowKit Go.Proofs.YtehdjdediobemaaW.PrintWords Go.Proofs.YtehdjdediobemaaW.PrintLast Go.Proofs.YtehdjdediobemaaW.PrintMore Go.Proofs.Ytehdjdediobemaa.K Go.Proofs.Ytehdjdediobemaa.I
attribute [local go_sem] max2_int min2_int max_two min_two max_three min_three max_four min_four
set_option linter.unusedVariables false
set_option linter.unusedSimpArgs false
theorem wtS_up {xs : List S80} (h : upS xs) (a s : Int) : upS (wtS xs a s) := up_upS (by rw [wtS_eq h]; exact wt_up (upS_up h) a s)
end Go.Proofs.Ytehdjdediobemaa.PC
namespace Go.Proofs.Ytehdjdediobemaa.PC
open Go.RowKit Go.Proofs.YtehdjdediobemaaW.PrintWords Go.Proofs.YtehdjdediobemaaW.PrintLast Go.Proofs.YtehdjdediobemaaW.PrintMore Go.Proofs.Ytehdjdediobemaa.K Go.Proofs.Ytehdjdediobemaa.I
set_option linter.unusedVariables false
set_option linter.unusedSimpArgs false
theorem rd_ok (xs : List S80) (i : Nat) (h : i < xs.length) : rd_T80 xs (i : Int) = xs[i] := by
  unfold rd_T80; simp [h]
theorem wrap_nat (i : Nat) (h : i ≤ 9000000000000) : wrap64 ((i : Int) + 1) = ((i + 1 : Nat) : Int) := by
  unfold wrap64; omega
open Classical in
theorem seq_l0 (xs : List S80) (a : Int) (hm : xs.length ≤ 1000000) : ∀ (d i k : Nat), xs.length - i = d → i ≤ xs.length → d < k → foolscapref12_Seq.l0 k xs a (i : Int) = some (sq (ens (xs.drop i)) a) := by
  intro d
  induction d with
  | zero =>
    intro i k hd hi hk
    obtain ⟨k, rfl⟩ : ∃ m, k = m + 1 := ⟨k - 1, by omega⟩
    rw [foolscapref12_Seq.l0, if_neg (by omega), List.drop_of_length_le (by omega)]
    rfl
  | succ d ih =>
    intro i k hd hi hk
    obtain ⟨k, rfl⟩ : ∃ m, k = m + 1 := ⟨k - 1, by omega⟩
    have h1 : i < xs.length := by omega
    rw [foolscapref12_Seq.l0, if_pos (by omega), if_pos (by omega), rd_ok _ _ h1, List.drop_eq_getElem_cons h1, wrap_nat _ (by omega), ih (i + 1) k (by omega) (by omega) (by omega)]
    show _ = some (if (toE xs[i]).a = a then (toE xs[i]).s else sq (ens (xs.drop (i + 1))) a)
    by_cases c : xs[i].f0 = a
    · rw [if_pos c, if_pos (show (toE xs[i]).a = a from c)]; rfl
    · rw [if_neg c, if_neg (show ¬ (toE xs[i]).a = a from c)]
theorem rseq_f (xs : List S80) (a : Int) (hm : xs.length ≤ 1000000) (k : Nat) (hk : xs.length < k) : foolscapref12_Seq.f k xs a = some (sq (ens xs) a) := by
  unfold foolscapref12_Seq.f
  rw [show (0 : Int) = ((0 : Nat) : Int) from rfl, seq_l0 xs a hm xs.length 0 k (by omega) (by omega) hk]
  rfl
theorem with_l0 (xs : List S80) (a s : Int) (hm : xs.length ≤ 1000000) : ∀ (d i k : Nat) (out : List S80) (p : Bool), xs.length - i = d → i ≤ xs.length → 2 * d < k → out.length + 2 * d ≤ 3000000 →
    foolscapref12_With.l0 k xs a s out p (i : Int) = some (out ++ mg a s (xs.drop i) p) := by
  intro d
  induction d with
  | zero =>
    intro i k out p hd hi hk ho
    obtain ⟨k, rfl⟩ : ∃ m, k = m + 1 := ⟨k - 1, by omega⟩
    rw [foolscapref12_With.l0, if_neg (by omega), List.drop_of_length_le (by omega)]
    cases p
    · rw [if_neg (by decide), if_pos (by omega)]; rfl
    · rw [if_pos rfl]; simp [mg]
  | succ d ih =>
    intro i k out p hd hi hk ho
    obtain ⟨k, rfl⟩ : ∃ m, k = m + 1 + 1 := ⟨k - 2, by omega⟩
    have h1 : i < xs.length := by omega
    rw [foolscapref12_With.l0, if_pos (by omega), List.drop_eq_getElem_cons h1, rd_ok _ _ h1]
    cases p
    · rw [if_neg (by decide), if_pos (by omega), foolscapref12_With.j1, rd_ok _ _ h1, wrap_nat _ (by omega)]
      simp only [mg]
      by_cases c : xs[i].f0 ≥ a
      · rw [if_pos (decide_eq_true c), if_pos (by omega), Option.bind_some, if_pos (by omega), if_pos (by omega), if_pos c]
        by_cases c2 : xs[i].f0 = a
        · rw [if_pos c2, if_pos c2, ih (i + 1) k _ true (by omega) (by omega) (by omega) (by simp; omega)]; simp
        · rw [if_neg c2, if_neg c2, if_pos (by simp; omega), ih (i + 1) k _ true (by omega) (by omega) (by omega) (by simp; omega)]; simp
      · rw [if_neg (by simpa using c), if_pos (by omega), if_pos (by omega), if_neg c, if_neg (by omega), if_pos (by omega), ih (i + 1) k _ false (by omega) (by omega) (by omega) (by simp; omega)]
        simp
    · rw [if_pos rfl, foolscapref12_With.j1, rd_ok _ _ h1, wrap_nat _ (by omega), if_neg (by decide), if_pos (by omega), if_pos (by omega)]
      simp only [mg]
      by_cases c2 : xs[i].f0 = a
      · rw [if_pos c2, if_pos c2, ih (i + 1) k _ true (by omega) (by omega) (by omega) (by omega)]
      · rw [if_neg c2, if_neg c2, if_pos (by omega), ih (i + 1) k _ true (by omega) (by omega) (by omega) (by simp; omega)]; simp
theorem mg_true (a s : Int) {xs : List S80} (h : ∀ e ∈ xs, e.f0 ≠ a) : mg a s xs true = xs := by
  induction xs with
  | nil => rfl
  | cons e xs ih => simp only [mg]; rw [if_neg (h e (by simp)), ih fun f hf => h f (List.mem_cons_of_mem _ hf)]
theorem mg_false (a s : Int) (hs : 0 < s) {xs : List S80} (h : upS xs) (hq : sq (ens xs) a < s) : ens (mg a s xs false) = wt (ens xs) a s := by
  induction xs with
  | nil => simp only [mg, ens, List.map_nil, wt]; rw [if_pos hs]; rfl
  | cons e xs ih =>
    obtain ⟨h1, h2⟩ := List.pairwise_cons.1 h
    show _ = wt (toE e :: ens xs) a s
    have hq' : (if e.f0 = a then e.f1 else sq (ens xs) a) < s := hq
    simp only [mg, wt]
    by_cases c : e.f0 < a
    · rw [if_neg (by omega), if_pos (show (toE e).a < a from c)]
      rw [if_neg (by omega)] at hq'
      show toE e :: ens (mg a s xs false) = _
      rw [ih h2 hq']
    · rw [if_pos (by omega), if_neg (show ¬ (toE e).a < a from c)]
      by_cases c2 : e.f0 = a
      · rw [if_pos c2, if_pos (show (toE e).a = a from c2), mg_true _ _ fun f hf => by have := h1 f hf; omega]
        rw [if_pos c2] at hq'
        show toE ⟨a, s⟩ :: ens xs = _
        congr 1
        exact En.eq rfl (show s = max e.f1 s by omega)
      · rw [if_neg c2, if_neg (show ¬ (toE e).a = a from c2), if_pos hs, mg_true _ _ fun f hf => by have := h1 f hf; omega]
        rfl
theorem wt_same {v : List En} (h : up v) (a s : Int) (hq : s ≤ sq v a) (hs : 0 < s) : wt v a s = v := by
  induction v with
  | nil => simp only [sq] at hq; omega
  | cons e v ih =>
    simp only [sq] at hq
    simp only [wt]
    by_cases c : e.a < a
    · rw [if_neg (by omega)] at hq
      rw [if_pos c, ih h.2 hq]
    · rw [if_neg c]
      by_cases c2 : e.a = a
      · rw [if_pos c2] at hq
        rw [if_pos c2]
        congr 1
        exact En.eq c2.symm (show max e.s s = e.s by omega)
      · rw [if_neg c2] at hq
        exfalso
        have : sq v a = 0 := sq_none fun f hf => by have := h.1 f hf; omega
        omega
theorem rwith_f {xs : List S80} (h : upS xs) (a s : Int) (hs : 0 < s) (hm : xs.length ≤ 1000000) (k : Nat) (hk : 2 * xs.length < k) : foolscapref12_With.f k xs a s = some (wtS xs a s) := by
  unfold foolscapref12_With.f
  rw [rseq_f xs a hm k (by omega), Option.bind_some]
  by_cases c : sq (ens xs) a ≥ s
  · rw [if_pos c, Option.bind_some, if_pos (by simp; omega)]
    congr 1
    apply ens_inj
    rw [wtS_eq h, wt_same (upS_up h) a s c hs]
    rfl
  · rw [if_neg c, show (0 : Int) = ((0 : Nat) : Int) from rfl, with_l0 xs a s hm xs.length 0 k [] false (by omega) (by omega) hk (by simp; omega)]
    congr 1
    apply ens_inj
    rw [wtS_eq h, List.nil_append, List.drop_zero]
    exact mg_false a s hs h (by omega)
end Go.Proofs.Ytehdjdediobemaa.PC
namespace Go.Proofs.Ytehdjdediobemaa.PC
open Go.RowKit Go.Proofs.YtehdjdediobemaaW.PrintWords Go.Proofs.YtehdjdediobemaaW.PrintLast Go.Proofs.YtehdjdediobemaaW.PrintMore Go.Proofs.Ytehdjdediobemaa.K Go.Proofs.Ytehdjdediobemaa.IX Go.Proofs.Ytehdjdediobemaa.I
attribute [local go_sem] max2_int min2_int max_two min_two max_three min_three max_four min_four
attribute [local go_sem high] eqA31
set_option linter.unusedVariables false
set_option linter.unusedSimpArgs false
def aliveR (L : List S34) (q : S31) : Bool := !deadR L q && hasR L q
theorem deadR_take (L : List S34) (i : Nat) (h : i < L.length) (x : S31) : deadR (L.take (i + 1)) x = (deadR (L.take i) x || (!L[i].f2 && idq L[i].f3 x)) := by
  rw [take_snoc L i h]
  unfold deadR
  rw [List.any_append]
  simp
theorem deadR_at (L : List S34) (i : Nat) (h : i < L.length) (x : S31) (hq : (!L[i].f2 && idq L[i].f3 x) = true) : deadR L x = true := by
  unfold deadR
  rw [List.any_eq_true]
  exact ⟨L[i], List.getElem_mem h, hq⟩
set_option maxHeartbeats 4000000 in
theorem galive_calls (w : World) (q : Nat) (L : List S34) (A : Option Addr) (c : Nat) (x : S31) (h0 : w.cell? ⟨q, 0, none⟩ = some (.slice A L.length c)) (hr : Kd.C k34 w A L.length L) (hc : L.length ≤ c) (hl : L.length ≤ 1000000) :
    Calls Try.prog 37 #[.pointer (some ⟨q, 0, none⟩), .agg #[.int .i64 x.f0, .int .i64 x.f1]] w fun e w' => e = .returned (.bool (aliveR L x)) ∧ Below w.heap.size w w' := by
  obtain ⟨x0, x1⟩ := x
  have HR := Aside0.mk hr
  obtain ⟨W1, hW1⟩ : ∃ W1, w.alloc (.cells #[.int .i64 x0, .int .i64 x1] 31) = W1 := ⟨_, rfl⟩
  have hb : Below w.heap.size w W1 := by rw [← hW1]; exact (Below.refl _ w).alloc (Nat.le_refl _) _
  have hnew : W1.heap[w.heap.size]? = some (.cells #[.int .i64 x0, .int .i64 x1] 31 (0, 0)) := by rw [← hW1]; exact heap_new w _
  have HB := Lib.hid hb
  obtain ⟨len, hlen⟩ : ∃ len, L.length = len := ⟨_, rfl⟩
  have HLEN := Lib.hid hlen
  rw [hlen] at h0 hc hl
  have HS := Lib.hid (fun W (hb2 : Below W1.heap.size W1 W) => show W.cell? ⟨q, 0, none⟩ = some (.slice A len c) ∧ W.cell? ⟨w.heap.size, 0, none⟩ = some (.int .i64 x0) ∧ W.cell? ⟨w.heap.size, 1, none⟩ = some (.int .i64 x1) from
    ⟨((below_step hb hb2).cell (World.block_lt_of_cell? w _ h0)).trans h0, (hb2.cell (lt_of hnew)).trans ((cell_of hnew 0).trans rfl), (hb2.cell (lt_of hnew)).trans ((cell_of hnew 1).trans rfl)⟩)
  clear hr hlen h0 hb hnew
  go_enter Try.func37, Try.ntmps37
  go_wp2
  clear hW1
  go_loopw [5] (fun v5 w' => ∃ (i : Nat), v5 = .int .i64 (i : Int) ∧ i ≤ len ∧ Aside0 (deadR (L.take i) ⟨x0, x1⟩ = false ∧ Below W1.heap.size W1 w')) (fun v5 _ => len - (intOf v5).toNat)
  case atStart => exact ⟨0, rfl, by omega, ⟨rfl, Below.refl _ _⟩⟩
  case round =>
    obtain ⟨i, rfl, hi, HI⟩ := hrel
    obtain ⟨s0, s1, s2⟩ := HS.out _ HI.out.2
    by_cases hlt : i < len
    · have hiL : i < L.length := by rw [HLEN.out]; exact hlt
      obtain ⟨ad, eA, _, _, _, c3, c4, c5, _⟩ := cell_op HR.out (below_step HB.out HI.out.2) i hiL
      subst eA
      have hta := deadR_take L i hiL ⟨x0, x1⟩
      have hat := deadR_at L i hiL ⟨x0, x1⟩
      rw [HI.out.1, Bool.false_or] at hta
      obtain ⟨e, he⟩ : ∃ e, L[i] = e := ⟨_, rfl⟩
      rw [he] at c3 c4 c5 hta hat
      obtain ⟨f0, e2, e3, ⟨e0, e1⟩, e5⟩ := e
      simp only at c3 c4 c5
      cases e3 with
      | false =>
        by_cases hq : idq ⟨e0, e1⟩ ⟨x0, x1⟩ = true
        · have HF := Lib.hid (show aliveR L ⟨x0, x1⟩ = false by unfold aliveR; rw [hat (by simpa using hq)]; rfl)
          have hq2 : (e0 == x0 && e1 == x1) = true := hq
          clear hta hat he hq
          go_wp2
          go_quiet (fail)
          go_wp2
          go_ret
          exact ⟨by rw [HF.out]; rfl, (pw_below_drewN (below_step HB.out HI.out.2) _)⟩
        · have hq2 : (e0 == x0 && e1 == x1) = false := by simpa [idq] using hq
          have HF := Lib.hid (hta.trans (show (!false && idq ⟨e0, e1⟩ ⟨x0, x1⟩) = false from hq2))
          clear hta hat he hq
          go_wp2
          go_quiet (fail)
          go_wp2
          go_roundw
          case rel => exact ⟨i + 1, by go_num, by omega, ⟨HF.out, pw_below_drewN HI.out.2 _⟩⟩
          case measure => simp [intOf]; omega
      | true =>
        have HF := Lib.hid (hta.trans (show (!true && idq ⟨e0, e1⟩ ⟨x0, x1⟩) = false from rfl))
        clear hta hat he
        go_wp2
        go_quiet (fail)
        go_wp2
        go_roundw
        case rel => exact ⟨i + 1, by go_num, by omega, ⟨HF.out, pw_below_drewN HI.out.2 _⟩⟩
        case measure => simp [intOf]; omega
    · obtain rfl : i = len := by omega
      have hfin : aliveR L ⟨x0, x1⟩ = hasR L ⟨x0, x1⟩ := by
        have := HI.out.1
        rw [← HLEN.out, List.take_length] at this
        unfold aliveR
        rw [this]
        rfl
      have HF := Lib.hid hfin
      have hd : decide ((i : Int) < (i : Int)) = false := by simp
      have K1 := Lib.hid (ghas_calls wr q L A c ⟨x0, x1⟩ (by rw [HLEN.out]; exact s0) (Kd.C_below HR.out (below_step HB.out HI.out.2)) (by rw [HLEN.out]; exact hc) (by rw [HLEN.out]; exact hl))
      generalize hasR L ⟨x0, x1⟩ = r at *
      clear hfin
      go_wp2_with (go_at_call 36; refine K1.out.mono ?_; rintro e w' ⟨rfl, hb⟩; have HB2 := Lib.hid hb; clear hb)
      go_ret
      exact ⟨by rw [HF.out]; rfl, below_step (below_step HB.out HI.out.2) HB2.out⟩
set_option maxHeartbeats 4000000 in
theorem gtop_calls (w : World) (q : Nat) (L : List S34) (A : Option Addr) (c : Nat) (h0 : w.cell? ⟨q, 0, none⟩ = some (.slice A L.length c)) (hr : Kd.C k34 w A L.length L) (hc : L.length ≤ c) (hl : L.length ≤ 1000000) :
    Calls Try.prog 59 #[.pointer (some ⟨q, 0, none⟩)] w fun e w' => e = .returned (.int .i64 (topR L)) ∧ w = w' := by
  have HR := Aside0.mk hr
  obtain ⟨len, hlen⟩ : ∃ len, L.length = len := ⟨_, rfl⟩
  have HLEN := Lib.hid hlen
  rw [hlen] at h0 hc hl
  clear hr hlen
  go_enter Try.func59, Try.ntmps59
  go_wp2
  go_loop [3, 4] (fun v3 v4 => ∃ (i : Nat) (s : Int), v4 = .int .i64 (i : Int) ∧ v3 = .int .i64 s ∧ i ≤ len ∧ Aside0 (topR (L.take i) = s)) (fun _ v4 => len - (intOf v4).toNat)
  case atStart => exact ⟨0, 0, rfl, rfl, by omega, ⟨rfl⟩⟩
  case round =>
    obtain ⟨i, s, rfl, rfl, hi, HI⟩ := hrel
    by_cases hlt : i < len
    · have hiL : i < L.length := by rw [HLEN.out]; exact hlt
      obtain ⟨ad, eA, c0, _⟩ := cell_op HR.out (Below.refl _ w) i hiL
      subst eA
      have hta := take_snoc L i hiL
      have hkn := topR_snoc (L.take i) L[i]
      rw [← hta, HI.out] at hkn
      generalize L[i].f0.f0 = e0 at c0 hkn
      obtain ⟨mm, hmm⟩ : ∃ mm, (if s < e0 then e0 else s) = mm := ⟨_, rfl⟩
      have HK := Lib.hid (hkn.trans (show max s e0 = mm by rw [← hmm]; split <;> omega))
      clear hta hkn
      go_wp2
      go_round
      case rel => exact ⟨i + 1, mm, by go_num, rfl, by omega, ⟨HK.out⟩⟩
      case measure => simp [intOf]; omega
    · obtain rfl : i = len := by omega
      have hfin : topR L = s := by
        have := HI.out
        rwa [← HLEN.out, List.take_length] at this
      have HF := Lib.hid hfin
      have hd : decide ((i : Int) < (i : Int)) = false := by simp
      clear hfin
      go_wp2
      go_ret
      exact ⟨by rw [HF.out]; rfl, rfl⟩
end Go.Proofs.Ytehdjdediobemaa.PC
namespace Go.Proofs.Ytehdjdediobemaa.PC
open Go.RowKit Go.Proofs.YtehdjdediobemaaW.PrintWords Go.Proofs.YtehdjdediobemaaW.PrintLast Go.Proofs.YtehdjdediobemaaW.PrintMore Go.Proofs.Ytehdjdediobemaa.K Go.Proofs.Ytehdjdediobemaa.IX Go.Proofs.Ytehdjdediobemaa.I
set_option linter.unusedVariables false
set_option linter.unusedSimpArgs false
theorem sameOps_self (l : List S34) (hl : l.length ≤ 1000000) : foolscapref14_SameOps.f (l.length + 1) l l = some true := by
  unfold foolscapref14_SameOps.f
  rw [if_pos rfl]
  have key : ∀ (m i : Nat), i + m = l.length → foolscapref14_SameOps.l0 (m + 1) l l (i : Int) = some true := by
    intro m
    induction m with
    | zero =>
      intro i hi
      simp only [foolscapref14_SameOps.l0]
      rw [if_neg (by omega)]
    | succ m ih =>
      intro i hi
      rw [foolscapref14_SameOps.l0, if_pos (by omega), if_pos (by omega), if_pos (by omega), if_neg (by simp), wrap_n i (by omega)]
      exact ih (i + 1) (by omega)
  exact key l.length 0 (by omega)
theorem sameOps_is {w : World} {A B : Option Addr} {c d : Nat} {l : List S34} (h1 : Kd.C k34 w A l.length l) (hc : l.length ≤ c) (h2 : Kd.C k34 w B l.length l) (hd : l.length ≤ d) (hl : l.length ≤ 1000000) : Calls Try.prog 58 #[.slice A l.length c, .slice B l.length d] w fun e w' => e = .returned (.bool true) ∧ ∃ n, w' = w.drewN n :=
  (foolscapref14_SameOps.calls _ A c l B d l true w h1 hc h2 hd (sameOps_self l hl)).mono fun _ _ h => ⟨h.1, h.2.out⟩
end Go.Proofs.Ytehdjdediobemaa.PC
namespace Go.Proofs.Ytehdjdediobemaa.PC
open Go.RowKit Go.Proofs.YtehdjdediobemaaW.PrintWords Go.Proofs.YtehdjdediobemaaW.PrintLast Go.Proofs.YtehdjdediobemaaW.PrintMore Go.Proofs.Ytehdjdediobemaa.K Go.Proofs.Ytehdjdediobemaa.IX Go.Proofs.Ytehdjdediobemaa.I
set_option linter.unusedVariables false
set_option linter.unusedSimpArgs false
def opC (o : S34) : Obj := .cells #[.int .i64 o.f0.f0, .int .i64 o.f0.f1, .int .i64 o.f1, .bool o.f2, .int .i64 o.f3.f0, .int .i64 o.f3.f1, .int .i32 o.f4] 34 (0, 0)
theorem St.op_cells {w0 w : World} {b : Nat} {o : S34} {B : As} (h : St w0 w (sep (isBlk b (opC o)) B)) : w.cell? ⟨b, 0, none⟩ = some (.int .i64 o.f0.f0) ∧ w.cell? ⟨b, 1, none⟩ = some (.int .i64 o.f0.f1) ∧ w.cell? ⟨b, 2, none⟩ = some (.int .i64 o.f1) ∧ w.cell? ⟨b, 3, none⟩ = some (.bool o.f2) ∧ w.cell? ⟨b, 4, none⟩ = some (.int .i64 o.f3.f0) ∧ w.cell? ⟨b, 5, none⟩ = some (.int .i64 o.f3.f1) ∧ w.cell? ⟨b, 6, none⟩ = some (.int .i32 o.f4) := by
  have hb := h.blk
  exact ⟨(cell_of hb 0).trans rfl, (cell_of hb 1).trans rfl, (cell_of hb 2).trans rfl, (cell_of hb 3).trans rfl, (cell_of hb 4).trans rfl, (cell_of hb 5).trans rfl, (cell_of hb 6).trans rfl⟩
end Go.Proofs.Ytehdjdediobemaa.PC
namespace Go.Proofs.Ytehdjdediobemaa.PC
open Go.RowKit Go.Proofs.YtehdjdediobemaaW.PrintWords Go.Proofs.YtehdjdediobemaaW.PrintLast Go.Proofs.YtehdjdediobemaaW.PrintMore Go.Proofs.Ytehdjdediobemaa.K Go.Proofs.Ytehdjdediobemaa.IX Go.Proofs.Ytehdjdediobemaa.I
attribute [local go_sem] max2_int min2_int max_two min_two max_three min_three max_four min_four
attribute [local go_sem high] eqA31
set_option linter.unusedVariables false
set_option linter.unusedSimpArgs false
/-- How many of a row, from its head, have greater IDs. -/
def skO (x : S31) : List S34 → Nat
  | [] => 0
  | y :: l => if lessI x y.f0 = true then skO x l + 1 else 0
theorem skO_le (x : S31) (l : List S34) : skO x l ≤ l.length := by
  induction l with
  | nil => exact Nat.le_refl _
  | cons y l ih =>
    simp only [skO]
    split
    · rw [List.length_cons]; omega
    · exact Nat.zero_le _
theorem insK_sk (x : S34) (l : List S34) : insK x l = l.take (skO x.f0 l) ++ [x] ++ l.drop (skO x.f0 l) := by
  induction l with
  | nil => rfl
  | cons y l ih =>
    simp only [insK, skO]
    split
    · rw [ih]; rfl
    · rfl
theorem skO_go (x : S31) (l : List S34) (i : Nat) (h : i < l.length) (hq : lessI x l[i].f0 = true) : i + skO x (l.drop i) = i + 1 + skO x (l.drop (i + 1)) := by
  rw [List.drop_eq_getElem_cons h]
  simp only [skO]
  rw [if_pos hq]
  omega
theorem skO_stop (x : S31) (l : List S34) (i : Nat) (h : i < l.length) (hq : lessI x l[i].f0 = false) : skO x (l.drop i) = 0 := by
  rw [List.drop_eq_getElem_cons h]
  simp only [skO]
  rw [if_neg (by rw [hq]; decide)]
theorem kids_len (q : S31) (M : List S34) : (kids q M).length ≤ M.length := by
  induction M using snoc_ind with
  | h0 => exact Nat.le_refl _
  | h1 M y ih =>
    rw [kids_snoc, List.length_append]
    split
    · have h := skO_le y.f0 (kids q M)
      rw [insK_sk, List.length_append, List.length_append, List.length_take, List.length_drop]
      simp only [List.length_singleton]
      omega
    · simp only [List.length_singleton]; omega
theorem less12_is (a b : S31) (w : World) : Calls Try.prog 94 #[.agg #[.int .i64 a.f0, .int .i64 a.f1], .agg #[.int .i64 b.f0, .int .i64 b.f1]] w fun e w' => e = .returned (.bool (lessI a b)) ∧ Below w.heap.size w w' :=
  foolscapref12_Less.calls a.f0 a.f1 b.f0 b.f1 _ w (by
    unfold foolscapref12_Less.f
    by_cases h1 : a.f0 < b.f0
    · rw [if_pos h1, (lessI_iff _ _).2 (.inl h1)]
    · rw [if_neg h1]
      by_cases h2 : a.f0 = b.f0
      · rw [if_pos h2]
        by_cases h3 : a.f1 < b.f1
        · rw [decide_eq_true h3, (lessI_iff _ _).2 (.inr ⟨h2, h3⟩)]
        · rw [decide_eq_false h3, (lessI_no _ _).2 (by unfold LTi; omega)]
      · rw [if_neg h2, (lessI_no _ _).2 (by unfold LTi; omega)])
theorem St.takes {w0 w : World} {A A2 : Option Addr} {n c : Nat} {out : List S34} {B : As} (h : St w0 w (sep (isRow k34 34 (.slice A n c) out) B)) (m : Nat) (hm : m ≤ out.length) (hA : (if c = m then A else A.map (·.add (m * 7))) = A2) :
    Kd.C k34 w A (out.take m).length (out.take m) ∧ (out.take m).length = m ∧ m ≤ c ∧ Kd.C k34 w A2 (out.drop m).length (out.drop m) ∧ (out.drop m).length = n - m ∧ n - m ≤ c - m := by
  obtain ⟨e, hc, hr⟩ := h.later (Below.refl _ _)
  refine ⟨Kd.C_take hr hm, by rw [List.length_take]; omega, by omega, ?_, by rw [List.length_drop, e], by omega⟩
  have := Kd.C_drop (c := c) hr hm (by omega)
  rw [← hA]
  exact this
set_option maxHeartbeats 8000000 in
set_option maxRecDepth 100000 in
theorem behind_calls (w : World) (q : Nat) (L : List S34) (A : Option Addr) (cap : Nat) (ref : S31) (h0 : w.cell? ⟨q, 0, none⟩ = some (.slice A L.length cap)) (hr : Kd.C k34 w A L.length L) (hc : L.length ≤ cap) (hl : L.length ≤ 1000) :
    Calls Try.prog 85 #[.pointer (some ⟨q, 0, none⟩), .agg #[.int .i64 ref.f0, .int .i64 ref.f1]] w fun e w' => ∃ A' n c', e = .returned (.slice A' n c') ∧ (kids ref L).length = n ∧ St w w' (sep (isRow k34 34 (.slice A' n c') (kids ref L)) emp) := by
  have HRD := Lib.hid hr
  obtain ⟨len, hlen⟩ : ∃ len, L.length = len := ⟨_, rfl⟩
  have HLEN := Lib.hid hlen
  rw [hlen] at hc hl h0
  have HQ := Lib.hid (fun W (hb : Below w.heap.size w W) => show W.cell? ⟨q, 0, none⟩ = some (.slice A len cap) from (hb.cell (World.block_lt_of_cell? w _ h0)).trans h0)
  obtain ⟨x0, x1⟩ := ref
  obtain ⟨rb, hrb⟩ : ∃ rb, w.heap.size = rb := ⟨_, rfl⟩
  have HS := Lib.hid (show St w (w.alloc (.cells #[.int .i64 x0, .int .i64 x1] 31 (0, 0))) (sep (isRow k34 34 (.slice none 0 0) []) (sep (isBlk rb (.cells #[.int .i64 x0, .int .i64 x1] 31 (0, 0))) emp)) from hrb ▸ (((St.nil k34 34 asn_emp (St.emp w)).mkblk (asn_sep (asn_row k34 34 (.slice none 0 0) []) asn_emp) (.cells #[.int .i64 x0, .int .i64 x1] 31 (0, 0))).turn))
  clear hr hlen
  go_enter Try.func85, Try.ntmps85
  go_wp2
  try rw [hrb]
  clear hrb h0
  go_loopg [5, 6] len (fun kq v5 v6 wr => ∃ (i n c : Nat) (A1 : Option Addr), v5 = .slice A1 n c ∧ v6 = .int .i64 (i : Int) ∧ Aside0 (kq + i = len ∧ (kids ⟨x0, x1⟩ (L.take i)).length = n ∧ (n = 0 → A1 = none ∧ c = 0) ∧ St w wr (sep (isRow k34 34 (.slice A1 n c) (kids ⟨x0, x1⟩ (L.take i))) (sep (isBlk rb (.cells #[.int .i64 x0, .int .i64 x1] 31 (0, 0))) emp))))
  case atStart => exact ⟨0, 0, 0, none, rfl, rfl, by omega, rfl, fun _ => ⟨rfl, rfl⟩, HS.out⟩
  case round =>
    obtain ⟨i, n, c, A1, rfl, rfl, HI⟩ := hrel
    have hki := HI.out.1
    have HSI := Lib.hid HI.out.2.2.2
    have HN0 := Lib.hid HI.out.2.2.1
    have HNN := Lib.hid HI.out.2.1
    have cq := HQ.out _ HSI.out.bel
    by_cases hlt : i < len
    · have hil : i < L.length := by rw [HLEN.out]; exact hlt
      obtain ⟨ad, rfl, c0, c1, c2, c3, c4, c5', c6⟩ := cell_op HRD.out HSI.out.bel i hil
      have hd1 : decide (i < len) = true := by simpa using hlt
      have hks := kids_snoc ⟨x0, x1⟩ (L.take i) L[i]
      rw [← take_snoc L i hil] at hks
      have hkl : (kids ⟨x0, x1⟩ (L.take i)).length ≤ 1000 := by
        have h1 := kids_len ⟨x0, x1⟩ (L.take i)
        have h2 := List.length_take_le i L
        omega
      generalize L[i] = o at c0 c1 c2 c3 c4 c5' c6 hks
      generalize kids ⟨x0, x1⟩ (L.take i) = out at HSI HNN hks hkl
      obtain ⟨⟨a0, a1⟩, o2, o3, ⟨y0, y1⟩, o6⟩ := o
      simp only at c0 c1 c2 c3 c4 c5' c6
      have HKS := Lib.hid hks
      have HKL := Lib.hid hkl
      have hd8 : n ≤ 1000 := by have := HNN.out; omega
      have HBO := Lib.hid (show St w (wr.alloc (opC ⟨⟨a0, a1⟩, o2, o3, ⟨y0, y1⟩, o6⟩)) (sep (isBlk wr.heap.size (opC ⟨⟨a0, a1⟩, o2, o3, ⟨y0, y1⟩, o6⟩)) (sep (isRow k34 34 (.slice A1 n c) out) (sep (isBlk rb (.cells #[.int .i64 x0, .int .i64 x1] 31 (0, 0))) emp))) from HSI.out.mkblk (asn_sep (asn_row _ _ _ _) (asn_sep (asn_blk _ _) asn_emp)) _)
      have HDR := Lib.hid (show St w (wr.alloc (opC ⟨⟨a0, a1⟩, o2, o3, ⟨y0, y1⟩, o6⟩)) (sep (isRow k34 34 (.slice A1 n c) out) (sep (isBlk rb (.cells #[.int .i64 x0, .int .i64 x1] 31 (0, 0))) emp)) from HBO.out.snd)
      have rc := HSI.out.snd.blk
      have r0 : wr.cell? ⟨rb, 0, none⟩ = some (.int .i64 x0) := (cell_of rc 0).trans rfl
      have r1 : wr.cell? ⟨rb, 1, none⟩ = some (.int .i64 x1) := (cell_of rc 1).trans rfl
      have ra := HBO.out.snd.snd.blk
      have ra0 : (wr.alloc (.cells #[.int .i64 a0, .int .i64 a1, .int .i64 o2, .bool o3, .int .i64 y0, .int .i64 y1, .int .i32 o6] 34)).cell? ⟨rb, 0, none⟩ = some (.int .i64 x0) := (cell_of ra 0).trans rfl
      have ra1 : (wr.alloc (.cells #[.int .i64 a0, .int .i64 a1, .int .i64 o2, .bool o3, .int .i64 y0, .int .i64 y1, .int .i32 o6] 34)).cell? ⟨rb, 1, none⟩ = some (.int .i64 x1) := (cell_of ra 1).trans rfl
      clear hks hkl rc HI ra
      cases o3 with
      | false =>
        have HE := Lib.hid (show kids ⟨x0, x1⟩ (L.take (i + 1)) = out from by rw [HKS.out]; rfl)
        go_wp2
        go_roundg (len - (i + 1))
        case measure => omega
        case rel => exact ⟨i + 1, n, c, A1, rfl, by go_num, by omega, by rw [HE.out]; exact HNN.out, HN0.out, by rw [HE.out]; exact HDR.out⟩
      | true =>
        by_cases hq : idq ⟨y0, y1⟩ ⟨x0, x1⟩ = true
        · have he := (idq_iff _ _).1 hq
          injection he with e0 e1
          subst e0 e1
          have HE := Lib.hid (show kids ⟨y0, y1⟩ (L.take (i + 1)) = insK ⟨⟨a0, a1⟩, o2, true, ⟨y0, y1⟩, o6⟩ out from by rw [HKS.out]; exact if_pos (by simpa using hq))
          clear hq
          obtain ⟨tb, htb⟩ : ∃ tb, wr.heap.size = tb := ⟨_, rfl⟩
          have HB := Lib.hid (show St w (wr.alloc (.cells #[.int .i64 a0, .int .i64 a1, .int .i64 o2, .bool true, .int .i64 y0, .int .i64 y1, .int .i32 o6] 34)) (sep (isBlk tb (opC ⟨⟨a0, a1⟩, o2, true, ⟨y0, y1⟩, o6⟩)) (sep (isRow k34 34 (.slice A1 n c) out) (sep (isBlk rb (.cells #[.int .i64 y0, .int .i64 y1] 31 (0, 0))) emp))) from htb ▸ HBO.out)
          obtain ⟨W2, hW2⟩ : ∃ W2, wr.alloc (.cells #[.int .i64 a0, .int .i64 a1, .int .i64 o2, .bool true, .int .i64 y0, .int .i64 y1, .int .i32 o6] 34) = W2 := ⟨_, rfl⟩
          rw [hW2] at HB
          obtain ⟨m, hm⟩ : ∃ m, skO ⟨a0, a1⟩ out = m := ⟨_, rfl⟩
          have hmo : m ≤ out.length := by rw [← hm]; exact skO_le _ _
          have HMM := Lib.hid hm
          have hmn : m ≤ n := by have := HNN.out; omega
          have AB := Lib.hid (show Asn (sep (isBlk tb (opC ⟨⟨a0, a1⟩, o2, true, ⟨y0, y1⟩, o6⟩)) (sep (isRow k34 34 (.slice A1 n c) out) (sep (isBlk rb (.cells #[.int .i64 y0, .int .i64 y1] 31 (0, 0))) emp))) from asn_sep (asn_blk _ _) (asn_sep (asn_row _ _ _ _) (asn_sep (asn_blk _ _) asn_emp)))
          have HW2 := Lib.hid hW2
          have HTB := Lib.hid htb
          clear hW2 htb hm
          go_upto_block 2 with (fail)
          rw [HW2.out]
          try rw [HTB.out]
          clear HW2 HTB c0 c1 c2 c3 c4 c5' c6 r0 r1 ra0 ra1 cq
          go_cut [8] from 35 to 50 (fun v8 wx => v8 = .int .i64 (m : Int) ∧ Aside0 (St w wx (sep (isBlk tb (opC ⟨⟨a0, a1⟩, o2, true, ⟨y0, y1⟩, o6⟩)) (sep (isRow k34 34 (.slice A1 n c) out) (sep (isBlk rb (.cells #[.int .i64 y0, .int .i64 y1] 31 (0, 0))) emp)))))
          case first =>
            go_wp2
            go_loopg [8] n (fun kq v8 wr2 => ∃ (k : Nat), v8 = .int .i64 (k : Int) ∧ Aside0 (kq + k = n ∧ k + skO ⟨a0, a1⟩ (out.drop k) = m ∧ St w wr2 (sep (isBlk tb (opC ⟨⟨a0, a1⟩, o2, true, ⟨y0, y1⟩, o6⟩)) (sep (isRow k34 34 (.slice A1 n c) out) (sep (isBlk rb (.cells #[.int .i64 y0, .int .i64 y1] 31 (0, 0))) emp)))))
            case atStart => exact ⟨0, rfl, by omega, by rw [List.drop_zero, HMM.out, Nat.zero_add], HB.out⟩
            case round =>
              obtain ⟨k, rfl, HK⟩ := hrel
              have hkk := HK.out.1
              have HKM := Lib.hid HK.out.2.1
              have HKS := Lib.hid HK.out.2.2
              clear HK
              by_cases hkt : k < n
              · have hko : k < out.length := by rw [HNN.out]; exact hkt
                have hd2 : decide (k < n) = true := by simpa using hkt
                obtain ⟨ad3, rfl, -⟩ := HKS.out.snd.op_row k hko
                have HCE := Lib.hid (fun W (h : St w W (sep (isBlk tb (opC ⟨⟨a0, a1⟩, o2, true, ⟨y0, y1⟩, o6⟩)) (sep (isRow k34 34 (.slice (some ad3) n c) out) (sep (isBlk rb (.cells #[.int .i64 y0, .int .i64 y1] 31 (0, 0))) emp)))) => show W.cell? ⟨tb, 0, none⟩ = some (.int .i64 a0) ∧ W.cell? ⟨tb, 1, none⟩ = some (.int .i64 a1) ∧ W.cell? (ad3.add (k * 7)) = some (.int .i64 out[k].f0.f0) ∧ W.cell? ⟨(ad3.add (k * 7)).block, (ad3.add (k * 7)).off + 1, none⟩ = some (.int .i64 out[k].f0.f1) from by
                  obtain ⟨c0, c1, _⟩ := h.op_cells
                  obtain ⟨ad2, e2, d0, d1, _⟩ := h.snd.op_row k hko
                  injection e2 with e2
                  subst e2
                  exact ⟨c0, c1, d0, d1⟩)
                have HSd := Lib.hid (HKS.out.drew AB.out)
                have hj0 : (0 : Int) ≤ (k : Int) := by omega
                have hj1 : (k : Int) < (n : Int) := by omega
                have KL := Lib.hid (fun W => less12_is ⟨a0, a1⟩ out[k].f0 W)
                have HGO := Lib.hid (fun h => skO_go ⟨a0, a1⟩ out k hko h)
                have HST := Lib.hid (fun h => skO_stop ⟨a0, a1⟩ out k hko h)
                generalize out[k] = z at HCE KL HGO HST
                obtain ⟨⟨z0, z1⟩, z2, z3, z4, z5⟩ := z
                simp only at HCE KL HGO HST
                obtain ⟨ls, hls⟩ : ∃ ls, lessI ⟨a0, a1⟩ ⟨z0, z1⟩ = ls := ⟨_, rfl⟩
                rw [hls] at KL HGO HST
                clear hls
                go_wp2
                go_region_held3 (fun W => W.cell? ⟨tb, 0, none⟩ = some (.int .i64 a0) ∧ W.cell? ⟨tb, 1, none⟩ = some (.int .i64 a1) ∧ W.cell? (ad3.add (k * 7)) = some (.int .i64 z0) ∧ W.cell? ⟨(ad3.add (k * 7)).block, (ad3.add (k * 7)).off + 1, none⟩ = some (.int .i64 z1)) ((first | exact HCE.out _ HSd.out | exact HCE.out _ HS4.out)) (first
                  | (go_at_call 94; refine (KL.out _).mono ?_; rintro e w4 ⟨rfl, hb⟩; have HS4 := Lib.hid (HSd.out.below AB.out hb); clear hb))
                cases ls with
                | true =>
                  go_wp2
                  go_roundg (n - (k + 1))
                  case measure => omega
                  case rel => exact ⟨k + 1, by go_num, by omega, (HGO.out (by first | rfl | trivial)).symm.trans HKM.out, HS4.out⟩
                | false =>
                  have hkm : k = m := by have := HST.out (by first | rfl | trivial); have := HKM.out; omega
                  subst hkm
                  go_wp2
                  go_meet
                  exact ⟨rfl, ⟨HS4.out⟩⟩
              · obtain rfl : k = n := by omega
                have hkm : k = m := by
                  have h1 := HKM.out
                  rw [List.drop_of_length_le (by rw [HNN.out]; exact Nat.le_refl _)] at h1
                  exact h1
                have hd2 : decide (k < k) = false := by simp
                have HKM2 := Lib.hid hkm
                clear hkm
                go_wp2
                go_meet
                exact ⟨by rw [HKM2.out], ⟨HKS.out⟩⟩
          case rest =>
            obtain ⟨W9, rfl⟩ : ∃ W9 : World, W9 = wc := ⟨_, rfl⟩
            obtain ⟨rfl, hcut2⟩ := hcut
            have HC := Lib.hid hcut2.out
            clear hcut2
            have AO := Lib.hid (show Asn (sep (isRow k34 34 (.slice A1 n c) out) (sep (isBlk tb (opC ⟨⟨a0, a1⟩, o2, true, ⟨y0, y1⟩, o6⟩)) (sep (isBlk rb (.cells #[.int .i64 y0, .int .i64 y1] 31 (0, 0))) emp))) from asn_sep (asn_row _ _ _ _) (asn_sep (asn_blk _ _) (asn_sep (asn_blk _ _) asn_emp)))
            have HO := Lib.hid (show St w W9.drew (sep (isRow k34 34 (.slice A1 n c) out) (sep (isBlk tb (opC ⟨⟨a0, a1⟩, o2, true, ⟨y0, y1⟩, o6⟩)) (sep (isBlk rb (.cells #[.int .i64 y0, .int .i64 y1] 31 (0, 0))) emp))) from HC.out.turn.drew AO.out)
            have HSC := Lib.hid (fun W (h : St w W (sep (isRow k34 34 (.slice A1 n c) out) (sep (isBlk tb (opC ⟨⟨a0, a1⟩, o2, true, ⟨y0, y1⟩, o6⟩)) (sep (isBlk rb (.cells #[.int .i64 y0, .int .i64 y1] 31 (0, 0))) emp)))) => show W.cell? ⟨tb, 0, none⟩ = some (.int .i64 a0) ∧ W.cell? ⟨tb, 1, none⟩ = some (.int .i64 a1) ∧ W.cell? ⟨tb, 2, none⟩ = some (.int .i64 o2) ∧ W.cell? ⟨tb, 3, none⟩ = some (.bool true) ∧ W.cell? ⟨tb, 4, none⟩ = some (.int .i64 y0) ∧ W.cell? ⟨tb, 5, none⟩ = some (.int .i64 y1) ∧ W.cell? ⟨tb, 6, none⟩ = some (.int .i32 o6) from h.snd.op_cells)
            obtain ⟨A2, hA2⟩ : ∃ A2, (if c = m then A1 else A1.map (·.add (m * 7))) = A2 := ⟨_, rfl⟩
            have hA1 : (if c = 0 then A1 else A1.map (·.add 0)) = A1 := by
              split
              · rfl
              · cases A1 with
                | none => rfl
                | some x => simp [Addr.add]
            have hmc : m ≤ c := by have := HC.out.snd.later (Below.refl _ _); omega
            have hnc : n ≤ c := by have := HC.out.snd.later (Below.refl _ _); omega
            have HTL := Lib.hid (show (out.take m).length = m by rw [List.length_take]; omega)
            have hsz : ∀ a b : Nat, a ≤ 2000 → b ≤ 2000 → (a + b) * 56 ≤ 140737488355328 := fun a b _ _ => by omega
            have hj0 : (0 : Int) ≤ (m : Int) := by omega
            have hj1 : (m : Int) ≤ (n : Int) := by omega
            have hj2 : (m : Int) ≤ (c : Int) := by omega
            go_wp2
            -- region 12
            refine startZ (z := 11) (S := (fun W => W.cell? ⟨tb, 0, none⟩ = some (.int .i64 a0) ∧ W.cell? ⟨tb, 1, none⟩ = some (.int .i64 a1) ∧ W.cell? ⟨tb, 2, none⟩ = some (.int .i64 o2) ∧ W.cell? ⟨tb, 3, none⟩ = some (.bool true) ∧ W.cell? ⟨tb, 4, none⟩ = some (.int .i64 y0) ∧ W.cell? ⟨tb, 5, none⟩ = some (.int .i64 y1) ∧ W.cell? ⟨tb, 6, none⟩ = some (.int .i32 o6))) (by kernel_rfl) ?_
            show ZG _ _ _ _ _ _ 13 _ _ _
            refine takeW (i := 1) (v := ?_) rfl (by kernel_rfl) (by kernel_rfl) (by kernel_rfl) (by decide) (fun _ _ _ h => h) rfl (by exact HSC.out _ HO.out) ?_ ?_
            rotate_left
            · intro wq; go_simp; try (with_reducible rfl)
            try simp only [Act.put, List.setIfInBounds_toArray, List.set_cons_zero, List.set_cons_succ]
            refine takeW (i := 2) (v := ?_) rfl (by kernel_rfl) (by kernel_rfl) (by kernel_rfl) (by decide) (fun _ _ _ h => h) rfl (by exact HSC.out _ HO.out) ?_ ?_
            rotate_left
            · intro wq; go_simp; try (with_reducible rfl)
            try simp only [Act.put, List.setIfInBounds_toArray, List.set_cons_zero, List.set_cons_succ]
            refine takeW (i := 3) (v := ?_) rfl (by kernel_rfl) (by kernel_rfl) (by kernel_rfl) (by decide) (fun _ _ _ h => h) rfl (by exact HSC.out _ HO.out) ?_ ?_
            rotate_left
            · intro wq; go_simp; try (with_reducible rfl)
            try simp only [Act.put, List.setIfInBounds_toArray, List.set_cons_zero, List.set_cons_succ]
            refine takeZ (i := 5) (f0 := 6) (v := ?_) rfl (by kernel_rfl) (by kernel_rfl) (by kernel_rfl) (by decide) (by kernel_rfl) (fun _ _ _ h => h) rfl (by exact HSC.out _ HO.out) ?_ ?_
            rotate_left
            · intro wq hSw; (try dsimp only at hSw); go_split_ands; go_simp; try (with_reducible rfl)
            try simp only [Act.put, List.setIfInBounds_toArray, List.set_cons_zero, List.set_cons_succ]
            refine takeW (i := 8) (v := ?_) rfl (by kernel_rfl) (by kernel_rfl) (by kernel_rfl) (by decide) (fun _ _ _ h => h) rfl (by exact HSC.out _ HO.out) ?_ ?_
            rotate_left
            · intro wq; go_simp; try (with_reducible rfl)
            try simp only [Act.put, List.setIfInBounds_toArray, List.set_cons_zero, List.set_cons_succ]
            refine takeW (i := 9) (v := ?_) rfl (by kernel_rfl) (by kernel_rfl) (by kernel_rfl) (by decide) (fun _ _ _ h => h) rfl (by exact HSC.out _ HO.out) ?_ ?_
            rotate_left
            · intro wq; go_simp; try (with_reducible rfl)
            try simp only [Act.put, List.setIfInBounds_toArray, List.set_cons_zero, List.set_cons_succ]
            refine takeW (i := 10) (v := ?_) rfl (by kernel_rfl) (by kernel_rfl) (by kernel_rfl) (by decide) (fun _ _ _ h => h) rfl (by exact HSC.out _ HO.out) ?_ ?_
            rotate_left
            · intro wq; go_simp; try (with_reducible rfl)
            try simp only [Act.put, List.setIfInBounds_toArray, List.set_cons_zero, List.set_cons_succ]
            refine twoZ (i := 0) (j := 6) rfl rfl (by kernel_rfl) rfl rfl (fun K hK => ?_) (fun K hK => ?_)
            · have hSA := lits_st flat_Op 34 AO.out HO.out [] (by decide)
              go_simp
              refine hK _ _ (by exact HSC.out _ hSA.snd) ?_
              clear hK K
              try simp only [Act.put, List.setIfInBounds_toArray, List.set_cons_zero, List.set_cons_succ]
              obtain ⟨q1, q2, q3, q4, q5, q6⟩ := hSA.snd.takes m hmo hA2
              refine twoZ (i := 4) (j := 6) rfl rfl (by kernel_rfl) rfl rfl (fun K hK => ?_) (fun K hK => ?_)
              · skip
                obtain ⟨B1, n1, d1, W1, e1, hn1, hS1⟩ := app_st flat_Op (t := 38) (e := 34) (bytes := 56) Try.underlying38 info34 rfl (by decide) AO.out hSA q1 (by rw [q2]; exact q3) (hsz _ _ (by simp) (by rw [q2]; omega)) 38
                rw [List.nil_append, HTL.out] at hn1
                have hn1b := hn1.symm
                subst hn1b
                rw [q2] at e1
                refine Lib.wp_append_run _ _ _ _ _ (by rfl) _ _ (by rfl) (by rfl) _ _ e1 ?_
                refine hK _ _ (by exact HSC.out _ hS1.snd) ?_
                clear hK K
                try simp only [Act.put, List.setIfInBounds_toArray, List.set_cons_zero, List.set_cons_succ]
                have hSX := (lit_st flat_Op 34 (asn_sep (asn_row _ _ _ _) AO.out) hS1 ⟨⟨a0, a1⟩, o2, true, ⟨y0, y1⟩, o6⟩)
                refine oneZ (i := 6) rfl (by kernel_rfl) rfl (fun K hK => ?_)
                go_simp
                refine hK _ _ (by exact HSC.out _ hSX.snd.snd) ?_
                clear hK K
                try simp only [Act.put, List.setIfInBounds_toArray, List.set_cons_zero, List.set_cons_succ]
                have hSY := hSX.turn
                obtain ⟨X2, x2, ex, hxc, hxr⟩ := hSY.snd.reads
                injection ex with ex1 ex2 ex3
                subst ex1 ex3
                obtain ⟨B7, n7, d7, W7, e7, hn7, hS7⟩ := app_st flat_Op (t := 38) (e := 34) (bytes := 56) Try.underlying38 info34 rfl (by decide) (asn_sep (asn_row _ _ _ _) AO.out) hSY hxr hxc (hsz _ _ (by rw [List.nil_append, HTL.out]; omega) (by simp only [List.length_singleton]; omega)) 38
                rw [List.nil_append, List.length_append, HTL.out] at hn7
                have hn7 : n7 = m + 1 := hn7
                subst hn7
                refine oneZ (i := 7) rfl (by kernel_rfl) rfl (fun K hK => ?_)
                refine Lib.wp_append_run _ _ _ _ _ (by rfl) _ _ (by rfl) (by rfl) _ _ e7 ?_
                refine hK _ _ (by exact HSC.out _ hS7.snd.snd) ?_
                clear hK K
                try simp only [Act.put, List.setIfInBounds_toArray, List.set_cons_zero, List.set_cons_succ]
                obtain ⟨t1, t2, t3, t4, t5, t6⟩ := hS7.snd.snd.takes m hmo hA2
                obtain ⟨B8, n8, d8, W8, e8, hn8, hS8⟩ := app_st flat_Op (t := 38) (e := 34) (bytes := 56) Try.underlying38 info34 rfl (by decide) (asn_sep (asn_row _ _ _ _) AO.out) hS7 t4 (by rw [t5]; exact t6) (hsz _ _ (by rw [List.nil_append, List.length_append, HTL.out]; simp only [List.length_singleton]; omega) (by rw [t5]; omega)) 38
                rw [t5] at e8
                have HE8 := Lib.hid e8
                have HS8 := Lib.hid (show St w W8 (sep (isRow k34 34 (.slice B8 n8 d8) (out.take m ++ [⟨⟨a0, a1⟩, o2, true, ⟨y0, y1⟩, o6⟩] ++ out.drop m)) (sep (isBlk rb (.cells #[.int .i64 y0, .int .i64 y1] 31 (0, 0))) emp)) from hS8.turn.snd.turn.snd.turn.snd)
                have HN8 := Lib.hid (show n8 = (out.take m ++ ([⟨⟨a0, a1⟩, o2, true, ⟨y0, y1⟩, o6⟩] : List S34) ++ out.drop m).length from hn8)
                have hn9 : n8 = 0 → B8 = none ∧ d8 = 0 := fun h => by
                  have := HN8.out
                  rw [h, List.length_append, List.length_append, List.length_singleton] at this
                  omega
                have HN9 := Lib.hid hn9
                clear e8 hS8 hn8 hn9 t1 t2 t3 t4 t5 t6 hS7 e7 hxc hxr ex2 e1 hS1
                try clear q1 q2 q3 q4 q5 q6
                refine seqZ (l := _ :: _) rfl rfl (by kernel_rfl) (by decide) ?_
                go_wp2_with (at_builtin; refine Lib.wpList_append_run _ rfl _ _ _ _ rfl _ _ rfl rfl _ _ HE8.out ?_)
                go_roundg (len - (i + 1))
                case measure => omega
                case rel => exact ⟨i + 1, n8, d8, B8, rfl, by go_num, by omega, by rw [HE.out, insK_sk, HMM.out]; exact HN8.out.symm, HN9.out, by rw [HE.out, insK_sk, HMM.out]; exact HS8.out⟩
              · have hSX := (lit_st flat_Op 34 (asn_sep (asn_row _ _ _ _) AO.out) hSA ⟨⟨a0, a1⟩, o2, true, ⟨y0, y1⟩, o6⟩).turn
                go_simp
                refine hK _ _ (by exact HSC.out _ hSX.snd.snd) ?_
                clear hK K
                try simp only [Act.put, List.setIfInBounds_toArray, List.set_cons_zero, List.set_cons_succ]
                have u := hSX.snd.snd.takes m hmo hA2
                rw [alloc_sz] at hSX
                obtain ⟨B1, n1, d1, W1, e1, hn1, hS1⟩ := app_st flat_Op (t := 38) (e := 34) (bytes := 56) Try.underlying38 info34 rfl (by decide) (asn_sep (asn_row _ _ _ _) AO.out) hSX u.1 (by rw [q2]; exact q3) (hsz _ _ (by simp) (by rw [q2]; omega)) 38
                rw [List.nil_append, HTL.out] at hn1
                have hn1b := hn1.symm
                subst hn1b
                rw [q2] at e1
                refine oneZ (i := 4) rfl (by kernel_rfl) rfl (fun K hK => ?_)
                refine Lib.wp_append_run _ _ _ _ _ (by rfl) _ _ (by rfl) (by rfl) _ _ e1 ?_
                refine hK _ _ (by exact HSC.out _ hS1.snd.snd) ?_
                clear hK K
                try simp only [Act.put, List.setIfInBounds_toArray, List.set_cons_zero, List.set_cons_succ]
                obtain ⟨X2, x2, ex, hxc, hxr⟩ := hS1.snd.reads
                injection ex with ex1 ex2 ex3
                subst ex1 ex3
                obtain ⟨B7, n7, d7, W7, e7, hn7, hS7⟩ := app_st flat_Op (t := 38) (e := 34) (bytes := 56) Try.underlying38 info34 rfl (by decide) (asn_sep (asn_row _ _ _ _) AO.out) hS1 hxr hxc (hsz _ _ (by rw [List.nil_append, HTL.out]; omega) (by simp only [List.length_singleton]; omega)) 38
                rw [List.nil_append, List.length_append, HTL.out] at hn7
                have hn7 : n7 = m + 1 := hn7
                subst hn7
                refine oneZ (i := 7) rfl (by kernel_rfl) rfl (fun K hK => ?_)
                refine Lib.wp_append_run _ _ _ _ _ (by rfl) _ _ (by rfl) (by rfl) _ _ e7 ?_
                refine hK _ _ (by exact HSC.out _ hS7.snd.snd) ?_
                clear hK K
                try simp only [Act.put, List.setIfInBounds_toArray, List.set_cons_zero, List.set_cons_succ]
                obtain ⟨t1, t2, t3, t4, t5, t6⟩ := hS7.snd.snd.takes m hmo hA2
                obtain ⟨B8, n8, d8, W8, e8, hn8, hS8⟩ := app_st flat_Op (t := 38) (e := 34) (bytes := 56) Try.underlying38 info34 rfl (by decide) (asn_sep (asn_row _ _ _ _) AO.out) hS7 t4 (by rw [t5]; exact t6) (hsz _ _ (by rw [List.nil_append, List.length_append, HTL.out]; simp only [List.length_singleton]; omega) (by rw [t5]; omega)) 38
                rw [t5] at e8
                have HE8 := Lib.hid e8
                have HS8 := Lib.hid (show St w W8 (sep (isRow k34 34 (.slice B8 n8 d8) (out.take m ++ [⟨⟨a0, a1⟩, o2, true, ⟨y0, y1⟩, o6⟩] ++ out.drop m)) (sep (isBlk rb (.cells #[.int .i64 y0, .int .i64 y1] 31 (0, 0))) emp)) from hS8.turn.snd.turn.snd.turn.snd)
                have HN8 := Lib.hid (show n8 = (out.take m ++ ([⟨⟨a0, a1⟩, o2, true, ⟨y0, y1⟩, o6⟩] : List S34) ++ out.drop m).length from hn8)
                have hn9 : n8 = 0 → B8 = none ∧ d8 = 0 := fun h => by
                  have := HN8.out
                  rw [h, List.length_append, List.length_append, List.length_singleton] at this
                  omega
                have HN9 := Lib.hid hn9
                clear e8 hS8 hn8 hn9 t1 t2 t3 t4 t5 t6 hS7 e7 hxc hxr ex2 e1 hS1
                try clear q1 q2 q3 q4 q5 q6
                refine seqZ (l := _ :: _) rfl rfl (by kernel_rfl) (by decide) ?_
                go_wp2_with (at_builtin; refine Lib.wpList_append_run _ rfl _ _ _ _ rfl _ _ rfl rfl _ _ HE8.out ?_)
                go_roundg (len - (i + 1))
                case measure => omega
                case rel => exact ⟨i + 1, n8, d8, B8, rfl, by go_num, by omega, by rw [HE.out, insK_sk, HMM.out]; exact HN8.out.symm, HN9.out, by rw [HE.out, insK_sk, HMM.out]; exact HS8.out⟩
            · have hSX := lit_st flat_Op 34 AO.out HO.out ⟨⟨a0, a1⟩, o2, true, ⟨y0, y1⟩, o6⟩
              go_simp
              refine hK _ _ (by exact HSC.out _ hSX.snd) ?_
              clear hK K
              try simp only [Act.put, List.setIfInBounds_toArray, List.set_cons_zero, List.set_cons_succ]
              have hSA := lits_st flat_Op 34 (asn_sep (asn_row _ _ _ _) AO.out) hSX [] (by decide)
              refine oneZ (i := 0) rfl (by kernel_rfl) rfl (fun K hK => ?_)
              go_simp
              refine hK _ _ (by exact HSC.out _ hSA.snd.snd) ?_
              clear hK K
              try simp only [Act.put, List.setIfInBounds_toArray, List.set_cons_zero, List.set_cons_succ]
              obtain ⟨q1, q2, q3, q4, q5, q6⟩ := hSA.snd.snd.takes m hmo hA2
              rw [alloc_sz] at hSA
              obtain ⟨B1, n1, d1, W1, e1, hn1, hS1⟩ := app_st flat_Op (t := 38) (e := 34) (bytes := 56) Try.underlying38 info34 rfl (by decide) (asn_sep (asn_row _ _ _ _) AO.out) hSA q1 (by rw [q2]; exact q3) (hsz _ _ (by simp) (by rw [q2]; omega)) 38
              rw [List.nil_append, HTL.out] at hn1
              have hn1b := hn1.symm
              subst hn1b
              rw [q2] at e1
              refine oneZ (i := 4) rfl (by kernel_rfl) rfl (fun K hK => ?_)
              refine Lib.wp_append_run _ _ _ _ _ (by rfl) _ _ (by rfl) (by rfl) _ _ e1 ?_
              refine hK _ _ (by exact HSC.out _ hS1.snd.snd) ?_
              clear hK K
              try simp only [Act.put, List.setIfInBounds_toArray, List.set_cons_zero, List.set_cons_succ]
              obtain ⟨X2, x2, ex, hxc, hxr⟩ := hS1.snd.reads
              injection ex with ex1 ex2 ex3
              subst ex1 ex3
              obtain ⟨B7, n7, d7, W7, e7, hn7, hS7⟩ := app_st flat_Op (t := 38) (e := 34) (bytes := 56) Try.underlying38 info34 rfl (by decide) (asn_sep (asn_row _ _ _ _) AO.out) hS1 hxr hxc (hsz _ _ (by rw [List.nil_append, HTL.out]; omega) (by simp only [List.length_singleton]; omega)) 38
              rw [List.nil_append, List.length_append, HTL.out] at hn7
              have hn7 : n7 = m + 1 := hn7
              subst hn7
              refine oneZ (i := 7) rfl (by kernel_rfl) rfl (fun K hK => ?_)
              refine Lib.wp_append_run _ _ _ _ _ (by rfl) _ _ (by rfl) (by rfl) _ _ e7 ?_
              refine hK _ _ (by exact HSC.out _ hS7.snd.snd) ?_
              clear hK K
              try simp only [Act.put, List.setIfInBounds_toArray, List.set_cons_zero, List.set_cons_succ]
              obtain ⟨t1, t2, t3, t4, t5, t6⟩ := hS7.snd.snd.takes m hmo hA2
              obtain ⟨B8, n8, d8, W8, e8, hn8, hS8⟩ := app_st flat_Op (t := 38) (e := 34) (bytes := 56) Try.underlying38 info34 rfl (by decide) (asn_sep (asn_row _ _ _ _) AO.out) hS7 t4 (by rw [t5]; exact t6) (hsz _ _ (by rw [List.nil_append, List.length_append, HTL.out]; simp only [List.length_singleton]; omega) (by rw [t5]; omega)) 38
              rw [t5] at e8
              have HE8 := Lib.hid e8
              have HS8 := Lib.hid (show St w W8 (sep (isRow k34 34 (.slice B8 n8 d8) (out.take m ++ [⟨⟨a0, a1⟩, o2, true, ⟨y0, y1⟩, o6⟩] ++ out.drop m)) (sep (isBlk rb (.cells #[.int .i64 y0, .int .i64 y1] 31 (0, 0))) emp)) from hS8.turn.snd.turn.snd.turn.snd)
              have HN8 := Lib.hid (show n8 = (out.take m ++ ([⟨⟨a0, a1⟩, o2, true, ⟨y0, y1⟩, o6⟩] : List S34) ++ out.drop m).length from hn8)
              have hn9 : n8 = 0 → B8 = none ∧ d8 = 0 := fun h => by
                have := HN8.out
                rw [h, List.length_append, List.length_append, List.length_singleton] at this
                omega
              have HN9 := Lib.hid hn9
              clear e8 hS8 hn8 hn9 t1 t2 t3 t4 t5 t6 hS7 e7 hxc hxr ex2 e1 hS1
              try clear q1 q2 q3 q4 q5 q6
              refine seqZ (l := _ :: _) rfl rfl (by kernel_rfl) (by decide) ?_
              go_wp2_with (at_builtin; refine Lib.wpList_append_run _ rfl _ _ _ _ rfl _ _ rfl rfl _ _ HE8.out ?_)
              go_roundg (len - (i + 1))
              case measure => omega
              case rel => exact ⟨i + 1, n8, d8, B8, rfl, by go_num, by omega, by rw [HE.out, insK_sk, HMM.out]; exact HN8.out.symm, HN9.out, by rw [HE.out, insK_sk, HMM.out]; exact HS8.out⟩
            -- behind it
        · have hq3 : (y0 == x0 && y1 == x1) = false := by simpa [idq] using hq
          have HE := Lib.hid (show kids ⟨x0, x1⟩ (L.take (i + 1)) = out from by rw [HKS.out]; exact if_neg (by simpa using hq))
          clear hq
          go_wp2
          go_roundg (len - (i + 1))
          case measure => omega
          case rel => exact ⟨i + 1, n, c, A1, rfl, by go_num, by omega, by rw [HE.out]; exact HNN.out, HN0.out, by rw [HE.out]; exact HDR.out⟩
    · obtain rfl : i = len := by omega
      have hd1 : decide (i < i) = false := by simp
      have hti : L.take i = L := List.take_of_length_le (by rw [HLEN.out]; exact Nat.le_refl _)
      rw [hti] at HSI HNN
      have HSF := Lib.hid HSI.out.swap.snd.with_emp
      clear HI hti
      go_wp2
      go_ret
      exact ⟨_, _, _, rfl, HNN.out, HSF.out⟩
end Go.Proofs.Ytehdjdediobemaa.PC
namespace Go.Proofs.Ytehdjdediobemaa.PC
open Go.RowKit Go.Proofs.YtehdjdediobemaaW.PrintWords Go.Proofs.YtehdjdediobemaaW.PrintLast Go.Proofs.YtehdjdediobemaaW.PrintMore Go.Proofs.Ytehdjdediobemaa.K Go.Proofs.Ytehdjdediobemaa.IX Go.Proofs.Ytehdjdediobemaa.I
attribute [local go_sem] max2_int min2_int max_two min_two max_three min_three max_four min_four
attribute [local go_sem high] eqA31
set_option linter.unusedVariables false
set_option linter.unusedSimpArgs false
theorem info98 : (Try.prog.info? 98).map (fun i => (i.zero, i.size, i.bytes)) = some (some (.agg #[(.int .i64 0), (.int .i64 0), (.int .i32 0), (.bool false)]), 4, 24) := by kernel_rfl
theorem flat_X : Flat k75 (fun x => [Value.int .i64 x.f0.f0, .int .i64 x.f0.f1, .int .i32 x.f1, .bool x.f2]) := ⟨fun _ => rfl, fun h => k75_open h, fun h => k75_openM h, fun _ _ _ _ => k75_mkM _ _ _ _, fun x u hu => by simp at hu; rcases hu with rfl | rfl | rfl | rfl <;> rfl, (by decide), rfl⟩
theorem tops_len (F : Fo) : F.tops.length ≤ F.flat.length := by
  induction F with
  | nil => exact Nat.le_refl _
  | cons e s n _ ih =>
    simp only [Fo.tops, Fo.flat, List.length_cons, List.length_append]
    omega
/-- The reference's text as it is read. -/
structure RefW (w : World) (q : Nat) (L : List S34) (A : Option Addr) (c : Nat) : Prop where
  cell : w.cell? ⟨q, 0, none⟩ = some (.slice A L.length c)
  row : Kd.C k34 w A L.length L
  cap : L.length ≤ c
  len : L.length ≤ 1000
theorem RefW.below {w W : World} {q : Nat} {L : List S34} {A : Option Addr} {c : Nat} (h : RefW w q L A c) (hb : Below w.heap.size w W) : RefW W q L A c :=
  ⟨(hb.cell (World.block_lt_of_cell? w _ h.cell)).trans h.cell, Kd.C_below h.row hb, h.cap, h.len⟩
theorem alive_has {L : List S34} {e : S34} (h : e ∈ L) (h2 : e.f2 = true) : aliveR L e.f0 = !deadR L e.f0 := by
  have : hasR L e.f0 = true := by
    unfold hasR
    rw [List.any_eq_true]
    exact ⟨e, h, by rw [h2, idq_self]; rfl⟩
  unfold aliveR
  rw [this, Bool.and_true]
theorem St.rebase {w0 W w : World} {A : As} (h : St W w A) (hb : Below w0.heap.size w0 W) : St w0 w A := by
  obtain ⟨F, h1, h2, h3⟩ := h
  exact ⟨F, h1, below_step hb h2, fun k hk => Nat.le_trans hb.size (h3 k hk)⟩
theorem walk_app {w0 w4 w5 : World} {C : As} {A9 : Option Addr} {n9 c9 : Nat} {v : Value} {xs ys : List S75} (hc : Asn C) (h : St w0 w4 (sep (isRow k75 98 v xs) C)) (h9 : St w4 w5 (sep (isRow k75 98 (.slice A9 n9 c9) ys) emp)) (h1 : xs.length ≤ 2000) (h2 : ys.length ≤ 2000) :
    ∃ B' n' d' w', (Builtin.append_ #[95, 95] 95 #[v, .slice A9 n9 c9]).run Try.prog w5 = .ok (.slice B' n' d') w' ∧ n' = (xs ++ ys).length ∧ St w0 w' (sep (isRow k75 98 (.slice B' n' d') (xs ++ ys)) C) := by
  obtain ⟨e, hcap, hr⟩ := h9.later (Below.refl _ _)
  obtain ⟨B', n', d', w', k1, k2, k3⟩ := app_st flat_X (t := 95) (e := 98) (bytes := 24) Try.underlying95 info98 rfl (by decide) hc (h.below (asn_sep (asn_row _ _ _ _) hc) h9.bel) hr (by rw [e]; exact hcap) (by omega) 95
  rw [e] at k1
  exact ⟨B', n', d', w', k1, k2, k3⟩
set_option maxHeartbeats 8000000 in
set_option maxRecDepth 100000 in
theorem walk_calls (q : Nat) (L : List S34) (A : Option Addr) (cap : Nat) : ∀ (m : Nat) (F : Fo), F.flat.length < m → F.flat.length ≤ 1000 → rep L F → ∀ (w : World) (ref : S31), RefW w q L A cap → F.tops = kids ref L →
    Calls Try.prog 74 #[.pointer (some ⟨q, 0, none⟩), .agg #[.int .i64 ref.f0, .int .i64 ref.f1]] w fun e w' => ∃ A' n c', e = .returned (.slice A' n c') ∧ (F.flat.map (toX L)).length = n ∧ St w w' (sep (isRow k75 98 (.slice A' n c') (F.flat.map (toX L))) emp) := by
  intro m
  induction m with
  | zero => intro F h; omega
  | succ m ih =>
  intro F hF hF2 hrep w ref hw htops
  have HIH := Lib.hid ih
  have HW := Lib.hid hw
  have HRF := Lib.hid hrep
  have HFM := Lib.hid hF
  obtain ⟨x0, x1⟩ := ref
  have HS := Lib.hid (show St w (w.alloc (.cells #[.int .i64 x0, .int .i64 x1] 31 (0, 0))) (sep (isBlk w.heap.size (.cells #[.int .i64 x0, .int .i64 x1] 31 (0, 0))) emp) from (St.emp w).mkblk asn_emp (.cells #[.int .i64 x0, .int .i64 x1] 31 (0, 0)))
  have KB := Lib.hid (show ∀ W, Below w.heap.size w W → Calls Try.prog 85 #[.pointer (some ⟨q, 0, none⟩), .agg #[.int .i64 x0, .int .i64 x1]] W fun e w' => ∃ A' n c', e = .returned (.slice A' n c') ∧ (kids ⟨x0, x1⟩ L).length = n ∧ St W w' (sep (isRow k34 34 (.slice A' n c') (kids ⟨x0, x1⟩ L)) emp) from fun W hb => behind_calls W q L A cap ⟨x0, x1⟩ (hw.below hb).cell (hw.below hb).row hw.cap hw.len)
  rw [← htops] at KB
  have HT := Lib.hid htops
  clear ih hw hrep hF htops
  go_enter Try.func74, Try.ntmps74
  go_wp2_with (go_at_call 85; refine (KB.out _ HS.out.bel).mono ?_; rintro e w2 ⟨A6, n6, c6, rfl, hn6, hS⟩; have HL6 := Lib.hid hn6; have hn9 := tops_len F; rw [hn6] at hn9; have hn8 : n6 ≤ 1000 := Nat.le_trans hn9 hF2; clear hn9; have HS2 := Lib.hid (show St w w2 (sep (isRow k75 98 (.slice none 0 0) []) (sep (isRow k34 34 (.slice A6 n6 c6) F.tops) emp)) from St.nil k75 98 (asn_sep (asn_row _ _ _ _) asn_emp) (hS.rebase HS.out.bel)); clear hn6 hS)
  go_loopg [5, 7] n6 (fun kq v5 v7 wr => ∃ (i n c : Nat) (A1 : Option Addr) (D : List S34) (N : Fo), v5 = .slice A1 n c ∧ v7 = .int .i64 (i : Int) ∧ Aside0 (kq + i = n6 ∧ rep L N ∧ N.tops = F.tops.drop i ∧ F.flat = D ++ N.flat ∧ (D.map (toX L)).length = n ∧ St w wr (sep (isRow k75 98 (.slice A1 n c) (D.map (toX L))) (sep (isRow k34 34 (.slice A6 n6 c6) F.tops) emp))))
  case atStart => exact ⟨0, 0, 0, none, [], F, rfl, rfl, by omega, HRF.out, rfl, rfl, rfl, HS2.out⟩
  case round =>
    obtain ⟨i, n, c, A1, D, N, rfl, rfl, HI⟩ := hrel
    have hki := HI.out.1
    have HRN := Lib.hid HI.out.2.1
    have HTN := Lib.hid HI.out.2.2.1
    have HFN := Lib.hid HI.out.2.2.2.1
    have HDN := Lib.hid HI.out.2.2.2.2.1
    have HSI := Lib.hid HI.out.2.2.2.2.2
    clear HI
    by_cases hlt : i < n6
    · have hil : i < F.tops.length := by rw [HL6.out]; exact hlt
      have hd1 : decide (i < n6) = true := by simpa using hlt
      have hmem : F.tops[i] ∈ kids ⟨x0, x1⟩ L := by rw [← HT.out]; exact List.getElem_mem hil
      obtain ⟨hm1, hm2, _⟩ := kids_mem _ _ _ hmem
      have hal := alive_has hm1 hm2
      have hdr := HTN.out
      rw [List.drop_eq_getElem_cons hil] at hdr
      obtain ⟨ad, rfl, -⟩ := HSI.out.snd.op_row i hil
      have HCE := Lib.hid (fun W (h : St w W (sep (isRow k75 98 (.slice A1 n c) (D.map (toX L))) (sep (isRow k34 34 (.slice (some ad) n6 c6) F.tops) emp))) => show W.cell? (ad.add (i * 7)) = some (.int .i64 F.tops[i].f0.f0) ∧ W.cell? ⟨(ad.add (i * 7)).block, (ad.add (i * 7)).off + 1, none⟩ = some (.int .i64 F.tops[i].f0.f1) ∧ W.cell? ⟨(ad.add (i * 7)).block, (ad.add (i * 7)).off + 6, none⟩ = some (.int .i32 F.tops[i].f4) from by
        obtain ⟨ad2, e2, c0, c1, _, _, _, _, c6⟩ := h.snd.op_row i hil
        injection e2 with e2
        subst e2
        exact ⟨c0, c1, c6⟩)
      have HCF := Lib.hid (fun W B (h : St w W (sep B (sep (isRow k34 34 (.slice (some ad) n6 c6) F.tops) emp))) => show W.cell? (ad.add (i * 7)) = some (.int .i64 F.tops[i].f0.f0) ∧ W.cell? ⟨(ad.add (i * 7)).block, (ad.add (i * 7)).off + 1, none⟩ = some (.int .i64 F.tops[i].f0.f1) from by
        obtain ⟨ad2, e2, c0, c1, _⟩ := h.snd.op_row i hil
        injection e2 with e2
        subst e2
        exact ⟨c0, c1⟩)
      have KAL := Lib.hid (fun W (hb : Below w.heap.size w W) => galive_calls W q L A cap F.tops[i].f0 (HW.out.below hb).cell (HW.out.below hb).row HW.out.cap (by have := HW.out.len; omega))
      rw [hal] at KAL
      have HTX := Lib.hid (show toX L F.tops[i] = ⟨F.tops[i].f0, F.tops[i].f4, !deadR L F.tops[i].f0⟩ from rfl)
      generalize (!deadR L F.tops[i].f0) = lv at KAL HTX
      cases N with
      | nil => cases hdr
      | cons e s N' =>
        simp only [Fo.tops, List.cons.injEq] at hdr
        obtain ⟨hde, hdt⟩ := hdr
        rw [← hde] at HCE HCF KAL HTX
        obtain ⟨hr1, hr2, hr3⟩ := HRN.out
        have hfl := HFN.out
        have hle : s.flat.length < m ∧ s.flat.length ≤ 1000 ∧ D.length ≤ 1000 := by
          have h1 := congrArg List.length hfl
          simp only [Fo.flat, List.length_append, List.length_cons] at h1
          have h2 := HFM.out
          omega
        have KW := Lib.hid (fun W (hb : Below w.heap.size w W) => HIH.out s hle.1 hle.2.1 hr2 W e.f0 (HW.out.below hb) hr1)
        have HFL := Lib.hid (show F.flat = (D ++ [e] ++ s.flat) ++ N'.flat by rw [hfl]; simp [Fo.flat])
        have HTT := Lib.hid hdt
        have HR3 := Lib.hid hr3
        have hdl := hle.2.2
        have hsl := hle.2.1
        clear hde hdt hr1 hr2 hr3 hfl hle hal hm1 hm2 hmem HFN HRN HTN
        obtain ⟨⟨e0, e1⟩, e2, e3, e4, e6⟩ := e
        simp only at HCE HCF KAL KW HTX
        have AL := Lib.hid (show Asn (sep (isRow k75 98 (.slice A1 n c) (D.map (toX L))) (sep (isRow k34 34 (.slice (some ad) n6 c6) F.tops) emp)) from asn_sep (asn_row _ _ _ _) (asn_sep (asn_row _ _ _ _) asn_emp))
        have HSd := Lib.hid (HSI.out.drew AL.out)
        have HMP := Lib.hid (show (D ++ [(⟨⟨e0, e1⟩, e2, e3, e4, e6⟩ : S34)] ++ s.flat).map (toX L) = D.map (toX L) ++ [(⟨⟨e0, e1⟩, e6, lv⟩ : S75)] ++ s.flat.map (toX L) by rw [List.map_append, List.map_append, List.map_singleton, HTX.out])
        have hj0 : (0 : Int) ≤ (i : Int) := by omega
        have hj1 : (i : Int) < (n6 : Int) := by omega
        go_wp2
        -- region 6
        refine startZ (z := 18) (S := (fun W => W.cell? (ad.add (i * 7)) = some (.int .i64 e0) ∧ W.cell? ⟨(ad.add (i * 7)).block, (ad.add (i * 7)).off + 1, none⟩ = some (.int .i64 e1) ∧ W.cell? ⟨(ad.add (i * 7)).block, (ad.add (i * 7)).off + 6, none⟩ = some (.int .i32 e6))) (by kernel_rfl) ?_
        show ZG _ _ _ _ _ _ 22 _ _ _
        refine takeW (i := 0) (v := ?_) rfl (by kernel_rfl) (by kernel_rfl) (by kernel_rfl) (by decide) (fun _ _ _ h => h) rfl (by exact HCE.out _ HSd.out) ?_ ?_
        rotate_left
        · intro wq; go_simp; try (with_reducible rfl)
        try simp only [Act.put, List.setIfInBounds_toArray, List.set_cons_zero, List.set_cons_succ]
        refine takeW (i := 1) (v := ?_) rfl (by kernel_rfl) (by kernel_rfl) (by kernel_rfl) (by decide) (fun _ _ _ h => h) rfl (by exact HCE.out _ HSd.out) ?_ ?_
        rotate_left
        · intro wq; go_simp; try (with_reducible rfl)
        try simp only [Act.put, List.setIfInBounds_toArray, List.set_cons_zero, List.set_cons_succ]
        refine takeW (i := 2) (v := ?_) rfl (by kernel_rfl) (by kernel_rfl) (by kernel_rfl) (by decide) (fun _ _ _ h => h) rfl (by exact HCE.out _ HSd.out) ?_ ?_
        rotate_left
        · intro wq; go_simp; try (with_reducible rfl)
        try simp only [Act.put, List.setIfInBounds_toArray, List.set_cons_zero, List.set_cons_succ]
        refine takeW (i := 3) (v := ?_) rfl (by kernel_rfl) (by kernel_rfl) (by kernel_rfl) (by decide) (fun _ _ _ h => h) rfl (by exact HCE.out _ HSd.out) ?_ ?_
        rotate_left
        · intro wq; go_simp; try (with_reducible rfl)
        try simp only [Act.put, List.setIfInBounds_toArray, List.set_cons_zero, List.set_cons_succ]
        refine takeW (i := 4) (v := ?_) rfl (by kernel_rfl) (by kernel_rfl) (by kernel_rfl) (by decide) (fun _ _ _ h => h) rfl (by exact HCE.out _ HSd.out) ?_ ?_
        rotate_left
        · intro wq; go_simp; try (with_reducible rfl)
        try simp only [Act.put, List.setIfInBounds_toArray, List.set_cons_zero, List.set_cons_succ]
        refine takeZ (i := 5) (f0 := 6) (v := ?_) rfl (by kernel_rfl) (by kernel_rfl) (by kernel_rfl) (by decide) (by kernel_rfl) (fun _ _ _ h => h) rfl (by exact HCE.out _ HSd.out) ?_ ?_
        rotate_left
        · intro wq hSw; (try dsimp only at hSw); go_split_ands; go_simp; try (with_reducible rfl)
        try simp only [Act.put, List.setIfInBounds_toArray, List.set_cons_zero, List.set_cons_succ]
        refine takeW (i := 6) (v := ?_) rfl (by kernel_rfl) (by kernel_rfl) (by kernel_rfl) (by decide) (fun _ _ _ h => h) rfl (by exact HCE.out _ HSd.out) ?_ ?_
        rotate_left
        · intro wq; go_simp; try (with_reducible rfl)
        try simp only [Act.put, List.setIfInBounds_toArray, List.set_cons_zero, List.set_cons_succ]
        refine takeW (i := 7) (v := ?_) rfl (by kernel_rfl) (by kernel_rfl) (by kernel_rfl) (by decide) (fun _ _ _ h => h) rfl (by exact HCE.out _ HSd.out) ?_ ?_
        rotate_left
        · intro wq; go_simp; try (with_reducible rfl)
        try simp only [Act.put, List.setIfInBounds_toArray, List.set_cons_zero, List.set_cons_succ]
        refine takeW (i := 8) (v := ?_) rfl (by kernel_rfl) (by kernel_rfl) (by kernel_rfl) (by decide) (fun _ _ _ h => h) rfl (by exact HCE.out _ HSd.out) ?_ ?_
        rotate_left
        · intro wq; go_simp; try (with_reducible rfl)
        try simp only [Act.put, List.setIfInBounds_toArray, List.set_cons_zero, List.set_cons_succ]
        refine takeW (i := 9) (v := ?_) rfl (by kernel_rfl) (by kernel_rfl) (by kernel_rfl) (by decide) (fun _ _ _ h => h) rfl (by exact HCE.out _ HSd.out) ?_ ?_
        rotate_left
        · intro wq; go_simp; try (with_reducible rfl)
        try simp only [Act.put, List.setIfInBounds_toArray, List.set_cons_zero, List.set_cons_succ]
        refine takeZ (i := 10) (f0 := 6) (v := ?_) rfl (by kernel_rfl) (by kernel_rfl) (by kernel_rfl) (by decide) (by kernel_rfl) (fun _ _ _ h => h) rfl (by exact HCE.out _ HSd.out) ?_ ?_
        rotate_left
        · intro wq hSw; (try dsimp only at hSw); go_split_ands; go_simp; try (with_reducible rfl)
        try simp only [Act.put, List.setIfInBounds_toArray, List.set_cons_zero, List.set_cons_succ]
        refine takeW (i := 11) (v := ?_) rfl (by kernel_rfl) (by kernel_rfl) (by kernel_rfl) (by decide) (fun _ _ _ h => h) rfl (by exact HCE.out _ HSd.out) ?_ ?_
        rotate_left
        · intro wq; go_simp; try (with_reducible rfl)
        try simp only [Act.put, List.setIfInBounds_toArray, List.set_cons_zero, List.set_cons_succ]
        refine takeW (i := 12) (v := ?_) rfl (by kernel_rfl) (by kernel_rfl) (by kernel_rfl) (by decide) (fun _ _ _ h => h) rfl (by exact HCE.out _ HSd.out) ?_ ?_
        rotate_left
        · intro wq; go_simp; try (with_reducible rfl)
        try simp only [Act.put, List.setIfInBounds_toArray, List.set_cons_zero, List.set_cons_succ]
        refine takeW (i := 13) (v := ?_) rfl (by kernel_rfl) (by kernel_rfl) (by kernel_rfl) (by decide) (fun _ _ _ h => h) rfl (by exact HCE.out _ HSd.out) ?_ ?_
        rotate_left
        · intro wq; go_simp; try (with_reducible rfl)
        try simp only [Act.put, List.setIfInBounds_toArray, List.set_cons_zero, List.set_cons_succ]
        refine takeW (i := 14) (v := ?_) rfl (by kernel_rfl) (by kernel_rfl) (by kernel_rfl) (by decide) (fun _ _ _ h => h) rfl (by exact HCE.out _ HSd.out) ?_ ?_
        rotate_left
        · intro wq; go_simp; try (with_reducible rfl)
        try simp only [Act.put, List.setIfInBounds_toArray, List.set_cons_zero, List.set_cons_succ]
        refine takeW (i := 15) (v := ?_) rfl (by kernel_rfl) (by kernel_rfl) (by kernel_rfl) (by decide) (fun _ _ _ h => h) rfl (by exact HCE.out _ HSd.out) ?_ ?_
        rotate_left
        · intro wq; go_simp; try (with_reducible rfl)
        try simp only [Act.put, List.setIfInBounds_toArray, List.set_cons_zero, List.set_cons_succ]
        refine takeZ (i := 16) (f0 := 6) (v := ?_) rfl (by kernel_rfl) (by kernel_rfl) (by kernel_rfl) (by decide) (by kernel_rfl) (fun _ _ _ h => h) rfl (by exact HCE.out _ HSd.out) ?_ ?_
        rotate_left
        · intro wq hSw; (try dsimp only at hSw); go_split_ands; go_simp; try (with_reducible rfl)
        try simp only [Act.put, List.setIfInBounds_toArray, List.set_cons_zero, List.set_cons_succ]
        refine oneZ (i := 17) rfl (by kernel_rfl) rfl (fun K hK => ?_)
        go_simp
        go_at_call 37
        refine (KAL.out _ HSd.out.bel).mono ?_
        rintro e w3 ⟨rfl, hb3⟩
        have hS3 := HSd.out.below AL.out hb3
        clear hb3
        try go_simp
        refine hK _ _ (by exact HCE.out _ hS3) ?_
        clear hK K
        try simp only [Act.put, List.setIfInBounds_toArray, List.set_cons_zero, List.set_cons_succ]
        refine seqZ (l := _ :: _) rfl rfl (by kernel_rfl) (by decide) ?_
        have hSL := lit_st flat_X 98 AL.out hS3 ⟨⟨e0, e1⟩, e6, lv⟩
        obtain ⟨X2, x2, ex, hxc, hxr⟩ := hSL.reads
        injection ex with ex1 ex2 ex3
        subst ex1 ex3
        obtain ⟨B4, n4, d4, w4, e4, hn4, hS4⟩ := app_st flat_X (t := 95) (e := 98) (bytes := 24) Try.underlying95 info98 rfl (by decide) (asn_sep (asn_row _ _ _ _) asn_emp) hSL.snd hxr hxc (by simp only [List.length_map, List.length_singleton]; omega) 95
        have HE4 := Lib.hid e4
        have HS4 := Lib.hid hS4
        have HN4 := Lib.hid hn4
        clear e4 hS4 hn4 hxc hxr ex2 hSL hS3
        obtain ⟨f0, f1⟩ := HCF.out _ _ HS4.out
        go_wp2_with (first
          | (at_builtin; refine Lib.wpList_append_run _ rfl _ _ _ _ rfl _ _ rfl rfl _ _ HE4.out ?_)
          | (go_at_call 74; refine (KW.out _ HS4.out.bel).mono ?_; rintro e w5 ⟨A9, n9, c9, rfl, hn9, hS9⟩; obtain ⟨B10, n10, d10, w10, e10, hn10, hS10⟩ := walk_app (asn_sep (asn_row _ _ _ _) asn_emp) HS4.out hS9 (by rw [List.length_append, List.length_map, List.length_singleton]; omega) (by rw [List.length_map]; omega); have HE10 := Lib.hid e10; have HN10 := Lib.hid hn10; have HS10 := Lib.hid hS10; clear e10 hn10 hS10 hn9 hS9 f0 f1)
          | (at_builtin; refine Lib.wpList_append_run _ rfl _ _ _ _ rfl _ _ rfl rfl _ _ HE10.out ?_))
        -- behind it
        go_roundg (n6 - (i + 1))
        case measure => omega
        case rel => exact ⟨i + 1, n10, d10, B10, D ++ [⟨⟨e0, e1⟩, e2, e3, e4, e6⟩] ++ s.flat, N', rfl, by go_num, by omega, HR3.out, HTT.out, HFL.out, by rw [HMP.out]; exact HN10.out.symm, by rw [HMP.out]; exact HS10.out⟩
    · obtain rfl : i = n6 := by omega
      have hd1 : decide (i < i) = false := by simp
      have hnl : N.tops = [] := by rw [HTN.out, List.drop_of_length_le (by rw [HL6.out]; exact Nat.le_refl _)]
      have hN : N = .nil := by
        cases N with
        | nil => rfl
        | cons e s N' => cases hnl
      have hFD := HFN.out
      rw [hN] at hFD
      have hFD : F.flat = D := by rw [hFD]; simp [Fo.flat]
      have HSF := Lib.hid (show St w wr (sep (isRow k75 98 (.slice A1 n c) (F.flat.map (toX L))) emp) from hFD ▸ HSI.out.swap.snd.with_emp)
      have HNF := Lib.hid (show (F.flat.map (toX L)).length = n from hFD ▸ HDN.out)
      clear hFD hN hnl
      go_wp2
      go_ret
      exact ⟨_, _, _, rfl, HNF.out, HSF.out⟩
/-- The reference's Walk. -/
theorem Walk_calls (q : Nat) (L : List S34) (A : Option Addr) (cap : Nat) (F : Fo) (hF : F.flat.length ≤ 1000) (hr : rep L F) (ht : F.tops = kids zid L) (w : World) (h : RefW w q L A cap) :
    Calls Try.prog 60 #[.pointer (some ⟨q, 0, none⟩)] w fun e w' => ∃ A' n c', e = .returned (.slice A' n c') ∧ (F.flat.map (toX L)).length = n ∧ St w w' (sep (isRow k75 98 (.slice A' n c') (F.flat.map (toX L))) emp) := by
  have K1 := Lib.hid (walk_calls q L A cap (F.flat.length + 1) F (Nat.lt_succ_self _) hF hr w zid h ht)
  unfold zid at K1
  go_enter Try.func60, Try.ntmps60
  go_wp2_with (go_at_call 74; refine K1.out.mono ?_; rintro e w2 ⟨A6, n6, c6, rfl, hn6, hS⟩; have HN := Lib.hid hn6; have HS := Lib.hid hS; clear hn6 hS)
  go_ret
  exact ⟨_, _, _, rfl, HN.out, HS.out⟩
end Go.Proofs.Ytehdjdediobemaa.PC
namespace Go.Proofs.Ytehdjdediobemaa.PC
open Go.RowKit Go.Proofs.YtehdjdediobemaaW.PrintWords Go.Proofs.YtehdjdediobemaaW.PrintLast Go.Proofs.YtehdjdediobemaaW.PrintMore Go.Proofs.Ytehdjdediobemaa.K Go.Proofs.Ytehdjdediobemaa.IX Go.Proofs.Ytehdjdediobemaa.I
attribute [local go_sem] max2_int min2_int max_two min_two max_three min_three max_four min_four
attribute [local go_sem high] eqA31
set_option linter.unusedVariables false
set_option linter.unusedSimpArgs false
/-- A literal of one, appended to a row of the call's own. -/
theorem lit_app {α : Type} {d : Kd α} {fl : α → List Value} (hf : Flat d fl) {t e bytes : Nat} {z : Value} (ht : Try.prog.underlying t = some (.slice e)) (hinfo : (Try.prog.info? e).map (fun i => (i.zero, i.size, i.bytes)) = some (some z, d.sz, bytes)) (hz : z.cells.size = d.sz) (hb0 : 0 < bytes)
    {w0 W : World} {B : As} (b : Asn B) {v : Value} {xs : List α} (h : St w0 W (sep (isRow d e v xs) B)) (x : α) (hl : (xs.length + 1) * bytes ≤ 140737488355328) (ty : TypeId) :
    ∃ B' n c' w1, (Builtin.append_ #[t, t] ty #[v, .slice (some ⟨W.heap.size, 0, none⟩) 1 1]).run Try.prog (W.alloc (.cells (fl x).toArray e)) = .ok (.slice B' n c') w1 ∧ n = (xs ++ [x]).length ∧ St w0 w1 (sep (isRow d e (.slice B' n c') (xs ++ [x])) B) := by
  have hL := lit_st hf e (asn_sep (asn_row _ _ _ _) b) h x
  obtain ⟨_, hc, hr⟩ := hL.later (Below.refl _ _)
  exact app_st hf ht hinfo hz hb0 b hL.snd hr hc hl ty
theorem row_len {α : Type} {d : Kd α} {e : Nat} {w0 w : World} {A : Option Addr} {n c : Nat} {xs : List α} {B : As} (h : St w0 w (sep (isRow d e (.slice A n c) xs) B)) : xs.length = n := (h.later (Below.refl _ _)).1
set_option maxHeartbeats 8000000 in
set_option maxRecDepth 100000 in
theorem gvis_calls (q : Nat) (L : List S34) (A : Option Addr) (cap : Nat) (F : Fo) (hF : F.flat.length ≤ 1000) (hr : rep L F) (ht : F.tops = kids zid L) (w : World) (h : RefW w q L A cap) :
    Calls Try.prog 39 #[.pointer (some ⟨q, 0, none⟩)] w fun e w' => ∃ A1 n1 c1 A2 n2 c2 A3 n3 c3, e = .returned (.tuple #[.slice A1 n1 c1, .slice A2 n2 c2, .slice A3 n3 c3]) ∧ St w w' (sep (isRow (Kd.int .i32) 21 (.slice A1 n1 c1) (visS (F.flat.map (toX L)))) (sep (isRow k31 31 (.slice A2 n2 c2) (aliveIds (F.flat.map (toX L)))) (sep (isRow k31 31 (.slice A3 n3 c3) ((F.flat.map (toX L)).map (·.f0))) emp))) := by
  have K1 := Lib.hid (Walk_calls q L A cap F hF hr ht w h)
  have hl : (F.flat.map (toX L)).length ≤ 1000 := by rw [List.length_map]; exact hF
  clear hr ht h hF
  generalize F.flat.map (toX L) = l at *
  unfold aliveIds
  go_enter Try.func39, Try.ntmps39
  go_wp2_with (go_at_call 60; refine K1.out.mono ?_; rintro e w2 ⟨A6, n6, c6, rfl, hn6, hS⟩; have HL6 := Lib.hid hn6; rw [hn6] at hl; have HS2 := Lib.hid (show St w w2 (sep (isRow k31 31 (.slice none 0 0) []) (sep (isRow k31 31 (.slice none 0 0) []) (sep (isRow (Kd.int .i32) 21 (.slice none 0 0) []) (sep (isRow k75 98 (.slice A6 n6 c6) l) emp)))) from St.nil _ _ (asn_sep (asn_row _ _ _ _) (asn_sep (asn_row _ _ _ _) (asn_sep (asn_row _ _ _ _) asn_emp))) (St.nil _ _ (asn_sep (asn_row _ _ _ _) (asn_sep (asn_row _ _ _ _) asn_emp)) (St.nil _ _ (asn_sep (asn_row _ _ _ _) asn_emp) hS))); clear hn6 hS)
  go_loopg [6, 7, 8, 9] n6 (fun kq v6 v7 v8 v9 wr => ∃ (i n1 c1 n2 c2 n3 c3 : Nat) (A1 A2 A3 : Option Addr), v6 = .slice A1 n1 c1 ∧ v7 = .slice A2 n2 c2 ∧ v8 = .slice A3 n3 c3 ∧ v9 = .int .i64 (i : Int) ∧ Aside0 (kq + i = n6 ∧ St w wr (sep (isRow k31 31 (.slice A3 n3 c3) ((l.take i).map (·.f0))) (sep (isRow k31 31 (.slice A2 n2 c2) (idsS (fun e : S75 => e.f2) (l.take i))) (sep (isRow (Kd.int .i32) 21 (.slice A1 n1 c1) (visS (l.take i))) (sep (isRow k75 98 (.slice A6 n6 c6) l) emp))))))
  case atStart => exact ⟨0, 0, 0, 0, 0, 0, 0, none, none, none, rfl, rfl, rfl, rfl, by omega, HS2.out⟩
  case round =>
    obtain ⟨i, n1, c1, n2, c2, n3, c3, A1, A2, A3, rfl, rfl, rfl, rfl, HI⟩ := hrel
    have hki := HI.out.1
    have hS := HI.out.2
    by_cases hlt : i < n6
    · have hil : i < l.length := by rw [HL6.out]; exact hlt
      have hd1 : decide (i < n6) = true := by simpa using hlt
      have hts : l.take (i + 1) = l.take i ++ [l[i]] := take_snoc l i hil
      have hv := visS_snoc (l.take i) l[i]
      have hi := idsS_snoc (fun e : S75 => e.f2) (l.take i) l[i]
      have ha : (l.take (i + 1)).map (·.f0) = (l.take i).map (·.f0) ++ [l[i].f0] := by rw [hts, List.map_append]; rfl
      rw [← hts] at hv hi
      have hlk : (l.take i).length ≤ 1000 := by rw [List.length_take]; omega
      have l1 : (visS (l.take i)).length ≤ 1000 := Nat.le_trans (visS_len _) hlk
      have l2 : (idsS (fun e : S75 => e.f2) (l.take i)).length ≤ 1000 := Nat.le_trans (idsS_len _ _) hlk
      have l3 : ((l.take i).map (·.f0)).length ≤ 1000 := by rw [List.length_map]; exact hlk
      have HCE := Lib.hid (fun W B C D (h : St w W (sep B (sep C (sep D (sep (isRow k75 98 (.slice A6 n6 c6) l) emp))))) => show ∃ ad, A6 = some ad ∧ W.cell? (ad.add (i * 4)) = some (.int .i64 l[i].f0.f0) ∧ W.cell? ⟨(ad.add (i * 4)).block, (ad.add (i * 4)).off + 1, none⟩ = some (.int .i64 l[i].f0.f1) ∧ W.cell? ⟨(ad.add (i * 4)).block, (ad.add (i * 4)).off + 2, none⟩ = some (.int .i32 l[i].f1) ∧ W.cell? ⟨(ad.add (i * 4)).block, (ad.add (i * 4)).off + 3, none⟩ = some (.bool l[i].f2) from cell_el (h.snd.snd.snd.later (Below.refl _ _)).2.2 (Below.refl _ _) i hil)
      generalize l[i] = e at *
      obtain ⟨⟨e0, e1⟩, e2, e3⟩ := e
      simp only at HCE hv hi ha
      obtain ⟨ad, rfl, f0, f1, f2, f3⟩ := HCE.out _ _ _ _ hS
      have HV := Lib.hid hv
      have HI2 := Lib.hid hi
      have HA := Lib.hid ha
      obtain ⟨B1, m1, d1, w3, k1, q1, s1⟩ := lit_app flat_ID (t := 45) (e := 31) (bytes := 16) Try.underlying45 info31 rfl (by decide) (asn_sep (asn_row _ _ _ _) (asn_sep (asn_row _ _ _ _) (asn_sep (asn_row _ _ _ _) asn_emp))) hS ⟨e0, e1⟩ (by omega) 45
      obtain ⟨ad2, e5, g0, g1, g2, g3⟩ := HCE.out _ _ _ _ s1
      injection e5 with e5
      subst e5
      have HK1 := Lib.hid k1
      cases e3 with
      | false =>
        have hv2 : visS (l.take (i + 1)) = visS (l.take i) := HV.out
        have hi2 : idsS (fun e : S75 => e.f2) (l.take (i + 1)) = idsS (fun e : S75 => e.f2) (l.take i) := HI2.out
        have HS3 := Lib.hid (show St w w3 (sep (isRow k31 31 (.slice B1 m1 d1) ((l.take (i + 1)).map (·.f0))) (sep (isRow k31 31 (.slice A2 n2 c2) (idsS (fun e : S75 => e.f2) (l.take (i + 1)))) (sep (isRow (Kd.int .i32) 21 (.slice A1 n1 c1) (visS (l.take (i + 1)))) (sep (isRow k75 98 (.slice (some ad) n6 c6) l) emp)))) from by rw [hv2, hi2, HA.out]; exact s1)
        clear hv hi ha hv2 hi2 hts l1 l2 l3 hlk hS HI k1 q1 s1
        go_wp2_with (at_builtin; refine Lib.wpList_append_run _ rfl _ _ _ _ rfl _ _ rfl rfl _ _ HK1.out ?_)
        go_roundg (n6 - (i + 1))
        case measure => omega
        case rel => exact ⟨i + 1, n1, c1, n2, c2, m1, d1, A1, A2, B1, rfl, rfl, rfl, by go_num, by omega, HS3.out⟩
      | true =>
        obtain ⟨B2, m2, d2, w4, k2, q2, s2⟩ := lit_app flat_i32 (t := 22) (e := 21) (bytes := 4) Try.underlying22 info21 rfl (by decide) (asn_sep (asn_row _ _ _ _) (asn_sep (asn_row _ _ _ _) (asn_sep (asn_row _ _ _ _) asn_emp))) s1.third e2 (by omega) 22
        obtain ⟨ad3, e6, h0, h1, h2, h3⟩ := HCE.out _ _ _ _ s2
        injection e6 with e6
        subst e6
        obtain ⟨B3, m3, d3, w5, k3, q3, s3⟩ := lit_app flat_ID (t := 45) (e := 31) (bytes := 16) Try.underlying45 info31 rfl (by decide) (asn_sep (asn_row _ _ _ _) (asn_sep (asn_row _ _ _ _) (asn_sep (asn_row _ _ _ _) asn_emp))) s2.third ⟨e0, e1⟩ (by omega) 45
        have HK2 := Lib.hid k2
        have HK3 := Lib.hid k3
        have HS3 := Lib.hid (show St w w5 (sep (isRow k31 31 (.slice B1 m1 d1) ((l.take (i + 1)).map (·.f0))) (sep (isRow k31 31 (.slice B3 m3 d3) (idsS (fun e : S75 => e.f2) (l.take (i + 1)))) (sep (isRow (Kd.int .i32) 21 (.slice B2 m2 d2) (visS (l.take (i + 1)))) (sep (isRow k75 98 (.slice (some ad) n6 c6) l) emp)))) from by
          rw [HV.out, HI2.out, HA.out]
          exact s3.third)
        clear hv hi ha hts l1 l2 l3 hlk hS HI k1 q1 s1 k2 q2 s2 k3 q3 s3
        go_wp2_with (first
          | (at_builtin; refine Lib.wpList_append_run _ rfl _ _ _ _ rfl _ _ rfl rfl _ _ HK1.out ?_)
          | (at_builtin; refine Lib.wpList_append_run _ rfl _ _ _ _ rfl _ _ rfl rfl _ _ HK2.out ?_)
          | (at_builtin; refine Lib.wpList_append_run _ rfl _ _ _ _ rfl _ _ rfl rfl _ _ HK3.out ?_))
        go_roundg (n6 - (i + 1))
        case measure => omega
        case rel => exact ⟨i + 1, m2, d2, m3, d3, m1, d1, B2, B3, B1, rfl, rfl, rfl, by go_num, by omega, HS3.out⟩
    · obtain rfl : i = n6 := by omega
      have hd1 : decide (i < i) = false := by simp
      have hti : l.take i = l := List.take_of_length_le (by rw [HL6.out]; exact Nat.le_refl _)
      rw [hti] at hS
      have HSF := Lib.hid (show St w wr (sep (isRow (Kd.int .i32) 21 (.slice A1 n1 c1) (visS l)) (sep (isRow k31 31 (.slice A2 n2 c2) (idsS (fun e : S75 => e.f2) l)) (sep (isRow k31 31 (.slice A3 n3 c3) (l.map (·.f0))) emp))) from hS.fourth.snd.third.si (SI.in1 (SI.turn _ _ _)))
      clear hS HI hti
      go_wp2
      go_ret3
      exact ⟨_, _, _, _, _, _, _, _, _, rfl, HSF.out⟩
end Go.Proofs.Ytehdjdediobemaa.PC
namespace Go.Proofs.Ytehdjdediobemaa.PC
open Go.RowKit Go.Proofs.YtehdjdediobemaaW.PrintWords Go.Proofs.YtehdjdediobemaaW.PrintLast Go.Proofs.YtehdjdediobemaaW.PrintMore Go.Proofs.Ytehdjdediobemaa.K Go.Proofs.Ytehdjdediobemaa.IX Go.Proofs.Ytehdjdediobemaa.I
attribute [local go_sem] max2_int min2_int max_two min_two max_three min_three max_four min_four
attribute [local go_sem high] eqA31
set_option linter.unusedVariables false
set_option linter.unusedSimpArgs false
def vecR (L : List S34) : List S80 := L.foldl (fun v x => wtS v x.f0.f1 x.f1) []
theorem vecR_snoc (L : List S34) (x : S34) : vecR (L ++ [x]) = wtS (vecR L) x.f0.f1 x.f1 := by
  unfold vecR
  rw [List.foldl_append]
  rfl
theorem vecR_sq (L : List S34) (hr : ∀ x ∈ L, rightS x) : upS (vecR L) ∧ vec (ens (vecR L)) ∧ (vecR L).length ≤ L.length ∧ ∀ a, sq (ens (vecR L)) a = (knownR L a).1 := by
  induction L using snoc_ind with
  | h0 => exact ⟨List.Pairwise.nil, vec_nil, Nat.le_refl _, fun _ => rfl⟩
  | h1 L x ih =>
    obtain ⟨i1, i2, i3, i4⟩ := ih fun y hy => hr y (by simp [hy])
    obtain ⟨⟨r1, r2, r3, r4⟩, r5, r6, _⟩ := hr x (by simp)
    rw [vecR_snoc]
    refine ⟨wtS_up i1 _ _, by rw [wtS_eq i1]; exact wt_vec i2 ⟨r3, by omega⟩ r6, ?_, fun a => ?_⟩
    · have := wtS_len i1 x.f0.f1 x.f1
      rw [List.length_append, List.length_singleton]
      omega
    · rw [wtS_eq i1, wt_sq i2 (by omega), knownR_snoc]
      unfold knStep
      by_cases h : a = x.f0.f1
      · subst h
        rw [if_pos rfl, i4]
        by_cases h2 : (knownR L x.f0.f1).1 < x.f1
        · rw [if_pos ⟨rfl, h2⟩]
          show max _ _ = x.f1
          omega
        · rw [if_neg (fun k => h2 k.2)]
          omega
      · rw [if_neg h, if_neg (fun k => h k.1.symm), i4]
theorem Inv.vecR {T : TS} {F : Fo} (h : Inv T F) : PC.vecR T.ops = T.v := by
  obtain ⟨_, h2, _, h4⟩ := vecR_sq T.ops h.right
  apply ens_inj
  apply vec_ext h2 h.vec
  intro a
  rw [h4, h.sq]
set_option maxHeartbeats 8000000 in
set_option maxRecDepth 100000 in
theorem gvec_calls (q : Nat) (L : List S34) (A : Option Addr) (cap : Nat) (hrt : ∀ x ∈ L, rightS x) (w : World) (h : RefW w q L A cap) :
    Calls Try.prog 57 #[.pointer (some ⟨q, 0, none⟩)] w fun e w' => ∃ A1 n1 c1, e = .returned (.slice A1 n1 c1) ∧ St w w' (sep (isRow k80 80 (.slice A1 n1 c1) (vecR L)) emp) := by
  have HW := Lib.hid h
  obtain ⟨len, hlen⟩ : ∃ len, L.length = len := ⟨_, rfl⟩
  have HLEN := Lib.hid hlen
  have HQ := Lib.hid (fun W (hb : Below w.heap.size w W) => show W.cell? ⟨q, 0, none⟩ = some (.slice A len cap) from hlen ▸ (h.below hb).cell)
  have hl : len ≤ 1000 := by have := h.len; omega
  have hc : len ≤ cap := by have := h.cap; omega
  have HRT := Lib.hid hrt
  have HS := Lib.hid (St.nil k80 80 asn_emp (St.emp w))
  clear h hlen hrt
  go_enter Try.func57, Try.ntmps57
  go_wp2
  go_loopg [3, 4] len (fun kq v3 v4 wr => ∃ (i n c : Nat) (A1 : Option Addr), v3 = .slice A1 n c ∧ v4 = .int .i64 (i : Int) ∧ Aside0 (kq + i = len ∧ St w wr (sep (isRow k80 80 (.slice A1 n c) (vecR (L.take i))) emp)))
  case atStart => exact ⟨0, 0, 0, none, rfl, rfl, by omega, HS.out⟩
  case round =>
    obtain ⟨i, n, c, A1, rfl, rfl, HI⟩ := hrel
    have hki := HI.out.1
    have HSI := Lib.hid HI.out.2
    have cq := HQ.out _ HSI.out.bel
    by_cases hlt : i < len
    · have hil : i < L.length := by rw [HLEN.out]; exact hlt
      obtain ⟨ad, rfl, -⟩ := cell_op HW.out.row HSI.out.bel i hil
      have HCE := Lib.hid (fun W (hb : Below w.heap.size w W) => show W.cell? ⟨q, 0, none⟩ = some (.slice (some ad) len cap) ∧ W.cell? ⟨(ad.add (i * 7)).block, (ad.add (i * 7)).off + 1, none⟩ = some (.int .i64 L[i].f0.f1) ∧ W.cell? ⟨(ad.add (i * 7)).block, (ad.add (i * 7)).off + 2, none⟩ = some (.int .i64 L[i].f1) from by
        obtain ⟨ad2, e2, _, c1, c2, _⟩ := cell_op HW.out.row hb i hil
        injection e2 with e2
        subst e2
        exact ⟨HQ.out _ hb, c1, c2⟩)
      have hsn := vecR_snoc (L.take i) L[i]
      rw [← take_snoc L i hil] at hsn
      have hvr := vecR_sq (L.take i) (fun x hx => HRT.out x (List.take_subset i L hx))
      have hro := HRT.out L[i] (List.getElem_mem hil)
      have hlk : (L.take i).length ≤ 1000 := by rw [List.length_take]; omega
      have hd1 : decide (i < len) = true := by simpa using hlt
      generalize L[i] = o at HCE hsn hro
      obtain ⟨⟨o0, o1⟩, o2, o3, o4, o6⟩ := o
      simp only at HCE hsn hro
      have hs2 : 0 < o2 := by have := hro.2.1; simp only at this; omega
      have HSd := Lib.hid (HSI.out.drew (asn_sep (asn_row _ _ _ _) asn_emp))
      obtain ⟨r1, r2, r3⟩ := HSd.out.later (Below.refl _ _)
      have KW := foolscapref12_With.calls _ A1 c (vecR (L.take i)) o1 o2 _ _ r3 (by omega) (rwith_f hvr.1 o1 o2 hs2 (by omega) (2 * (vecR (L.take i)).length + 1) (Nat.lt_succ_self _))
      rw [r1, ← hsn] at KW
      have HKW := Lib.hid KW
      have hj0 : (0 : Int) ≤ (i : Int) := by omega
      have hj1 : (i : Int) < (len : Int) := by omega
      clear KW hsn hvr hro r1 r2 r3 HI
      go_wp2
      go_region_held3 (fun W => W.cell? ⟨q, 0, none⟩ = some (.slice (some ad) len cap) ∧ W.cell? ⟨(ad.add (i * 7)).block, (ad.add (i * 7)).off + 1, none⟩ = some (.int .i64 o1) ∧ W.cell? ⟨(ad.add (i * 7)).block, (ad.add (i * 7)).off + 2, none⟩ = some (.int .i64 o2)) ((first | exact HCE.out _ HSd.out.bel | exact HCE.out _ HS4.out.bel)) (first
        | (go_at_call 73; refine HKW.out.mono ?_; rintro e w4 ⟨v, rfl, hR, hb⟩; have HS4 := Lib.hid (St.row (w0 := w) rfl ((St.emp w).below asn_emp HSd.out.bel) asn_emp hb hR); obtain ⟨B4, d4, rfl⟩ := Kd.R_slice hR; clear hR hb))
      go_wp2
      go_roundg (len - (i + 1))
      case measure => omega
      case rel => exact ⟨i + 1, _, d4, B4, rfl, by go_num, by omega, HS4.out⟩
    · obtain rfl : i = len := by omega
      have hd1 : decide (i < i) = false := by simp
      have hti : L.take i = L := List.take_of_length_le (by rw [HLEN.out]; exact Nat.le_refl _)
      rw [hti] at HSI
      clear HI hti
      go_wp2
      go_ret
      exact ⟨_, _, _, rfl, HSI.out⟩
def gaheadS : List S75 → S31 → Nat → Int
  | [], _, _ => 0
  | e :: l, x, n => if idq e.f0 x = true then n else gaheadS l x (if e.f2 = true then n + 1 else n)
theorem gahead_is (l : List S75) (x : S31) : gaheadS l x 0 = aheadS l x := by
  have key : ∀ (l : List S75) (n : Nat), gaheadS l x n = if placeS l x < 0 then 0 else (n : Int) + cn ((l.map (·.f2)).take (placeS l x).toNat) := by
    intro l
    induction l with
    | nil => intro n; rfl
    | cons e l ih =>
      intro n
      simp only [gaheadS]
      by_cases hq : idq e.f0 x = true
      · have e2 : placeS (e :: l) x = 0 := by simp only [placeS]; rw [if_pos hq]
        rw [if_pos hq, e2]
        simp [cn]
      · by_cases hz : placeS l x < 0
        · have e2 : placeS (e :: l) x = -1 := by simp only [placeS]; rw [if_neg hq, if_pos hz]
          rw [if_neg hq, ih, if_pos hz, e2]
          rfl
        · have e2 : placeS (e :: l) x = placeS l x + 1 := by simp only [placeS]; rw [if_neg hq, if_neg hz]
          have e1 : (placeS l x + 1).toNat = (placeS l x).toNat + 1 := by omega
          rw [if_neg hq, ih, if_neg hz, e2, if_neg (show ¬ placeS l x + 1 < 0 by omega), e1, List.map_cons, List.take_succ_cons]
          by_cases he : e.f2 = true
          · rw [if_pos he]; simp [cn, he]; omega
          · rw [if_neg he]; simp [cn, he]
  rw [key]
  unfold aheadS
  have hrg := placeS_range l x
  unfold rankS
  by_cases hz : placeS l x < 0
  · have e : (placeS l x).toNat = 0 := by omega
    rw [if_pos hz, e, List.take_zero]
    rfl
  · rw [if_neg hz, Int.natCast_zero, Int.zero_add]
end Go.Proofs.Ytehdjdediobemaa.PC
namespace Go.Proofs.Ytehdjdediobemaa.PC
open Go.RowKit Go.Proofs.YtehdjdediobemaaW.PrintWords Go.Proofs.YtehdjdediobemaaW.PrintLast Go.Proofs.YtehdjdediobemaaW.PrintMore Go.Proofs.Ytehdjdediobemaa.K Go.Proofs.Ytehdjdediobemaa.IX Go.Proofs.Ytehdjdediobemaa.I
attribute [local go_sem] max2_int min2_int max_two min_two max_three min_three max_four min_four
attribute [local go_sem high] eqA31
set_option linter.unusedVariables false
set_option linter.unusedSimpArgs false
set_option maxHeartbeats 8000000 in
set_option maxRecDepth 100000 in
theorem gahead_calls (q : Nat) (L : List S34) (A : Option Addr) (cap : Nat) (F : Fo) (hF : F.flat.length ≤ 1000) (hr : rep L F) (ht : F.tops = kids zid L) (x : S31) (w : World) (h : RefW w q L A cap) :
    Calls Try.prog 38 #[.pointer (some ⟨q, 0, none⟩), .agg #[.int .i64 x.f0, .int .i64 x.f1]] w fun e w' => e = .returned (.int .i64 (aheadS (F.flat.map (toX L)) x)) ∧ Below w.heap.size w w' := by
  have K1 := Lib.hid (fun W (hb : Below w.heap.size w W) => Walk_calls q L A cap F hF hr ht W (h.below hb))
  have hl : (F.flat.map (toX L)).length ≤ 1000 := by rw [List.length_map]; exact hF
  clear hr ht h hF
  generalize F.flat.map (toX L) = l at *
  rw [← gahead_is]
  have HXI := Lib.hid (fun y : S31 => idq_iff y x)
  obtain ⟨x0, x1⟩ := x
  have HS := Lib.hid (show St w (w.alloc (.cells #[.int .i64 x0, .int .i64 x1] 31 (0, 0))) (sep (isBlk w.heap.size (.cells #[.int .i64 x0, .int .i64 x1] 31 (0, 0))) emp) from (St.emp w).mkblk asn_emp _)
  go_enter Try.func38, Try.ntmps38
  go_wp2_with (go_at_call 60; refine (K1.out _ HS.out.bel).mono ?_; rintro e w2 ⟨A6, n6, c6, rfl, hn6, hS⟩; have HL6 := Lib.hid hn6; rw [hn6] at hl; have HS2 := Lib.hid (show St w w2 (sep (isRow k75 98 (.slice A6 n6 c6) l) (sep (isBlk w.heap.size (.cells #[.int .i64 x0, .int .i64 x1] 31 (0, 0))) emp)) from by
    obtain ⟨F2, ⟨FA, FB, h1, h2, rfl, hd⟩, hb, hn⟩ := hS
    exact HS.out.add (asn_sep (asn_blk _ _) asn_emp) hb h1 (fun k hk => hn k (by simp [hk]))); clear hn6 hS)
  go_loopg [6, 7] n6 (fun kq v6 v7 wr => ∃ (i n : Nat), v6 = .int .i64 (n : Int) ∧ v7 = .int .i64 (i : Int) ∧ Aside0 (kq + i = n6 ∧ n ≤ i ∧ gaheadS (l.drop i) ⟨x0, x1⟩ n = gaheadS l ⟨x0, x1⟩ 0 ∧ St w wr (sep (isRow k75 98 (.slice A6 n6 c6) l) (sep (isBlk w.heap.size (.cells #[.int .i64 x0, .int .i64 x1] 31 (0, 0))) emp))))
  case atStart => exact ⟨0, 0, rfl, rfl, by omega, Nat.le_refl _, rfl, HS2.out⟩
  case round =>
    obtain ⟨i, n, rfl, rfl, HI⟩ := hrel
    have hki := HI.out.1
    have hni := HI.out.2.1
    have HG := Lib.hid HI.out.2.2.1
    have HSI := Lib.hid HI.out.2.2.2
    clear HI
    by_cases hlt : i < n6
    · have hil : i < l.length := by rw [HL6.out]; exact hlt
      have hd1 : decide (i < n6) = true := by simpa using hlt
      obtain ⟨ad, rfl, f0, f1, f2, f3⟩ := cell_el (HSI.out.later (Below.refl _ _)).2.2 (Below.refl _ _) i hil
      have hg := HG.out
      rw [List.drop_eq_getElem_cons hil] at hg
      have hqq := HXI.out l[i].f0
      have hb := HSI.out.snd.blk
      have x0c : wr.cell? ⟨w.heap.size, 0, none⟩ = some (.int .i64 x0) := (cell_of hb 0).trans rfl
      have x1c : wr.cell? ⟨w.heap.size, 1, none⟩ = some (.int .i64 x1) := (cell_of hb 1).trans rfl
      generalize l[i] = e at *
      obtain ⟨⟨e0, e1⟩, e2, e3⟩ := e
      simp only at f0 f1 f2 f3 hqq
      have AS := Lib.hid (show Asn (sep (isRow k75 98 (.slice (some ad) n6 c6) l) (sep (isBlk w.heap.size (.cells #[.int .i64 x0, .int .i64 x1] 31 (0, 0))) emp)) from asn_sep (asn_row _ _ _ _) (asn_sep (asn_blk _ _) asn_emp))
      by_cases hq : idq ⟨e0, e1⟩ ⟨x0, x1⟩ = true
      · have he := hqq.1 hq
        injection he with h0 h1
        have hg2 : (n : Int) = gaheadS l ⟨x0, x1⟩ 0 := by
          rw [← hg]
          simp only [gaheadS]
          rw [if_pos hq]
        have HG2 := Lib.hid hg2
        subst h0 h1
        clear hg hqq hq hb hg2 HXI HG
        go_wp2
        go_quiet (fail)
        go_wp2
        go_ret
        exact ⟨by rw [← HG2.out]; rfl, (HSI.out.drewN AS.out _).bel⟩
      · have hq3 : (e0 == x0 && e1 == x1) = false := by simpa [idq] using hq
        have hg2 : gaheadS (l.drop (i + 1)) ⟨x0, x1⟩ (if e3 = true then n + 1 else n) = gaheadS l ⟨x0, x1⟩ 0 := by
          rw [← hg]
          conv => rhs; simp only [gaheadS]
          rw [if_neg hq]
        have HG2 := Lib.hid hg2
        clear hg hqq hq hb hg2 HXI HG
        cases e3 with
        | true =>
          go_wp2
          go_quiet (fail)
          go_wp2
          go_roundg (n6 - (i + 1))
          case measure => omega
          case rel => exact ⟨i + 1, n + 1, by go_num, by go_num, by omega, by omega, HG2.out, HSI.out.drewN AS.out _⟩
        | false =>
          go_wp2
          go_quiet (fail)
          go_wp2
          go_roundg (n6 - (i + 1))
          case measure => omega
          case rel => exact ⟨i + 1, n, rfl, by go_num, by omega, by omega, HG2.out, HSI.out.drewN AS.out _⟩
    · obtain rfl : i = n6 := by omega
      have hd1 : decide (i < i) = false := by simp
      have hg := HG.out
      rw [List.drop_of_length_le (by rw [HL6.out]; exact Nat.le_refl _)] at hg
      have HG2 := Lib.hid (show (0 : Int) = gaheadS l ⟨x0, x1⟩ 0 from hg)
      clear hg HG
      go_wp2
      go_ret
      exact ⟨by rw [← HG2.out]; rfl, HSI.out.bel⟩
theorem ref_w {w0 w : World} {q : Nat} {L : List S34} {B : As} (h : St w0 w (sep (isRef q L) B)) (hl : L.length ≤ 1000) : ∃ A c, RefW w q L A c := by
  obtain ⟨F, ⟨FA, FB, h1, _⟩, _⟩ := h
  obtain ⟨A, c, k1, k2, k3⟩ := ref_read h1
  exact ⟨A, c, k1, k3, k2, hl⟩
theorem ops_nm {w0 w : World} {p n : Nat} {T : TS} {B : As} {a : List S34} (b : Asn B) (h : St w0 w (sep (isTx p T) B)) (hl : T.ops.length ≤ 100000) (ha : T.ops = a) (hn : a.length = n) : Calls Try.prog 19 #[.pointer (some ⟨p, 0, none⟩)] w fun e w' => ∃ A c, e = .returned (.slice A n c) ∧ Below w.heap.size w w' ∧ St w0 w' (sep (isRow k34 34 (.slice A n c) a) (sep (isTx p T) B)) := by
  obtain ⟨F, ⟨FA, FB, h1, h2, rfl, hd⟩, hb, hn2⟩ := id h
  refine (ops_calls w FA p T h1 (by omega)).mono ?_
  rintro e w' ⟨v, rfl, hr, hb2⟩
  rw [ha] at hr
  obtain ⟨A, c, rfl⟩ := Kd.R_slice hr
  rw [hn] at hr ⊢
  exact ⟨A, c, rfl, hb2, St.row rfl h (asn_sep (asn_tx p T) b) hb2 hr⟩
theorem sameOps_nm {w0 w1 W : World} {B : As} {A A' : Option Addr} {n c c' : Nat} {xs : List S34} (h1 : St w0 w1 (sep (isRow k34 34 (.slice A n c) xs) B)) (b1 : Below w1.heap.size w1 W) (h2 : Kd.C k34 W A' xs.length xs) (k2 : xs.length ≤ c') (hl : n ≤ 100000) : Calls Try.prog 58 #[.slice A n c, .slice A' n c'] W fun e w' => e = .returned (.bool true) ∧ Below W.heap.size W w' := by
  obtain ⟨e1, k1, r1⟩ := h1.later b1
  have := sameOps_is r1 (c := c) (by omega) h2 (d := c') (by omega) (by omega)
  rw [e1] at this
  refine this.mono ?_
  rintro e w' ⟨he, m, rfl⟩
  exact ⟨he, pw_below_drewN (Below.refl _ _) m⟩
set_option maxHeartbeats 8000000 in
set_option maxRecDepth 100000 in
theorem same14_st {w0 w : World} {p q : Nat} {T : TS} {F : Fo} {B : As} (b : Asn B) (h : St w0 w (sep (isTx p T) (sep (isRef q T.ops) B))) (hI : Inv T F) (hl : T.ops.length ≤ 500) :
    Calls Try.prog 34 #[.pointer (some ⟨p, 0, none⟩), .pointer (some ⟨q, 0, none⟩)] w fun e w' => e = .returned (.bool true) ∧ Below w.heap.size w w' := by
  have HS := Lib.hid h
  have ABR := Lib.hid (asn_sep (asn_ref q T.ops) b)
  have APR := Lib.hid (asn_sep (asn_tx p T) (asn_sep (asn_ref q T.ops) b))
  obtain ⟨A, cap, hw⟩ := ref_w h.snd (by omega)
  have hll := hI.ll
  have hvl := hI.vl
  have hfl : F.flat.length ≤ 1000 := by
    have := congrArg List.length hI.l
    rw [List.length_map] at this
    omega
  have KG := Lib.hid (gvis_calls q T.ops A cap F hfl hI.rep hI.tops w hw)
  rw [← hI.l] at KG
  have KGV := Lib.hid (fun W (hb : Below w.heap.size w W) => gvec_calls q T.ops A cap hI.right W (hw.below hb))
  rw [hI.vecR] at KGV
  have HW := Lib.hid hw
  have KTP := Lib.hid (fun W (hb : Below w.heap.size w W) => gtop_calls W q T.ops A cap (hw.below hb).cell (hw.below hb).row hw.cap (by have := hw.len; omega))
  rw [← hI.top] at KTP
  obtain ⟨nv, hnv⟩ : ∃ nv, (visS T.l).length = nv := ⟨_, rfl⟩
  obtain ⟨ni, hni⟩ : ∃ ni, (aliveIds T.l).length = ni := ⟨_, rfl⟩
  obtain ⟨nd, hnd⟩ : ∃ nd, (T.l.map (·.f0)).length = nd := ⟨_, rfl⟩
  obtain ⟨ne, hne⟩ : ∃ ne, T.v.length = ne := ⟨_, rfl⟩
  obtain ⟨no, hno⟩ : ∃ no, T.ops.length = no := ⟨_, rfl⟩
  have hcn := vis_cn T.l
  rw [hnv] at hcn
  have hnv2 : nv ≤ 1000 := by have := visS_len T.l; omega
  have hni2 : ni ≤ 1000 := by have := idsS_len (fun e : S75 => e.f2) T.l; unfold aliveIds at hni; omega
  have hnd2 : nd ≤ 1000 := by rw [List.length_map] at hnd; omega
  have hne2 : ne ≤ 1000 := by omega
  have hno2 : no ≤ 1000 := by omega
  have HNV := Lib.hid hnv
  have HNI := Lib.hid hni
  have HND := Lib.hid hnd
  have HNE := Lib.hid hne
  have KV1 := Lib.hid (fun W (hb : Below w.heap.size w W) => vis_nm ABR.out (h.below APR.out hb) (by omega) rfl hnv)
  have KI1 := Lib.hid (fun W (hb : Below w.heap.size w W) => ids_nm ABR.out (h.below APR.out hb) (by omega) rfl hni)
  have KD1 := Lib.hid (fun W (hb : Below w.heap.size w W) => all_nm ABR.out (h.below APR.out hb) (by omega) rfl hnd)
  have KE1 := Lib.hid (fun W (hb : Below w.heap.size w W) => vec_nm ABR.out (h.below APR.out hb) (by omega) rfl hne)
  have KO1 := Lib.hid (fun W (hb : Below w.heap.size w W) => ops_nm ABR.out (h.below APR.out hb) (by omega) rfl hno)
  have KL1 := Lib.hid (fun W (hb : Below w.heap.size w W) => len_st (h.below APR.out hb))
  have KT1 := Lib.hid (fun W (hb : Below w.heap.size w W) => top_st (h.below APR.out hb))
  rw [← hcn] at KL1
  have HQC := Lib.hid (fun W (hb : Below w.heap.size w W) => show W.cell? ⟨q, 0, none⟩ = some (.slice A no cap) from hno ▸ (hw.below hb).cell)
  obtain ⟨tp, htp⟩ : ∃ tp, T.top = tp := ⟨_, rfl⟩
  rw [htp] at KTP KT1
  clear h hI hw hll hvl hfl hnv hni hnd hne hno hcn htp hl
  go_enter Try.func34, Try.ntmps34
  go_wp2_with (go_at_call 39; refine KG.out.mono ?_; rintro e w1 ⟨A1, n1, c1, A2, n2, c2, A3, n3, c3, rfl, hS⟩; have HG := Lib.hid hS; have HB1 := Lib.hid hS.bel; obtain rfl : n1 = nv := (row_len hS).symm.trans HNV.out; obtain rfl : n2 = ni := (row_len hS.snd).symm.trans HNI.out; obtain rfl : n3 = nd := (row_len hS.snd.snd).symm.trans HND.out; clear hS)
  have HB1d := Lib.hid (HB1.out.drew)
  go_region_held3 (fun W => W.cell? ⟨q, 0, none⟩ = some (.slice A no cap)) ((first | with_reducible exact HQC.out _ HB1d.out | with_reducible exact HQC.out _ HB2.out | with_reducible exact HQC.out _ HB3.out | with_reducible exact HQC.out _ HB4.out | with_reducible exact HQC.out _ HB5.out | with_reducible exact HQC.out _ HB6.out | with_reducible exact HQC.out _ HB7.out | with_reducible exact HQC.out _ HB8.out | with_reducible exact HQC.out _ HB9.out | with_reducible exact HQC.out _ HB10.out | with_reducible exact HQC.out _ HB11.out | with_reducible exact HQC.out _ HB12.out)) (first
    | (go_at_call 17; refine (KV1.out _ HB1d.out).mono ?_; rintro e w2 ⟨A4, c4, rfl, hb, hS⟩; have HR2 := Lib.hid hS; have HX2 := Lib.hid (below_step ((Below.refl _ w1).drew) hb); have HB2 := Lib.hid (below_step HB1d.out hb); clear hb hS)
    | (go_at_call 16; with_reducible refine (same01_nm HR2.out (Below.refl _ _) HG.out HX2.out (by omega)).mono ?_; rintro e w3 ⟨rfl, hb⟩; have HX3 := Lib.hid (below_step HX2.out hb); have HB3 := Lib.hid (below_step HB2.out hb); clear hb)
    | (go_at_call 22; refine (KI1.out _ HB3.out).mono ?_; rintro e w4 ⟨A5, c5, rfl, hb, hS⟩; have HR4 := Lib.hid hS; have HX4 := Lib.hid (below_step HX3.out hb); have HB4 := Lib.hid (below_step HB3.out hb); clear hb hS)
    | (go_at_call 23; with_reducible refine (same_nm HR4.out (Below.refl _ _) HG.out.snd HX4.out (by omega)).mono ?_; rintro e w5 ⟨rfl, hb⟩; have HX5 := Lib.hid (below_step HX4.out hb); have HB5 := Lib.hid (below_step HB4.out hb); clear hb)
    | (go_at_call 24; refine (KD1.out _ HB5.out).mono ?_; rintro e w6 ⟨A6, c6, rfl, hb, hS⟩; have HR6 := Lib.hid hS; have HX6 := Lib.hid (below_step HX5.out hb); have HB6 := Lib.hid (below_step HB5.out hb); clear hb hS)
    | (go_at_call 23; with_reducible refine (same_nm HR6.out (Below.refl _ _) HG.out.snd.snd HX6.out (by omega)).mono ?_; rintro e w7 ⟨rfl, hb⟩; have HB7 := Lib.hid (below_step HB6.out hb); clear hb)
    | (go_at_call 21; refine (KE1.out _ HB7.out).mono ?_; rintro e w8 ⟨A8, c8, rfl, hb, hS⟩; have HR8 := Lib.hid hS; have HB8 := Lib.hid (below_step HB7.out hb); clear hb hS)
    | (go_at_call 57; refine (KGV.out _ HB8.out).mono ?_; rintro e w9 ⟨A9, n9, c9, rfl, hS⟩; have HR9 := Lib.hid hS; have HX9 := Lib.hid hS.bel; have HB9 := Lib.hid (below_step HB8.out hS.bel); obtain rfl : n9 = ne := (row_len hS).symm.trans HNE.out; clear hS)
    | (go_at_call 25; with_reducible refine (same12_nm HR8.out HX9.out HR9.out (Below.refl _ _) (by omega)).mono ?_; rintro e w10 ⟨rfl, hb⟩; have HB10 := Lib.hid (below_step HB9.out hb); clear hb)
    | (go_at_call 19; refine (KO1.out _ HB10.out).mono ?_; rintro e w11 ⟨A11, c11, rfl, hb, hS⟩; have HR11 := Lib.hid hS; have HB11 := Lib.hid (below_step HB10.out hb); clear hb hS)
    | (go_at_call 58; with_reducible refine (sameOps_nm HR11.out (Below.refl _ _) (HW.out.below HB11.out).row HW.out.cap (by omega)).mono ?_; rintro e w12 ⟨rfl, hb⟩; have HB12 := Lib.hid (below_step HB11.out hb); clear hb)
    | (go_at_call 30; refine (KL1.out _ HB12.out).mono ?_; rintro e w13 ⟨rfl, rfl⟩)
    | (go_at_call 26; refine (KT1.out _ HB12.out).mono ?_; rintro e w14 ⟨rfl, rfl⟩)
    | (go_at_call 59; refine (KTP.out _ HB12.out).mono ?_; rintro e w15 ⟨rfl, rfl⟩))
  go_wp2
  go_ret
  exact ⟨rfl, HB12.out⟩
end Go.Proofs.Ytehdjdediobemaa.PC
namespace Go.Proofs.Ytehdjdediobemaa.PC
open Go.RowKit Go.Proofs.YtehdjdediobemaaW.PrintWords Go.Proofs.Ytehdjdediobemaa.K Go.Proofs.Ytehdjdediobemaa.IX Go.Proofs.Ytehdjdediobemaa.I
set_option linter.unusedVariables false
set_option linter.unusedSimpArgs false
theorem Inv.hasEq {T : TS} {F : Fo} (h : Inv T F) (x : S31) : hasS T.l x = hasR T.ops x := by
  unfold hasS
  have a := h.place x
  have b := h.has x
  by_cases hx : x ∈ F.ids
  · rw [b.2 hx, decide_eq_true (a.2 hx)]
  · have hb : hasR T.ops x = false := by
      cases hh : hasR T.ops x with
      | false => rfl
      | true => exact absurd (b.1 hh) hx
    rw [hb, decide_eq_false (fun k => hx (a.1 k))]
theorem Inv.aliveEq {T : TS} {F : Fo} (h : Inv T F) (x : S31) : aliveS T.l x = aliveR T.ops x := by
  have he := h.hasEq x
  unfold hasS at he
  unfold aliveS aliveR
  rw [he]
  cases hh : hasR T.ops x with
  | false => rw [Bool.false_and, Bool.and_false]
  | true =>
    rw [Bool.true_and, Bool.and_true]
    have hx := (h.has x).1 hh
    rw [← h.lids] at hx
    obtain ⟨i, hi, e⟩ := List.getElem_of_mem hx
    rw [List.length_map] at hi
    have e : T.l[i].f0 = x := by rw [← e, List.getElem_map]
    have hp := place_nth T.l (by rw [h.lids]; exact h.nodup) i hi
    rw [e] at hp
    have hrd : rd_T75 T.l (i : Int) = T.l[i] := by unfold rd_T75; simp [hi]
    rw [hp, hrd]
    have hl := h.l
    have hi2 : i < (F.flat.map (toX T.ops)).length := by rw [← hl]; exact hi
    have e2 : T.l[i] = (F.flat.map (toX T.ops))[i] := by
      congr 1
    rw [e2, List.getElem_map] at e ⊢
    show (!deadR T.ops _) = _
    exact congrArg (fun y => !deadR T.ops y) e
theorem at_out (l : List S75) (k : Int) (h : k < 0 ∨ (aliveIds l).length ≤ k.toNat) : atS l k = (z31, false) := by
  have hs : selS (l.map (·.f2)) k = (0, false) := by
    unfold selS
    rcases h with h | h
    · rw [if_neg (show ¬ 0 ≤ k by omega)]
    · rw [ids_cn] at h
      by_cases hk : 0 ≤ k
      · rw [if_pos hk, sel_none _ _ h]
      · rw [if_neg hk]
  unfold atS
  rw [hs]
  rfl
end Go.Proofs.Ytehdjdediobemaa.PC
