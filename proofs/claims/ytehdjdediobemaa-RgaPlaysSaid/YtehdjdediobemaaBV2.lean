/- A part of the proof of rgaPlays_holds: its texts, one behind the other, as far as the proof stands on them. (Lines of its texts on the printed words and functions began as lines that a program of the kit had written for this statement.) -/
import Derived.ArgAppend
import Derived.Below
import Derived.BigQuiet
import Derived.BigRegion
import Derived.ChangeMaps4
import Derived.ChangeMaps5
import Derived.Deep.AppendLies
import Derived.Deep.CutBlock
import Derived.Deep.CutRange
import Derived.Deep.DeepCutAuto
import Derived.Deep.DrawnRows
import Derived.Deep.Draws
import Derived.Deep.LoopGhost
import Derived.Deep.OwnRows
import Derived.Deep.QuietTactic
import Derived.Deep.RegionHeld3
import Derived.Deep.RegionLaw
import Derived.Deep.RegionWith
import Derived.KernelRfl
import Derived.Laws.BitsLemmas
import Derived.Laws.BytesArg
import Derived.Laws.CopyRow
import Derived.Laws.Cover4
import Derived.Laws.Externs
import Derived.Laws.IdiomCopy
import Derived.Laws.MakeOwn
import Derived.Laws.NewBlocks
import Derived.Laws.OwnMore
import Derived.Laws.Rows
import Derived.Laws.Slices
import Derived.Laws.StructEq
import Derived.Lib.AppendStr
import Derived.Lib.AppendZeros
import Derived.Lib.AppendZerosOnto
import Derived.Lib.ConvBytes
import Derived.Lib.Hide
import Derived.Lib.JoinLaws
import Derived.Lib.Overlaps
import Derived.Lib.Walk
import Derived.MapKept
import Derived.Maps.AppendAt
import Derived.OrdersHeld
import Derived.OwnWalk
import Derived.RegionTactic
import Derived.RowKit
import Derived.RowKit3
import Derived.StillTail
import Derived.StillTailTactics
import Derived.Tactics
import Derived.Test.YtehdjdediobemaaProg
import Derived.WalkKit
import Derived.WalkSpells
import Derived.WideLaws
import Derived.Test.YtehdjdediobemaaBV1
namespace Go.Proofs.Ytehdjdediobemaa.PC
open Go.RowKit Go.Proofs.YtehdjdediobemaaW.PrintWords Go.Proofs.YtehdjdediobemaaW.PrintLast Go.Proofs.YtehdjdediobemaaW.PrintMore Go.Proofs.Ytehdjdediobemaa.K Go.Proofs.Ytehdjdediobemaa.IX Go.Proofs.Ytehdjdediobemaa.I
attribute [local go_sem] max2_int min2_int max_two min_two max_three min_three max_four min_four
attribute [local go_sem high] eqA31
set_option linter.unusedVariables false
set_option linter.unusedSimpArgs false
theorem has_nm {w0 w1 W : World} {p : Nat} {T : TS} {B : As} {r : Bool} {x : S31} (b : Asn B) (h : St w0 w1 (sep (isTx p T) B)) (b1 : Below w1.heap.size w1 W) (hl : T.l.length ≤ 100000) (hr : hasS T.l x = r) : Calls Try.prog 35 #[.pointer (some ⟨p, 0, none⟩), .agg #[.int .i64 x.f0, .int .i64 x.f1]] W fun e w' => e = .returned (.bool r) ∧ Below W.heap.size W w' := by
  obtain ⟨F, ⟨FA, FB, h2, h3, rfl, hd⟩, hb, hn⟩ := h.below (asn_sep (asn_tx p T) b) b1
  have := has_calls W FA p T x h2 (by omega)
  rw [hr] at this
  exact this
theorem ahead_nm {w0 w1 W : World} {p : Nat} {T : TS} {B : As} {r : Int} {x : S31} (b : Asn B) (h : St w0 w1 (sep (isTx p T) B)) (b1 : Below w1.heap.size w1 W) (hl : T.l.length ≤ 100000) (hr : aheadS T.l x = r) : Calls Try.prog 32 #[.pointer (some ⟨p, 0, none⟩), .agg #[.int .i64 x.f0, .int .i64 x.f1]] W fun e w' => e = .returned (.int .i64 r) ∧ Below W.heap.size W w' := by
  obtain ⟨F, ⟨FA, FB, h2, h3, rfl, hd⟩, hb, hn⟩ := h.below (asn_sep (asn_tx p T) b) b1
  have := ahead_calls W FA p T x h2 (by omega)
  rw [hr] at this
  exact this
theorem at_nm {w0 w1 W : World} {p : Nat} {T : TS} {B : As} {k : Int} {y : S31} {is : Bool} (b : Asn B) (h : St w0 w1 (sep (isTx p T) B)) (b1 : Below w1.heap.size w1 W) (hl : T.l.length ≤ 100000) (hr : atS T.l k = (y, is)) : Calls Try.prog 31 #[.pointer (some ⟨p, 0, none⟩), .int .i64 k] W fun e w' => e = .returned (.tuple #[.agg #[.int .i64 y.f0, .int .i64 y.f1], .bool is]) ∧ Below W.heap.size W w' := by
  obtain ⟨F, ⟨FA, FB, h2, h3, rfl, hd⟩, hb, hn⟩ := h.below (asn_sep (asn_tx p T) b) b1
  have := at_calls W FA p T k h2 (by omega)
  rw [hr] at this
  exact this
theorem at_cases (l : List S75) (hn : (l.map (·.f0)).Nodup) (k : Int) : (∃ j : Nat, k = j ∧ ∃ h : j < (aliveIds l).length, atS l k = ((aliveIds l)[j], true)) ∨ (atS l k = (z31, false) ∧ (k < 0 ∨ ((aliveIds l).length : Int) ≤ k)) := by
  by_cases h1 : k < 0
  · exact .inr ⟨at_out l k (.inl h1), .inl h1⟩
  · by_cases h2 : ((aliveIds l).length : Int) ≤ k
    · exact .inr ⟨at_out l k (.inr (by omega)), .inr h2⟩
    · obtain ⟨j, rfl⟩ : ∃ j : Nat, k = j := ⟨k.toNat, by omega⟩
      have hj : j < (aliveIds l).length := by omega
      exact .inl ⟨j, rfl, hj, (places l hn j hj).1⟩
/-- The state of the loop. -/
def PlayS (w wr : World) (p q xb i : Nat) (x0 x1 : Int) : Prop := ∃ T F, Inv T F ∧ T.ops.length ≤ i ∧ St w wr (sep (isTx p T) (sep (isRef q T.ops) (sep (isBlk xb (.cells #[.int .i64 x0, .int .i64 x1] 31 (0, 0))) emp)))
set_option maxHeartbeats 8000000 in
set_option maxRecDepth 100000 in
theorem plays_row (A : Option Addr) (cap : Nat) (l : List S34) (x0 x1 : Int) (pl : Int) (w : World) (hr : Kd.C k34 w A l.length l) (hc : l.length ≤ cap) (hy : l.length * 56 ≤ 140737488351232) (hg : ∀ y ∈ l, True) (hw1 : (Lit.int .i64 x0).wf = true) (hw2 : (Lit.int .i64 x1).wf = true) (hw3 : (Lit.int .i64 pl).wf = true) :
    Calls Try.prog 10 #[.slice A l.length cap, .agg #[.int .i64 x0, .int .i64 x1], .int .i64 pl] w fun e w' => e = .returned (.bool true) ∧ Below w.heap.size w w' := by
  have HRD := Lib.hid hr
  obtain ⟨len, hlen⟩ : ∃ len, l.length = len := ⟨_, rfl⟩
  have HLEN := Lib.hid hlen
  rw [hlen] at hc hy
  obtain ⟨N, hN⟩ : ∃ N, min len 40 = N := ⟨_, rfl⟩
  have hN1 : N ≤ len := by omega
  have hN2 : N ≤ 40 := by omega
  have HN3 := Lib.hid (show len ≤ N ∨ N = 40 by omega)
  have hl2 : len ≤ 140737488351232 := by omega
  have HSH := Lib.hid (fun W => shown14_calls W)
  rw [hlen]
  have HS0 := Lib.hid (show St w (w.alloc (.cells #[.int .i64 x0, .int .i64 x1] 31 (0, 0))) (sep (isBlk w.heap.size (.cells #[.int .i64 x0, .int .i64 x1] 31 (0, 0))) emp) from (St.emp w).mkblk asn_emp _)
  have AB0 := Lib.hid (show Asn (sep (isBlk w.heap.size (.cells #[.int .i64 x0, .int .i64 x1] 31 (0, 0))) emp) from asn_sep (asn_blk _ _) asn_emp)
  clear hr hg hy hN hlen hw1 hw2 hw3
  go_enter Try.func10, Try.ntmps10
  go_wp2_with (first
    | (go_at_call 11; refine (HSH.out _).mono ?_; rintro e w1 ⟨rfl, hb⟩; have HS1 := Lib.hid (HS0.out.below AB0.out hb); clear hb)
    | (go_at_call 12; refine (new_st AB0.out HS1.out).mono ?_; rintro e w2 ⟨p, rfl, hS⟩; have HS := Lib.hid (show PlayS w _ p w2.heap.size w.heap.size 0 x0 x1 from ⟨T0, _, inv0, Nat.le_refl _, (hS.mkref (asn_sep (asn_tx _ _) AB0.out)).turn⟩); clear hS))
  obtain ⟨q, hq⟩ : ∃ q, w2.heap.size = q := ⟨_, rfl⟩
  rw [hq] at HS
  try rw [hq]
  clear hq
  go_loopg [10] N (fun kq v10 wr => ∃ (i : Nat), v10 = .int .i64 (i : Int) ∧ Aside0 (kq + i = N ∧ PlayS w wr p q w.heap.size i x0 x1))
  case atStart => exact ⟨0, rfl, by omega, HS.out⟩
  case round =>
    obtain ⟨i, rfl, HI⟩ := hrel
    have hki := HI.out.1
    obtain ⟨T, Fo', hI, hol, hS⟩ := HI.out.2
    by_cases hlt : i < N
    · have hil : i < l.length := by rw [HLEN.out]; omega
      obtain ⟨ad, rfl, -⟩ := cell_op HRD.out hS.bel i hil
      have HC := Lib.hid (fun W (hb : Below w.heap.size w W) => show W.cell? (ad.add (i * 7)) = some (.int .i64 l[i].f0.f0) ∧ W.cell? ⟨(ad.add (i * 7)).block, (ad.add (i * 7)).off + 1, none⟩ = some (.int .i64 l[i].f0.f1) ∧ W.cell? ⟨(ad.add (i * 7)).block, (ad.add (i * 7)).off + 2, none⟩ = some (.int .i64 l[i].f1) ∧ W.cell? ⟨(ad.add (i * 7)).block, (ad.add (i * 7)).off + 3, none⟩ = some (.bool l[i].f2) ∧ W.cell? ⟨(ad.add (i * 7)).block, (ad.add (i * 7)).off + 4, none⟩ = some (.int .i64 l[i].f3.f0) ∧ W.cell? ⟨(ad.add (i * 7)).block, (ad.add (i * 7)).off + 5, none⟩ = some (.int .i64 l[i].f3.f1) ∧ W.cell? ⟨(ad.add (i * 7)).block, (ad.add (i * 7)).off + 6, none⟩ = some (.int .i32 l[i].f4) from by
        obtain ⟨ad2, e2, c⟩ := cell_op HRD.out hb i hil
        injection e2 with e2
        subst e2
        exact c)
      generalize l[i] = o at HC
      have hd1 : decide (i < len) = true := by simp; omega
      have hd2 : decide ((i : Int) < 40) = true := by simp; omega
      have hps := hI.put_same o
      obtain ⟨⟨⟨rb, re⟩, T'⟩, hp⟩ : ∃ x, putT T o = x := ⟨_, rfl⟩
      obtain ⟨F', hI'⟩ := inv_put hI o
      have hln := putT_len T o
      rw [hp] at hps hI' hln
      obtain ⟨hps1, hps2⟩ := hps
      simp only at hps1 hps2 hI' hln
      have KP := Lib.hid (fun W B (b : Asn B) (h : St w W (sep (isTx p T) B)) => put_named hp hI (by omega) b h)
      have KG := Lib.hid (show ∀ W B, Asn B → St w W (sep (isRef q T.ops) B) → Calls Try.prog 33 #[.pointer (some ⟨q, 0, none⟩), opV o] W fun e w' => e = .returned (.tuple #[.bool rb, .int .i64 re]) ∧ St w w' (sep (isRef q T'.ops) B) from fun W B b h => by
        have := gput_st b h (by omega) o
        rw [← hps1, ← hps2] at this
        exact this)
      have HS0' := Lib.hid hS
      have hol' : T'.ops.length ≤ i + 1 := by omega
      obtain ⟨⟨c0, c1, c2, c3, c4, c5, c6⟩⟩ := (⟨HC.out _ hS.bel⟩ : Aside0 _)
      have HC1 := Lib.hid (fun W B (h : St w W B) => HC.out W h.bel)
      unfold opV at KP KG
      obtain ⟨⟨o0, o1⟩, o2, o3, ⟨o4, o5⟩, o6⟩ := o
      simp only at HC HC1 KP KG c0 c1 c2 c3 c4 c5 c6
      have HI' := Lib.hid hI'
      clear hI hS hol hp hps1 hps2 hln hI' HI
      go_wp2_with (first
        | (go_at_call 14; with_reducible refine (KP.out _ _ (asn_sep (asn_ref _ _) AB0.out) HS0'.out).mono ?_; rintro e w5 ⟨rfl, hS5⟩; have HS5 := Lib.hid hS5.turn; clear hS5 c0 c1 c2 c3 c4 c5 c6; obtain ⟨c0, c1, c2, c3, c4, c5, c6⟩ := HC1.out _ _ HS5.out)
        | (go_at_call 33; with_reducible refine (KG.out _ _ (asn_sep (asn_tx _ _) AB0.out) HS5.out).mono ?_; rintro e w6 ⟨rfl, hS6⟩; have HS6 := Lib.hid hS6.turn; clear hS6 c0 c1 c2 c3 c4 c5 c6))
      have AR := Lib.hid (show Asn (sep (isRef q T'.ops) (sep (isBlk w.heap.size (.cells #[.int .i64 x0, .int .i64 x1] 31 (0, 0))) emp)) from asn_sep (asn_ref _ _) AB0.out)
      have APR := Lib.hid (asn_sep (asn_tx p T') AR.out)
      have KSM := Lib.hid (same14_st AB0.out HS6.out HI'.out (by omega))
      obtain ⟨A9, c9, hw⟩ := ref_w HS6.out.snd (by omega)
      have hll := HI'.out.ll
      have hfl : F'.flat.length ≤ 1000 := by
        have := congrArg List.length HI'.out.l
        rw [List.length_map] at this
        omega
      have KH := Lib.hid (fun W (hb : Below w6.heap.size w6 W) => has_nm (x := ⟨x0, x1⟩) AR.out HS6.out hb (by omega) (HI'.out.hasEq _))
      have KA := Lib.hid (fun W (hb : Below w6.heap.size w6 W) => alive_nm (x := ⟨x0, x1⟩) AR.out HS6.out hb (by omega) (HI'.out.aliveEq _))
      have KN := Lib.hid (fun W (hb : Below w6.heap.size w6 W) => ahead_nm (x := ⟨x0, x1⟩) AR.out HS6.out hb (by omega) rfl)
      have KGH := Lib.hid (fun W (hb : Below w6.heap.size w6 W) => ghas_calls W q T'.ops A9 c9 ⟨x0, x1⟩ (hw.below hb).cell (hw.below hb).row hw.cap (by have := hw.len; omega))
      have KGA := Lib.hid (fun W (hb : Below w6.heap.size w6 W) => galive_calls W q T'.ops A9 c9 ⟨x0, x1⟩ (hw.below hb).cell (hw.below hb).row hw.cap (by have := hw.len; omega))
      have KGN := Lib.hid (fun W (hb : Below w6.heap.size w6 W) => gahead_calls q T'.ops A9 c9 F' hfl HI'.out.rep HI'.out.tops ⟨x0, x1⟩ W (hw.below hb))
      have KGV := Lib.hid (fun W (hb : Below w6.heap.size w6 W) => gvis_calls q T'.ops A9 c9 F' hfl HI'.out.rep HI'.out.tops W (hw.below hb))
      rw [← HI'.out.l] at KGN KGV
      have hat := at_cases T'.l (by rw [HI'.out.lids]; exact HI'.out.nodup) pl
      have KAT := Lib.hid (fun W (hb : Below w6.heap.size w6 W) y is (hr : atS T'.l pl = (y, is)) => at_nm AR.out HS6.out hb (by omega) hr)
      have HNX := Lib.hid (show ∀ W, Below w6.heap.size w6 W → PlayS w W p q w.heap.size (i + 1) x0 x1 from fun W hb => ⟨T', F', HI'.out, hol', HS6.out.below APR.out hb⟩)
      have HXC := Lib.hid (fun W (hb : Below w6.heap.size w6 W) => show W.cell? ⟨w.heap.size, 0, none⟩ = some (.int .i64 x0) ∧ W.cell? ⟨w.heap.size, 1, none⟩ = some (.int .i64 x1) from ⟨(cell_of (HS6.out.below APR.out hb).snd.snd.blk 0).trans rfl, (cell_of (HS6.out.below APR.out hb).snd.snd.blk 1).trans rfl⟩)
      have HAT := Lib.hid hat
      generalize hasR T'.ops ⟨x0, x1⟩ = rh at KH KGH
      generalize aliveR T'.ops ⟨x0, x1⟩ = ra at KA KGA
      generalize aheadS T'.l ⟨x0, x1⟩ = rn at KN KGN
      clear hat hw hfl hll
      go_wp2_with (go_at_call 34; with_reducible refine KSM.out.mono ?_; rintro e w7 ⟨rfl, hb⟩; have HB7 := Lib.hid (show Below w6.heap.size w6 w7.drew from hb.drew); clear hb)
      go_region_held3 (fun W => W.cell? ⟨w.heap.size, 0, none⟩ = some (.int .i64 x0) ∧ W.cell? ⟨w.heap.size, 1, none⟩ = some (.int .i64 x1)) ((first | with_reducible exact HXC.out _ HB7.out | with_reducible exact HXC.out _ HB8.out | with_reducible exact HXC.out _ HB9.out | with_reducible exact HXC.out _ HB10.out | with_reducible exact HXC.out _ HB11.out | with_reducible exact HXC.out _ HB12.out | with_reducible exact HXC.out _ HB13.out)) (first
        | (go_at_call 35; with_reducible refine (KH.out _ HB7.out).mono ?_; rintro e w8 ⟨rfl, hb⟩; have HB8 := Lib.hid (below_step HB7.out hb); clear hb)
        | (go_at_call 36; with_reducible refine (KGH.out _ HB8.out).mono ?_; rintro e w9 ⟨rfl, hb⟩; have HB9 := Lib.hid (below_step HB8.out hb); clear hb)
        | (go_at_call 27; with_reducible refine (KA.out _ HB9.out).mono ?_; rintro e w10 ⟨rfl, hb⟩; have HB10 := Lib.hid (below_step HB9.out hb); clear hb)
        | (go_at_call 37; with_reducible refine (KGA.out _ HB10.out).mono ?_; rintro e w11 ⟨rfl, hb⟩; have HB11 := Lib.hid (below_step HB10.out hb); clear hb)
        | (go_at_call 32; with_reducible refine (KN.out _ HB11.out).mono ?_; rintro e w12 ⟨rfl, hb⟩; have HB12 := Lib.hid (below_step HB11.out hb); clear hb)
        | (go_at_call 38; with_reducible refine (KGN.out _ HB12.out).mono ?_; rintro e w13 ⟨rfl, hb⟩; have HB13 := Lib.hid (below_step HB12.out hb); clear hb))
      rcases HAT.out with ⟨j, rfl, hj, hat⟩ | ⟨hat, hout⟩
      · have HIY := Lib.hid (fun W (A2 : Option Addr) (n2 c2 : Nat) B (w0 : World) (h : St w0 W (sep (isRow k31 31 (.slice A2 n2 c2) (aliveIds T'.l)) B)) => cell_id (h.later (Below.refl _ _)).2.2 (Below.refl _ _) j hj)
        generalize (aliveIds T'.l)[j] = y at HIY hat
        obtain ⟨y0, y1⟩ := y
        simp only at HIY
        have HA1 := Lib.hid hat
        have HJ := Lib.hid hj
        clear hat hj HAT
        go_wp2_with (first
          | (go_at_call 39; with_reducible refine (KGV.out _ HB13.out).mono ?_; rintro e w14 ⟨A1, n1, c1, A2, n2, c2, A3, n3, c3, rfl, hS⟩; have HG := Lib.hid hS; have HB14 := Lib.hid (below_step HB13.out hS.bel); clear hS)
          | (go_at_call 31; with_reducible refine (KAT.out _ HB14.out _ _ HA1.out).mono ?_; rintro e w15 ⟨rfl, hb⟩; have HX15 := Lib.hid hb; have HB15 := Lib.hid (below_step HB14.out hb); clear hb))
        have hln2 := row_len HG.out.snd
        have hjn : j < n2 := by have := HJ.out; omega
        have hdj : decide (j < n2) = true := by simpa using hjn
        have HGA := Lib.hid (HG.out.snd.fst.with_emp.below (asn_sep (asn_row _ _ _ _) asn_emp) (HX15.out.alloc HX15.out.size (.cells #[.int .i64 y0, .int .i64 y1] 31)))
        obtain ⟨ad2, rfl, g0, g1⟩ := HIY.out _ _ _ _ _ _ HGA.out
        have HB16 := Lib.hid (show Below w6.heap.size w6 (w15.alloc (.cells #[.int .i64 y0, .int .i64 y1] 31)) from HB15.out.alloc HB15.out.size _)
        clear hln2
        go_quiet (fail)
        go_wp2
        go_roundg (N - (i + 1))
        case measure => omega
        case rel => exact ⟨i + 1, by go_num, by omega, HNX.out _ (pw_below_drewN HB16.out _)⟩
      · have hat2 : atS T'.l pl = (⟨0, 0⟩, false) := hat
        have HA1 := Lib.hid hat2
        have HOUT := Lib.hid hout
        clear hat hat2 hout HAT
        go_wp2_with (first
          | (go_at_call 39; with_reducible refine (KGV.out _ HB13.out).mono ?_; rintro e w14 ⟨A1, n1, c1, A2, n2, c2, A3, n3, c3, rfl, hS⟩; have HG := Lib.hid hS; have HB14 := Lib.hid (below_step HB13.out hS.bel); clear hS)
          | (go_at_call 31; with_reducible refine (KAT.out _ HB14.out _ _ HA1.out).mono ?_; rintro e w15 ⟨rfl, hb⟩; have HB15 := Lib.hid (below_step HB14.out hb); clear hb))
        have hln2 := row_len HG.out.snd
        have HB16 := Lib.hid (show Below w6.heap.size w6 (w15.alloc (.cells #[.int .i64 0, .int .i64 0] 31)) from HB15.out.alloc HB15.out.size _)
        have hex : decide (0 ≤ pl) = false ∨ (decide (0 ≤ pl) = true ∧ decide (pl < (n2 : Int)) = false) := by
          by_cases h0 : 0 ≤ pl
          · right
            refine ⟨by simpa using h0, ?_⟩
            have := HOUT.out
            simp
            omega
          · left
            simpa using h0
        clear hln2
        rcases hex with hd5 | ⟨hd5, hd6⟩
        all_goals
          go_quiet (fail)
          go_wp2
          go_roundg (N - (i + 1))
          case measure => omega
          case rel => exact ⟨i + 1, by go_num, by omega, HNX.out _ (pw_below_drewN HB16.out _)⟩
    · obtain rfl : i = N := by omega
      have hex : (decide (i < len) = true ∧ decide ((i : Int) < 40) = false) ∨ decide (i < len) = false := by
        by_cases h3 : i < len
        · rcases HN3.out with k | k
          · omega
          · exact .inl ⟨by simpa using h3, by simp; omega⟩
        · exact .inr (by simpa using h3)
      have HB := Lib.hid hS.bel
      clear hI hS hol HI
      rcases hex with ⟨hd1, hd2⟩ | hd1
      all_goals
        go_wp2
        go_ret
        exact ⟨rfl, HB.out⟩
end Go.Proofs.Ytehdjdediobemaa.PC
