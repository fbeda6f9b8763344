/- A part of the proof of cursorGone_holds: its texts, one behind the other, as far as the proof stands on them. (Lines of its texts on the printed words and functions began as lines that a program of the kit had written for this statement.) -/
import Derived.ArgAppend
import Derived.Below
import Derived.BigQuiet
import Derived.BigRegion
import Derived.ChangeMaps4
import Derived.ChangeMaps5
import Derived.Deep.AppendLies
import Derived.Deep.CutBlock
import Derived.Deep.CutRange
import Derived.Deep.DeepCutAuto
import Derived.Deep.DrawnRows
import Derived.Deep.Draws
import Derived.Deep.LoopGhost
import Derived.Deep.OwnRows
import Derived.Deep.QuietTactic
import Derived.Deep.RegionHeld3
import Derived.Deep.RegionLaw
import Derived.Deep.RegionWith
import Derived.KernelRfl
import Derived.Laws.BitsLemmas
import Derived.Laws.BytesArg
import Derived.Laws.CopyRow
import Derived.Laws.Cover4
import Derived.Laws.Externs
import Derived.Laws.IdiomCopy
import Derived.Laws.MakeOwn
import Derived.Laws.NewBlocks
import Derived.Laws.OwnMore
import Derived.Laws.Rows
import Derived.Laws.Slices
import Derived.Laws.StructEq
import Derived.Lib.AppendStr
import Derived.Lib.AppendZeros
import Derived.Lib.AppendZerosOnto
import Derived.Lib.ConvBytes
import Derived.Lib.Hide
import Derived.Lib.JoinLaws
import Derived.Lib.Overlaps
import Derived.Lib.Walk
import Derived.MapKept
import Derived.Maps.AppendAt
import Derived.OrdersHeld
import Derived.OwnWalk
import Derived.RegionTactic
import Derived.RowKit
import Derived.RowKit3
import Derived.StillTail
import Derived.StillTailTactics
import Derived.Tactics
import Derived.Test.YtefnpalkkhhkfaaProg
import Derived.WalkKit
import Derived.WalkSpells
import Derived.WideLaws
import Derived.Test.YtefnpalkkhhkfaaBD0
namespace Go.Proofs.Ytefnpalkkhhkfaa.PC
open Go.RowKit Go.Proofs.YtefnpalkkhhkfaaW.PrintWords Go.Proofs.Ytefnpalkkhhkfaa.K Go.Proofs.Ytefnpalkkhhkfaa.IX Go.Proofs.Ytefnpalkkhhkfaa.I
set_option linter.unusedVariables false
set_option linter.unusedSimpArgs false
theorem cn_drop1 (ms : List Bool) (k : Nat) (h : k < ms.length) (ht : ms[k] = true) : cn (ms.set k false) + 1 = cn ms := by
  have := cn_set ms k false h
  rw [ht] at this
  simp [oneI] at this
  omega
theorem cn_take_mono (ms : List Bool) (i k : Nat) (h : i ≤ k) : cn (ms.take i) ≤ cn (ms.take k) := by
  have e : ms.take i = (ms.take k).take i := by rw [List.take_take, Nat.min_eq_left h]
  have e2 := List.take_append_drop i (ms.take k)
  have e3 := congrArg cn e2
  rw [cn_app] at e3
  rw [e]
  omega
structure GoneC (T : TS) (i : Nat) (x : S24) (T' : TS) : Prop where
  put : putT T (gOne T.top x 4194303) = ((true, 0), T')
  inv : ∃ F, Inv T' F
  len : cn (T'.l.map (·.f2)) + 1 = cn (T.l.map (·.f2))
  at_ : placeA T'.l x false = ((i : Int), 0)
  next : ∀ y, holdS T.l ((i : Int) + 1) true = ((y, true), 0) → placeA T'.l y true = ((i : Int), 0)
theorem gone18_law {T : TS} {F : Fo} (h : Inv T F) (i : Nat) (hi : i < (aliveIds T.l).length) (ht : T.top < 4294967295) (ha : ∀ y ∈ T.ops, y.f0.f1 ≠ 4194303) : GoneC T i (aliveIds T.l)[i] (takeS T (gOne T.top (aliveIds T.l)[i] 4194303)) := by
  have hnd : (T.l.map (·.f0)).Nodup := by rw [h.lids]; exact h.nodup
  have hcn := ids_cn T.l
  obtain ⟨k, hk, hs1, hk2, hk3, hk4⟩ := sel_nth T.l i (by omega)
  have hx : (aliveIds T.l)[i] = T.l[k].f0 := by
    rw [List.getElem?_eq_getElem hi] at hk4
    injection hk4
  obtain ⟨x, hxx⟩ : ∃ x, (aliveIds T.l)[i] = x := ⟨_, rfl⟩
  have hz : idq (aliveIds T.l)[i] ⟨0, 0⟩ = false := (place_alive h i hi false).2
  rw [hxx] at hx hz ⊢
  have hp : placeS T.l x = k := by rw [hx]; exact place_nth _ hnd k hk
  have hm : x ∈ T.l.map (·.f0) := by rw [hx]; exact List.mem_map.2 ⟨_, List.getElem_mem hk, rfl⟩
  have hid := ids_top h T.l[k] (List.getElem_mem hk)
  rw [← hx] at hid
  obtain ⟨⟨q1, q2, q3, q4⟩, htop⟩ := hid
  obtain ⟨o, ho⟩ : ∃ o, gOne T.top x 4194303 = o := ⟨_, rfl⟩
  have r1 : rightS o := by rw [← ho]; exact ⟨⟨by show 1 ≤ T.top + 1; omega, by show T.top + 1 ≤ 4294967295; omega, by show (0 : Int) ≤ 4194303; decide, by show (4194303 : Int) ≤ 4194303; decide⟩, by show (1 : Int) ≤ 1; decide, by show (1 : Int) ≤ 4294967295; decide, by show x.f0 < T.top + 1; omega, .inr ⟨rfl, ⟨q1, q2, q3, q4⟩, rfl⟩⟩
  have f2 : o.f2 = false := by rw [← ho]; rfl
  have g3 : o.f3 = x := by rw [← ho]; rfl
  have s1 : o.f1 = 1 := by rw [← ho]; rfl
  have a1 : o.f0.f1 = 4194303 := by rw [← ho]; rfl
  have hno : refS T o = none := take_ok h r1 s1 (fun y hy => by have := ha y hy; rw [a1]; exact this) (by rw [g3]; exact hm)
  have hl : (takeS T o).l = goneS T.l k := take_gone f2 (by rw [g3]; exact hp)
  obtain ⟨F', h'⟩ := inv_take h hno
  have hms : (takeS T o).l.map (·.f2) = (T.l.map (·.f2)).set k false := by rw [hl]; exact goneS_ms _ _
  have hkm : k < (T.l.map (·.f2)).length := by rw [List.length_map]; exact hk
  have hmt : (T.l.map (·.f2))[k] = true := by rw [List.getElem_map]; exact hk2
  have hlen : cn ((takeS T o).l.map (·.f2)) + 1 = cn (T.l.map (·.f2)) := by rw [hms]; exact cn_drop1 _ k hkm hmt
  have hplc : ∀ y, placeS (takeS T o).l y = placeS T.l y := fun y => by rw [hl]; exact place_gone _ _ hk y
  have hdead : aliveS (takeS T o).l x = false := by rw [hl, hx]; exact gone_dead _ hnd k hk
  refine ⟨by rw [ho]; exact put_take hno, by rw [ho]; exact ⟨F', h'⟩, by rw [ho]; exact hlen, ?_, ?_⟩
  · rw [ho]
    have hhas : hasS (takeS T o).l x = true := by unfold hasS; rw [hplc, hp]; simp
    have hah : aheadS (takeS T o).l x = i := by
      unfold aheadS rankS
      rw [hplc, hp, hms, Int.toNat_natCast, List.take_set, List.set_eq_of_length_le (by rw [List.length_take]; omega), hk3]
    unfold placeA
    rw [if_neg (by rw [hz]; decide), hhas, if_neg (by decide), hdead, hah, if_neg (fun q => by cases q.1)]
  · intro y hy
    rw [ho]
    have hnc : i + 1 ≤ cn (T.l.map (·.f2)) := by omega
    have hy2 : y = (atS T.l ((i : Int) + 1)).1 := by
      unfold holdS at hy
      rw [if_neg (by omega)] at hy
      injection hy with hy _
      injection hy with hy _
      exact hy.symm
    by_cases hn : i + 1 < (aliveIds T.l).length
    · obtain ⟨k2, hj, _, hj2, hj3, hj4⟩ := sel_nth T.l (i + 1) (by omega)
      have hy3 : y = T.l[k2].f0 := by
        rw [hy2, show (i : Int) + 1 = ((i + 1 : Nat) : Int) by omega, (places T.l hnd (i + 1) hn).1]
        rw [List.getElem?_eq_getElem hn] at hj4
        injection hj4
      have hz2 : idq y ⟨0, 0⟩ = false := by
        have := (place_alive h (i + 1) hn false).2
        rw [hy2, show (i : Int) + 1 = ((i + 1 : Nat) : Int) by omega, (places T.l hnd (i + 1) hn).1]
        exact this
      have hp2 : placeS T.l y = k2 := by rw [hy3]; exact place_nth _ hnd k2 hj
      have hlt : k < k2 := by
        apply Decidable.byContradiction
        intro hc
        have := cn_take_mono (T.l.map (·.f2)) k2 k (by omega)
        omega
      have hhas : hasS (takeS T o).l y = true := by unfold hasS; rw [hplc, hp2]; simp
      have hah : aheadS (takeS T o).l y = i := by
        unfold aheadS rankS
        rw [hplc, hp2, hms, Int.toNat_natCast, List.take_set]
        have hkt : k < ((T.l.map (·.f2)).take k2).length := by rw [List.length_take, List.length_map]; omega
        have := cn_drop1 ((T.l.map (·.f2)).take k2) k hkt (by rw [List.getElem_take]; exact hmt)
        omega
      unfold placeA
      rw [if_neg (by rw [hz2]; decide), hhas, if_neg (by decide), hah, if_neg (fun q => by cases q.2)]
    · have hat : atS T.l ((i : Int) + 1) = (z24, false) := at_out T.l _ (.inr (by omega))
      have hy4 : y = ⟨0, 0⟩ := by rw [hy2, hat]; rfl
      unfold placeA
      rw [hy4, if_pos ((idq_iff _ _).2 rfl), if_pos rfl]
      rw [show (cn ((takeS T o).l.map (·.f2)) : Int) = (i : Int) by omega]
end Go.Proofs.Ytefnpalkkhhkfaa.PC
namespace Go.Proofs.Ytefnpalkkhhkfaa.PC
open Go.RowKit Go.Proofs.YtefnpalkkhhkfaaW.PrintWords Go.Proofs.YtefnpalkkhhkfaaW.PrintLast Go.Proofs.YtefnpalkkhhkfaaW.PrintMore Go.Proofs.Ytefnpalkkhhkfaa.K Go.Proofs.Ytefnpalkkhhkfaa.IX Go.Proofs.Ytefnpalkkhhkfaa.I
attribute [local go_sem] max2_int min2_int max_two min_two max_three min_three max_four min_four
attribute [local go_sem high] eqA24
set_option linter.unusedVariables false
set_option linter.unusedSimpArgs false
theorem topR_bounds18 (L : List S49) (h : ∀ x ∈ L, rightS x) : 0 ≤ topR L ∧ topR L ≤ 4294967295 := by
  induction L using snoc_ind with
  | h0 => exact ⟨Int.le_refl _, by decide⟩
  | h1 L x ih =>
    have h1 := ih fun y hy => h y (by simp [hy])
    have h2 := (h x (by simp)).1
    have h3 := h2.2.1
    rw [topR_snoc]
    omega
set_option maxHeartbeats 8000000 in
set_option maxRecDepth 100000 in
theorem gone18_row (A : Option Addr) (cap : Nat) (l : List S49) (pl : Int) (w : World) (hr : Kd.C k49 w A l.length l) (hc : l.length ≤ cap) (hy : l.length * 56 ≤ 140737488351232) (hg : ∀ y ∈ l, True) (hw : (Lit.int .i64 pl).wf = true) :
    Calls Try.prog 7 #[.slice A l.length cap, .int .i64 pl] w fun e w' => e = .returned (.bool true) ∧ Below w.heap.size w w' := by
  have HRD := Lib.hid hr
  have HSH := Lib.hid (shown18_calls w)
  have KM := Lib.hid (fun W (hb : Below w.heap.size w W) => made_calls W A cap l (Kd.C_below hr hb) hc (by omega))
  obtain ⟨len, hlen⟩ : ∃ len, l.length = len := ⟨_, rfl⟩
  have HLEN := Lib.hid hlen
  rw [hlen] at KM hc hy ⊢
  have hl2 : len ≤ 140737488351232 := by omega
  clear hr hy hg hlen hw
  go_enter Try.func7, Try.ntmps7
  go_wp2_with (go_at_call 9; refine HSH.out.mono ?_; rintro e w1 ⟨rfl, hb⟩; have HB1 := Lib.hid hb; clear hb)
  refine (KM.out _ HB1.out).mono ?_
  rintro e w2 ⟨p, q, T, F, rfl, hI, hol, hsub, hS⟩
  have hll := hI.ll
  obtain ⟨nc, hnc⟩ : ∃ nc, cn (T.l.map (·.f2)) = nc := ⟨_, rfl⟩
  have hncl : nc ≤ 30 := by have := cn_le (T.l.map (·.f2)); rw [List.length_map] at this; omega
  have hil := ids_cn T.l
  rw [hnc] at hil
  have HL := Lib.hid (show T.l.length ≤ 100000 by omega)
  obtain ⟨t, ht⟩ : ∃ t, T.top = t := ⟨_, rfl⟩
  have htb : 0 ≤ t ∧ t ≤ 4294967295 := by rw [← ht, hI.top]; exact topR_bounds18 _ hI.right
  have AR := Lib.hid (asn_sep (asn_ref q T.ops) asn_emp)
  have APR := Lib.hid (asn_sep (asn_tx p T) AR.out)
  have HS3 := Lib.hid (show St w w2 (sep (isTx p T) (sep (isRef q T.ops) emp)) from by
    obtain ⟨G, g1, g2, g3⟩ := hS
    exact ⟨G, g1, below_step HB1.out g2, fun k hk => Nat.le_trans HB1.out.size (g3 k hk)⟩)
  have KLN := Lib.hid (fun W (hb : Below w2.heap.size w2 W) => len_nm' AR.out hS hb hnc)
  have KTP := Lib.hid (fun W (hb : Below w2.heap.size w2 W) => show Calls Try.prog 22 #[.pointer (some ⟨p, 0, none⟩)] W fun e w' => e = .returned (.int .i64 t) ∧ W = w' from ht ▸ top_st (hS.below APR.out hb))
  have KHD := Lib.hid (fun W (hb : Below w2.heap.size w2 W) pl ah x0 x1 (hr : holdS T.l pl ah = ((⟨x0, x1⟩, ah), 0)) => hold_nm AR.out hS hb HL.out pl ah hr)
  have KAT := Lib.hid (fun W (hb : Below w2.heap.size w2 W) k x0 x1 is (hr : atS T.l k = (⟨x0, x1⟩, is)) => at_nm' AR.out hS hb HL.out hr)
  obtain ⟨x1, hx1⟩ : ∃ y, Go.bits .and .i64 pl 65535 = y := ⟨_, rfl⟩
  have hb1 := bits16 pl
  rw [hx1] at hb1
  have hp1 := Int.emod_nonneg x1 (show ((nc : Int) + 1) ≠ 0 by omega)
  have hp2 := Int.emod_lt_of_pos x1 (show (0 : Int) < (nc : Int) + 1 by omega)
  obtain ⟨i, hi⟩ : ∃ i : Nat, x1 % ((nc : Int) + 1) = (i : Int) := ⟨(x1 % ((nc : Int) + 1)).toNat, by omega⟩
  have hin : i ≤ nc := by omega
  have hwn : IntKind.i64.wrap ((nc : Int) + 1) = (nc : Int) + 1 := by rw [IntKind.wrap_i64]; omega
  have hzn : (((nc : Int) + 1) == 0) = false := by simp; omega
  obtain ⟨⟨a0, a1⟩, ha, _⟩ := back_law hI i (by rw [hnc]; exact hin) false
  obtain ⟨⟨b0, b1⟩, hb, _⟩ := back_law hI i (by rw [hnc]; exact hin) true
  have HHA := Lib.hid ha
  have HHB := Lib.hid hb
  have HI := Lib.hid hI
  have hat0 : i = 0 → a0 = 0 ∧ a1 = 0 := fun h => by
    subst h
    unfold holdS at ha
    rw [if_neg (by omega), if_neg (by decide), at_out T.l _ (.inl (by decide))] at ha
    injection ha with ha _
    injection ha with ha _
    injection ha with h0 h1
    exact ⟨h0.symm, h1.symm⟩
  have HS4F := Lib.hid (fun W (hb : Below w2.heap.size w2 W) => show St w (W.alloc (.cells #[.int .i64 a0, .int .i64 a1, .bool false] 26)) (sep (isBlk W.heap.size (anZ a0 a1 false)) (sep (isTx p T) (sep (isRef q T.ops) emp))) from (HS3.out.below APR.out hb).mkblk APR.out _)
  have HB2 := Lib.hid HS3.out.bel
  by_cases htop : t < 4294967295
  · have hdt : decide (4294967295 ≤ t) = false := by simp; omega
    by_cases hi0 : i = 0
    · obtain ⟨rfl, rfl⟩ := hat0 hi0
      subst hi0
      have HHA := Lib.hid (show holdS T.l 0 false = ((⟨0, 0⟩, false), 0) from ha)
      have HHB := Lib.hid (show holdS T.l 0 true = ((⟨b0, b1⟩, true), 0) from hb)
      have hi : x1 % ((nc : Int) + 1) = 0 := hi
      clear hI hol hsub hS hll hnc hil ht htb hat0 ha hb
      go_wp2_with (first
        | (go_at_call 21; with_reducible refine (KLN.out _ (Below.refl _ _)).mono ?_; rintro e w3 ⟨rfl, rfl⟩))
      go_wp2_with (go_at_call 13; have kk := KHD.out _ (Below.refl _ _) _ _ _ _ HHA.out; with_reducible refine kk.mono ?_; clear kk; rintro e w4 ⟨rfl, hb⟩; have HS4 := Lib.hid (HS4F.out _ hb); have HB4 := Lib.hid (show Below w2.heap.size w2 (w4.alloc (.cells #[.int .i64 0, .int .i64 0, .bool false] 26)) from hb.alloc hb.size _); clear hb)
      go_wp2_with (go_at_call 13; have kk := KHD.out _ HB4.out _ _ _ _ HHB.out; with_reducible refine kk.mono ?_; clear kk; rintro e w5 ⟨rfl, hb⟩; have HS5 := Lib.hid (show St w (w5.alloc (.cells #[.int .i64 b0, .int .i64 b1, .bool true] 26)) (sep (isBlk w5.heap.size (anZ b0 b1 true)) (sep (isBlk w4.heap.size (anZ 0 0 false)) (sep (isTx p T) (sep (isRef q T.ops) emp)))) from (HS4.out.below (asn_sep (asn_blk _ _) APR.out) hb).mkblk (asn_sep (asn_blk _ _) APR.out) _); have HB5 := Lib.hid (show Below w2.heap.size w2 (w5.alloc (.cells #[.int .i64 b0, .int .i64 b1, .bool true] 26)) from (below_step HB4.out hb).alloc (below_step HB4.out hb).size _); obtain ⟨f0, f1, -⟩ := (show (w5.alloc (.cells #[.int .i64 b0, .int .i64 b1, .bool true] 26)).cell? ⟨w4.heap.size, 0, none⟩ = some (.int .i64 0) ∧ (w5.alloc (.cells #[.int .i64 b0, .int .i64 b1, .bool true] 26)).cell? ⟨w4.heap.size, 1, none⟩ = some (.int .i64 0) ∧ True from ⟨HS5.out.snd.an_cells.1, HS5.out.snd.an_cells.2.1, trivial⟩); clear hb)
      go_wp2_with (go_at_call 22; have kk := KTP.out _ HB5.out; with_reducible refine kk.mono ?_; clear kk; rintro e w6 ⟨rfl, rfl⟩)
      go_ret
      exact ⟨rfl, below_step HB2.out HB5.out⟩
    · obtain ⟨g, hg⟩ : ∃ g, i = g + 1 := ⟨i - 1, by omega⟩
      have hgj : g < (aliveIds T.l).length := by omega
      have hgi : (g : Int) = (i : Int) - 1 := by omega
      have hpl := (places T.l (by rw [hI.lids]; exact hI.nodup) g hgj).1
      have hxa : (aliveIds T.l)[g] = ⟨a0, a1⟩ := by
        have ha2 := ha
        unfold holdS at ha2
        rw [if_neg (by omega), if_neg (by decide), ← hgi, hpl] at ha2
        injection ha2 with ha2 _
        injection ha2
      rw [hxa, hgi] at hpl
      have HGC := Lib.hid (fun (hno : ∀ y ∈ T.ops, y.f0.f1 ≠ 4194303) => show GoneC T g ⟨a0, a1⟩ (takeS T (gOne T.top ⟨a0, a1⟩ 4194303)) from by
        have := gone18_law hI g hgj (by rw [ht]; exact htop) hno
        rw [hxa] at this
        exact this)
      obtain ⟨T', hT'⟩ : ∃ T', takeS T (gOne T.top ⟨a0, a1⟩ 4194303) = T' := ⟨_, rfl⟩
      rw [hT'] at HGC
      have hb' : holdS T.l ((g : Int) + 1) true = ((⟨b0, b1⟩, true), 0) := by rw [show (g : Int) + 1 = (i : Int) by omega]; exact hb
      have HBG := Lib.hid hb'
      have HPL := Lib.hid hpl
      have HOPS := Lib.hid (show T'.ops.length ≤ 31 ∧ T.ops.length ≤ 30 from ⟨by rw [← hT']; show (T.ops ++ [_]).length ≤ 31; rw [List.length_append, List.length_singleton]; omega, hol⟩)
      have HSUB := Lib.hid hsub
      have HTT := Lib.hid ht
      have HNC := Lib.hid hnc
      have HGI := Lib.hid hgi
      have hw3 : IntKind.i64.wrap ((i : Int) - 1) = (i : Int) - 1 := by rw [IntKind.wrap_i64]; omega
      have hw4 : IntKind.i64.wrap ((nc : Int) - 1) = (nc : Int) - 1 := by rw [IntKind.wrap_i64]; omega
      have hw5 : IntKind.i64.wrap (t + 1) = t + 1 := by rw [IntKind.wrap_i64]; omega
      have hi9 : ((i : Int) == 0) = false := by simp; omega
      clear hI hol hsub hS hll hnc hil ht htb hat0 ha hb hg hgj hgi hpl hxa hb' hT' hi0
      go_wp2_with (go_at_call 21; with_reducible refine (KLN.out _ (Below.refl _ _)).mono ?_; rintro e w3 ⟨rfl, rfl⟩)
      go_wp2_with (go_at_call 13; have kk := KHD.out _ (Below.refl _ _) _ _ _ _ HHA.out; with_reducible refine kk.mono ?_; clear kk; rintro e w4 ⟨rfl, hb⟩; have HS4 := Lib.hid (HS4F.out _ hb); have HB4 := Lib.hid (show Below w2.heap.size w2 (w4.alloc (.cells #[.int .i64 a0, .int .i64 a1, .bool false] 26)) from hb.alloc hb.size _); clear hb)
      go_wp2_with (go_at_call 13; have kk := KHD.out _ HB4.out _ _ _ _ HHB.out; with_reducible refine kk.mono ?_; clear kk; rintro e w5 ⟨rfl, hb⟩; have HS5 := Lib.hid (show St w (w5.alloc (.cells #[.int .i64 b0, .int .i64 b1, .bool true] 26)) (sep (isBlk w5.heap.size (anZ b0 b1 true)) (sep (isBlk w4.heap.size (anZ a0 a1 false)) (sep (isTx p T) (sep (isRef q T.ops) emp)))) from (HS4.out.below (asn_sep (asn_blk _ _) APR.out) hb).mkblk (asn_sep (asn_blk _ _) APR.out) _); have HB5 := Lib.hid (show Below w2.heap.size w2 (w5.alloc (.cells #[.int .i64 b0, .int .i64 b1, .bool true] 26)) from (below_step HB4.out hb).alloc (below_step HB4.out hb).size _); clear hb)
      go_wp2_with (go_at_call 22; have kk := KTP.out _ HB5.out; with_reducible refine kk.mono ?_; clear kk; rintro e w6 ⟨rfl, rfl⟩)
      go_wp2_with (go_at_call 23; have kk := KAT.out _ HB5.out _ _ _ _ HPL.out; with_reducible refine kk.mono ?_; clear kk; rintro e w7 ⟨rfl, hb⟩; have HS7 := Lib.hid (show St w (w7.alloc (.cells #[.int .i64 a0, .int .i64 a1] 24)) (sep (isBlk w7.heap.size (.cells #[.int .i64 a0, .int .i64 a1] 24)) (sep (isBlk w5.heap.size (anZ b0 b1 true)) (sep (isBlk w4.heap.size (anZ a0 a1 false)) (sep (isTx p T) (sep (isRef q T.ops) emp))))) from (HS5.out.below (asn_sep (asn_blk _ _) (asn_sep (asn_blk _ _) APR.out)) hb).mkblk (asn_sep (asn_blk _ _) (asn_sep (asn_blk _ _) APR.out)) _); obtain ⟨f0, f1⟩ := (show (w7.alloc (.cells #[.int .i64 a0, .int .i64 a1] 24)).cell? ⟨w4.heap.size, 0, none⟩ = some (.int .i64 a0) ∧ (w7.alloc (.cells #[.int .i64 a0, .int .i64 a1] 24)).cell? ⟨w4.heap.size, 1, none⟩ = some (.int .i64 a1) from ⟨HS7.out.snd.snd.an_cells.1, HS7.out.snd.snd.an_cells.2.1⟩); clear hb)
      obtain ⟨q9, hq9⟩ : ∃ x, w4.heap.size = x := ⟨_, rfl⟩
      obtain ⟨q11, hq11⟩ : ∃ x, w5.heap.size = x := ⟨_, rfl⟩
      obtain ⟨q13, hq13⟩ : ∃ x, w7.heap.size = x := ⟨_, rfl⟩
      rw [hq9, hq11, hq13] at HS7
      try rw [hq9]
      try rw [hq11]
      try rw [hq13]
      clear hq9 hq11 hq13
      obtain ⟨R, hR⟩ : ∃ R : As, R = (sep (isBlk q13 (.cells #[.int .i64 a0, .int .i64 a1] 24)) (sep (isBlk q11 (anZ b0 b1 true)) (sep (isBlk q9 (anZ a0 a1 false)) (sep (isRef q T.ops) emp)))) := ⟨_, rfl⟩
      have ASR := Lib.hid (show Asn R from hR ▸ asn_sep (asn_blk _ _) (asn_sep (asn_blk _ _) (asn_sep (asn_blk _ _) AR.out)))
      have HSR := Lib.hid (show St w _ (sep (isTx p T) R) from hR ▸ HS7.out.fourth)
      have HB13 := Lib.hid (fun W C (h : St w W (sep C R)) => show W.cell? ⟨q13, 0, none⟩ = some (.int .i64 a0) ∧ W.cell? ⟨q13, 1, none⟩ = some (.int .i64 a1) from ⟨(cell_of (hR ▸ h : St w W (sep C _)).snd.blk 0).trans rfl, (cell_of (hR ▸ h : St w W (sep C _)).snd.blk 1).trans rfl⟩)
      have HB11 := Lib.hid (fun W C (h : St w W (sep C R)) => show W.cell? ⟨q11, 0, none⟩ = some (.int .i64 b0) ∧ W.cell? ⟨q11, 1, none⟩ = some (.int .i64 b1) ∧ W.cell? ⟨q11, 2, none⟩ = some (.bool true) ∧ ∀ o, W.frozen? ⟨q11, o, none⟩ = false from (hR ▸ h : St w W (sep C _)).snd.snd.an_cells)
      have HB9 := Lib.hid (fun W C (h : St w W (sep C R)) => show W.cell? ⟨q9, 0, none⟩ = some (.int .i64 a0) ∧ W.cell? ⟨q9, 1, none⟩ = some (.int .i64 a1) ∧ W.cell? ⟨q9, 2, none⟩ = some (.bool false) ∧ ∀ o, W.frozen? ⟨q9, o, none⟩ = false from (hR ▸ h : St w W (sep C _)).snd.snd.snd.an_cells)
      clear HS7 hR HS4F
      go_loopg [16] len (fun kq v16 wr => ∃ (j : Nat), v16 = .int .i64 (j : Int) ∧ Aside0 (kq + j = len ∧ St w wr (sep (isTx p T) R) ∧ (∀ m (h : m < l.length), m < j → l[m].f0.f1 ≠ 4194303)))
      case atStart => exact ⟨0, rfl, by omega, HSR.out, fun m _ h => by omega⟩
      case round =>
        obtain ⟨j, rfl, HJ⟩ := hrel
        have hkj := HJ.out.1
        have HSJ := Lib.hid HJ.out.2.1
        by_cases hjt : j < len
        · have hjl : j < l.length := by rw [HLEN.out]; exact hjt
          obtain ⟨ad, rfl, -, c1, -⟩ := cell_op HRD.out HSJ.out.bel j hjl
          have hd3 : decide (j < len) = true := by simpa using hjt
          have HAU := Lib.hid (show ∀ a : Int, a = l[j].f0.f1 → a ≠ 4194303 → (∀ m (h : m < l.length), m < j + 1 → l[m].f0.f1 ≠ 4194303) from fun a e h1 m h hm => by
            by_cases hmj : m = j
            · subst hmj; omega
            · exact HJ.out.2.2 m h (by omega))
          obtain ⟨au, hau⟩ : ∃ au, l[j].f0.f1 = au := ⟨_, rfl⟩
          rw [hau] at c1
          have HAE := Lib.hid hau.symm
          clear hau HJ
          by_cases h1 : au = 4194303
          · have hd4 : (au == 4194303) = true := by simpa using h1
            go_wp2
            go_ret
            exact ⟨rfl, HSJ.out.bel⟩
          · have hd4 : (au == 4194303) = false := by simpa using h1
            go_wp2
            go_roundg (len - (j + 1))
            case measure => omega
            case rel => exact ⟨j + 1, by go_num, by omega, HSJ.out, HAU.out au HAE.out h1⟩
        · obtain rfl : j = len := by omega
          have hd3 : decide (j < j) = false := by simp
          have GC := Lib.hid (HGC.out (fun y hy => by
            obtain ⟨m, hm, e⟩ := List.getElem_of_mem (HSUB.out y hy)
            rw [← e]
            exact HJ.out.2.2 m hm (by rw [← HLEN.out]; exact hm)))
          have HSd := Lib.hid (HSJ.out.drew (asn_sep (asn_tx _ _) ASR.out))
          have KT := Lib.hid (fun W (h : St w W (sep (isTx p T) R)) => show Calls Try.prog 22 #[.pointer (some ⟨p, 0, none⟩)] W fun e w' => e = .returned (.int .i64 t) ∧ W = w' from HTT.out ▸ top_st h)
          have KP := Lib.hid (fun W (h : St w W (sep (isTx p T) R)) => put_named GC.out.put HI.out (by have := HOPS.out.2; omega) ASR.out h)
          have AX := Lib.hid (asn_sep (asn_tx p T') ASR.out)
          have HL2 := Lib.hid (show T'.l.length ≤ 100000 from by obtain ⟨F', hF'⟩ := GC.out.inv; have := hF'.ll; have := HOPS.out.1; omega)
          have KA := Lib.hid (fun W (h : St w W (sep (isTx p T') R)) => show Calls Try.prog 11 #[.pointer (some ⟨p, 0, none⟩), .agg #[.int .i64 a0, .int .i64 a1, .bool false]] W fun e w' => e = .returned (.tuple #[.int .i64 ((i : Int) - 1), .int .i64 0]) ∧ Below W.heap.size W w' from place_nm ASR.out h (Below.refl _ _) HL2.out a0 a1 false (HGI.out ▸ GC.out.at_))
          have KB := Lib.hid (fun W (h : St w W (sep (isTx p T') R)) => show Calls Try.prog 11 #[.pointer (some ⟨p, 0, none⟩), .agg #[.int .i64 b0, .int .i64 b1, .bool true]] W fun e w' => e = .returned (.tuple #[.int .i64 ((i : Int) - 1), .int .i64 0]) ∧ Below W.heap.size W w' from place_nm ASR.out h (Below.refl _ _) HL2.out b0 b1 true (HGI.out ▸ GC.out.next _ HBG.out))
          obtain ⟨n', hn'⟩ : ∃ n', cn (T'.l.map (·.f2)) = n' := ⟨_, rfl⟩
          have hn9 : ((n' : Nat) : Int) = (nc : Int) - 1 := by have := GC.out.len; rw [hn', HNC.out] at this; omega
          have KN := Lib.hid (fun W (h : St w W (sep (isTx p T') R)) => show Calls Try.prog 21 #[.pointer (some ⟨p, 0, none⟩)] W fun e w' => e = .returned (.int .i64 ((nc : Int) - 1)) ∧ W = w' from hn9 ▸ len_nm' ASR.out h (Below.refl _ _) hn')
          unfold opV gOne at KP
          rw [HTT.out] at KP
          obtain ⟨x0, x1⟩ := HB13.out _ _ HSd.out
          clear HJ hn'
          go_wp2
          go_region_held3 (fun W => W.cell? ⟨q13, 0, none⟩ = some (.int .i64 a0) ∧ W.cell? ⟨q13, 1, none⟩ = some (.int .i64 a1)) ((first | exact HB13.out _ _ HSd.out | exact HB13.out _ _ HS9.out)) (first
            | (go_at_call 22; with_reducible refine (KT.out _ HSd.out).mono ?_; rintro e w8 ⟨rfl, rfl⟩)
            | (go_at_call 24; with_reducible refine (KP.out _ HSd.out).mono ?_; rintro e w9 ⟨rfl, hS9⟩; have HS9 := Lib.hid hS9; clear hS9))
          clear x0 x1
          obtain ⟨y0, y1, y2, _⟩ := HB9.out _ _ HS9.out
          go_wp2_with (go_at_call 11; with_reducible refine (KA.out _ HS9.out).mono ?_; rintro e w10 ⟨rfl, hb⟩; have HS10 := Lib.hid (HS9.out.below AX.out hb); clear hb y0 y1 y2; obtain ⟨y0, y1, y2, _⟩ := HB11.out _ _ HS10.out)
          go_wp2_with (go_at_call 11; with_reducible refine (KB.out _ HS10.out).mono ?_; rintro e w11 ⟨rfl, hb⟩; have HS11 := Lib.hid (HS10.out.below AX.out hb); clear hb y0 y1 y2)
          go_wp2_with (go_at_call 21; with_reducible refine (KN.out _ HS11.out).mono ?_; rintro e w12 ⟨rfl, rfl⟩)
          go_ret
          exact ⟨rfl, HS11.out.bel⟩
  · have hdt : decide (4294967295 ≤ t) = true := by simp; omega
    clear hI hol hsub hS hll hnc hil ht htb hat0 ha hb
    go_wp2_with (first
      | (go_at_call 21; with_reducible refine (KLN.out _ (Below.refl _ _)).mono ?_; rintro e w3 ⟨rfl, rfl⟩))
    go_wp2_with (go_at_call 13; have kk := KHD.out _ (Below.refl _ _) _ _ _ _ HHA.out; with_reducible refine kk.mono ?_; clear kk; rintro e w4 ⟨rfl, hb⟩; have HB4 := Lib.hid (show Below w2.heap.size w2 (w4.alloc (.cells #[.int .i64 a0, .int .i64 a1, .bool false] 26)) from hb.alloc hb.size _); clear hb)
    go_wp2_with (go_at_call 13; have kk := KHD.out _ HB4.out _ _ _ _ HHB.out; with_reducible refine kk.mono ?_; clear kk; rintro e w5 ⟨rfl, hb⟩; have HB5 := Lib.hid (show Below w2.heap.size w2 (w5.alloc (.cells #[.int .i64 b0, .int .i64 b1, .bool true] 26)) from (below_step HB4.out hb).alloc (below_step HB4.out hb).size _); clear hb)
    go_wp2_with (go_at_call 22; have kk := KTP.out _ HB5.out; with_reducible refine kk.mono ?_; clear kk; rintro e w6 ⟨rfl, rfl⟩)
    go_ret
    exact ⟨rfl, below_step HB2.out HB5.out⟩
end Go.Proofs.Ytefnpalkkhhkfaa.PC
