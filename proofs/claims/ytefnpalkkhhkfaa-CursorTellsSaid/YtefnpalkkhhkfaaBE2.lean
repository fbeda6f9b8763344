/- A part of the proof of cursorTells_holds: its texts, one behind the other, as far as the proof stands on them. (Lines of its texts on the printed words and functions began as lines that a program of the kit had written for this statement.) -/
import Derived.ArgAppend
import Derived.Below
import Derived.BigQuiet
import Derived.BigRegion
import Derived.ChangeMaps4
import Derived.ChangeMaps5
import Derived.Deep.AppendLies
import Derived.Deep.CutBlock
import Derived.Deep.CutRange
import Derived.Deep.DeepCutAuto
import Derived.Deep.DrawnRows
import Derived.Deep.Draws
import Derived.Deep.LoopGhost
import Derived.Deep.OwnRows
import Derived.Deep.QuietTactic
import Derived.Deep.RegionHeld3
import Derived.Deep.RegionLaw
import Derived.Deep.RegionWith
import Derived.KernelRfl
import Derived.Laws.BitsLemmas
import Derived.Laws.BytesArg
import Derived.Laws.CopyRow
import Derived.Laws.Cover4
import Derived.Laws.Externs
import Derived.Laws.IdiomCopy
import Derived.Laws.MakeOwn
import Derived.Laws.NewBlocks
import Derived.Laws.OwnMore
import Derived.Laws.Rows
import Derived.Laws.Slices
import Derived.Laws.StructEq
import Derived.Lib.AppendStr
import Derived.Lib.AppendZeros
import Derived.Lib.AppendZerosOnto
import Derived.Lib.ConvBytes
import Derived.Lib.Hide
import Derived.Lib.JoinLaws
import Derived.Lib.Overlaps
import Derived.Lib.Walk
import Derived.MapKept
import Derived.Maps.AppendAt
import Derived.OrdersHeld
import Derived.OwnWalk
import Derived.RegionTactic
import Derived.RowKit
import Derived.RowKit3
import Derived.StillTail
import Derived.StillTailTactics
import Derived.Tactics
import Derived.Test.YtefnpalkkhhkfaaProg
import Derived.WalkKit
import Derived.WalkSpells
import Derived.WideLaws
import Derived.Test.YtefnpalkkhhkfaaBE1
namespace Go.Proofs.Ytefnpalkkhhkfaa.PC
open Go.RowKit Go.Proofs.YtefnpalkkhhkfaaW.PrintWords Go.Proofs.YtefnpalkkhhkfaaW.PrintLast Go.Proofs.YtefnpalkkhhkfaaW.PrintMore Go.Proofs.Ytefnpalkkhhkfaa.K Go.Proofs.Ytefnpalkkhhkfaa.IX Go.Proofs.Ytefnpalkkhhkfaa.I
attribute [local go_sem] max2_int min2_int max_two min_two max_three min_three max_four min_four
attribute [local go_sem high] eqA24
set_option linter.unusedVariables false
set_option linter.unusedSimpArgs false
/-- How many of a row, from its head, have greater IDs. -/
def skO (x : S24) : List S49 → Nat
  | [] => 0
  | y :: l => if lessI x y.f0 = true then skO x l + 1 else 0
theorem skO_le (x : S24) (l : List S49) : skO x l ≤ l.length := by
  induction l with
  | nil => exact Nat.le_refl _
  | cons y l ih =>
    simp only [skO]
    split
    · rw [List.length_cons]; omega
    · exact Nat.zero_le _
theorem insK_sk (x : S49) (l : List S49) : insK x l = l.take (skO x.f0 l) ++ [x] ++ l.drop (skO x.f0 l) := by
  induction l with
  | nil => rfl
  | cons y l ih =>
    simp only [insK, skO]
    split
    · rw [ih]; rfl
    · rfl
theorem skO_go (x : S24) (l : List S49) (i : Nat) (h : i < l.length) (hq : lessI x l[i].f0 = true) : i + skO x (l.drop i) = i + 1 + skO x (l.drop (i + 1)) := by
  rw [List.drop_eq_getElem_cons h]
  simp only [skO]
  rw [if_pos hq]
  omega
theorem skO_stop (x : S24) (l : List S49) (i : Nat) (h : i < l.length) (hq : lessI x l[i].f0 = false) : skO x (l.drop i) = 0 := by
  rw [List.drop_eq_getElem_cons h]
  simp only [skO]
  rw [if_neg (by rw [hq]; decide)]
theorem kids_len (q : S24) (M : List S49) : (kids q M).length ≤ M.length := by
  induction M using snoc_ind with
  | h0 => exact Nat.le_refl _
  | h1 M y ih =>
    rw [kids_snoc, List.length_append]
    split
    · have h := skO_le y.f0 (kids q M)
      rw [insK_sk, List.length_append, List.length_append, List.length_take, List.length_drop]
      simp only [List.length_singleton]
      omega
    · simp only [List.length_singleton]; omega
theorem less12_is (a b : S24) (w : World) : Calls Try.prog 76 #[.agg #[.int .i64 a.f0, .int .i64 a.f1], .agg #[.int .i64 b.f0, .int .i64 b.f1]] w fun e w' => e = .returned (.bool (lessI a b)) ∧ Below w.heap.size w w' :=
  foolscapref12_Less.calls a.f0 a.f1 b.f0 b.f1 _ w (by
    unfold foolscapref12_Less.f
    by_cases h1 : a.f0 < b.f0
    · rw [if_pos h1, (lessI_iff _ _).2 (.inl h1)]
    · rw [if_neg h1]
      by_cases h2 : a.f0 = b.f0
      · rw [if_pos h2]
        by_cases h3 : a.f1 < b.f1
        · rw [decide_eq_true h3, (lessI_iff _ _).2 (.inr ⟨h2, h3⟩)]
        · rw [decide_eq_false h3, (lessI_no _ _).2 (by unfold LTi; omega)]
      · rw [if_neg h2, (lessI_no _ _).2 (by unfold LTi; omega)])
set_option maxHeartbeats 8000000 in
set_option maxRecDepth 100000 in
theorem behind_calls (w : World) (q : Nat) (L : List S49) (A : Option Addr) (cap : Nat) (ref : S24) (h0 : w.cell? ⟨q, 0, none⟩ = some (.slice A L.length cap)) (hr : Kd.C k49 w A L.length L) (hc : L.length ≤ cap) (hl : L.length ≤ 1000) :
    Calls Try.prog 64 #[.pointer (some ⟨q, 0, none⟩), .agg #[.int .i64 ref.f0, .int .i64 ref.f1]] w fun e w' => ∃ A' n c', e = .returned (.slice A' n c') ∧ (kids ref L).length = n ∧ St w w' (sep (isRow k49 49 (.slice A' n c') (kids ref L)) emp) := by
  have HRD := Lib.hid hr
  obtain ⟨len, hlen⟩ : ∃ len, L.length = len := ⟨_, rfl⟩
  have HLEN := Lib.hid hlen
  rw [hlen] at hc hl h0
  have HQ := Lib.hid (fun W (hb : Below w.heap.size w W) => show W.cell? ⟨q, 0, none⟩ = some (.slice A len cap) from (hb.cell (World.block_lt_of_cell? w _ h0)).trans h0)
  obtain ⟨x0, x1⟩ := ref
  obtain ⟨rb, hrb⟩ : ∃ rb, w.heap.size = rb := ⟨_, rfl⟩
  have HS := Lib.hid (show St w (w.alloc (.cells #[.int .i64 x0, .int .i64 x1] 24 (0, 0))) (sep (isRow k49 49 (.slice none 0 0) []) (sep (isBlk rb (.cells #[.int .i64 x0, .int .i64 x1] 24 (0, 0))) emp)) from hrb ▸ (((St.nil k49 49 asn_emp (St.emp w)).mkblk (asn_sep (asn_row k49 49 (.slice none 0 0) []) asn_emp) (.cells #[.int .i64 x0, .int .i64 x1] 24 (0, 0))).turn))
  clear hr hlen
  go_enter Try.func64, Try.ntmps64
  go_wp2
  try rw [hrb]
  clear hrb h0
  go_loopg [5, 6] len (fun kq v5 v6 wr => ∃ (i n c : Nat) (A1 : Option Addr), v5 = .slice A1 n c ∧ v6 = .int .i64 (i : Int) ∧ Aside0 (kq + i = len ∧ (kids ⟨x0, x1⟩ (L.take i)).length = n ∧ (n = 0 → A1 = none ∧ c = 0) ∧ St w wr (sep (isRow k49 49 (.slice A1 n c) (kids ⟨x0, x1⟩ (L.take i))) (sep (isBlk rb (.cells #[.int .i64 x0, .int .i64 x1] 24 (0, 0))) emp))))
  case atStart => exact ⟨0, 0, 0, none, rfl, rfl, by omega, rfl, fun _ => ⟨rfl, rfl⟩, HS.out⟩
  case round =>
    obtain ⟨i, n, c, A1, rfl, rfl, HI⟩ := hrel
    have hki := HI.out.1
    have HSI := Lib.hid HI.out.2.2.2
    have HN0 := Lib.hid HI.out.2.2.1
    have HNN := Lib.hid HI.out.2.1
    have cq := HQ.out _ HSI.out.bel
    by_cases hlt : i < len
    · have hil : i < L.length := by rw [HLEN.out]; exact hlt
      obtain ⟨ad, rfl, c0, c1, c2, c3, c4, c5', c6⟩ := cell_op HRD.out HSI.out.bel i hil
      have hd1 : decide (i < len) = true := by simpa using hlt
      have hks := kids_snoc ⟨x0, x1⟩ (L.take i) L[i]
      rw [← take_snoc L i hil] at hks
      have hkl : (kids ⟨x0, x1⟩ (L.take i)).length ≤ 1000 := by
        have h1 := kids_len ⟨x0, x1⟩ (L.take i)
        have h2 := List.length_take_le i L
        omega
      generalize L[i] = o at c0 c1 c2 c3 c4 c5' c6 hks
      generalize kids ⟨x0, x1⟩ (L.take i) = out at HSI HNN hks hkl
      obtain ⟨⟨a0, a1⟩, o2, o3, ⟨y0, y1⟩, o6⟩ := o
      simp only at c0 c1 c2 c3 c4 c5' c6
      have HKS := Lib.hid hks
      have HKL := Lib.hid hkl
      have hd8 : n ≤ 1000 := by have := HNN.out; omega
      have HBO := Lib.hid (show St w (wr.alloc (opC ⟨⟨a0, a1⟩, o2, o3, ⟨y0, y1⟩, o6⟩)) (sep (isBlk wr.heap.size (opC ⟨⟨a0, a1⟩, o2, o3, ⟨y0, y1⟩, o6⟩)) (sep (isRow k49 49 (.slice A1 n c) out) (sep (isBlk rb (.cells #[.int .i64 x0, .int .i64 x1] 24 (0, 0))) emp))) from HSI.out.mkblk (asn_sep (asn_row _ _ _ _) (asn_sep (asn_blk _ _) asn_emp)) _)
      have HDR := Lib.hid (show St w (wr.alloc (opC ⟨⟨a0, a1⟩, o2, o3, ⟨y0, y1⟩, o6⟩)) (sep (isRow k49 49 (.slice A1 n c) out) (sep (isBlk rb (.cells #[.int .i64 x0, .int .i64 x1] 24 (0, 0))) emp)) from HBO.out.snd)
      have rc := HSI.out.snd.blk
      have r0 : wr.cell? ⟨rb, 0, none⟩ = some (.int .i64 x0) := (cell_of rc 0).trans rfl
      have r1 : wr.cell? ⟨rb, 1, none⟩ = some (.int .i64 x1) := (cell_of rc 1).trans rfl
      have ra := HBO.out.snd.snd.blk
      have ra0 : (wr.alloc (.cells #[.int .i64 a0, .int .i64 a1, .int .i64 o2, .bool o3, .int .i64 y0, .int .i64 y1, .int .i32 o6] 49)).cell? ⟨rb, 0, none⟩ = some (.int .i64 x0) := (cell_of ra 0).trans rfl
      have ra1 : (wr.alloc (.cells #[.int .i64 a0, .int .i64 a1, .int .i64 o2, .bool o3, .int .i64 y0, .int .i64 y1, .int .i32 o6] 49)).cell? ⟨rb, 1, none⟩ = some (.int .i64 x1) := (cell_of ra 1).trans rfl
      clear hks hkl rc HI ra
      cases o3 with
      | false =>
        have HE := Lib.hid (show kids ⟨x0, x1⟩ (L.take (i + 1)) = out from by rw [HKS.out]; rfl)
        go_wp2
        go_roundg (len - (i + 1))
        case measure => omega
        case rel => exact ⟨i + 1, n, c, A1, rfl, by go_num, by omega, by rw [HE.out]; exact HNN.out, HN0.out, by rw [HE.out]; exact HDR.out⟩
      | true =>
        by_cases hq : idq ⟨y0, y1⟩ ⟨x0, x1⟩ = true
        · have he := (idq_iff _ _).1 hq
          injection he with e0 e1
          subst e0 e1
          have HE := Lib.hid (show kids ⟨y0, y1⟩ (L.take (i + 1)) = insK ⟨⟨a0, a1⟩, o2, true, ⟨y0, y1⟩, o6⟩ out from by rw [HKS.out]; exact if_pos (by simpa using hq))
          clear hq
          obtain ⟨tb, htb⟩ : ∃ tb, wr.heap.size = tb := ⟨_, rfl⟩
          have HB := Lib.hid (show St w (wr.alloc (.cells #[.int .i64 a0, .int .i64 a1, .int .i64 o2, .bool true, .int .i64 y0, .int .i64 y1, .int .i32 o6] 49)) (sep (isBlk tb (opC ⟨⟨a0, a1⟩, o2, true, ⟨y0, y1⟩, o6⟩)) (sep (isRow k49 49 (.slice A1 n c) out) (sep (isBlk rb (.cells #[.int .i64 y0, .int .i64 y1] 24 (0, 0))) emp))) from htb ▸ HBO.out)
          obtain ⟨W2, hW2⟩ : ∃ W2, wr.alloc (.cells #[.int .i64 a0, .int .i64 a1, .int .i64 o2, .bool true, .int .i64 y0, .int .i64 y1, .int .i32 o6] 49) = W2 := ⟨_, rfl⟩
          rw [hW2] at HB
          obtain ⟨m, hm⟩ : ∃ m, skO ⟨a0, a1⟩ out = m := ⟨_, rfl⟩
          have hmo : m ≤ out.length := by rw [← hm]; exact skO_le _ _
          have HMM := Lib.hid hm
          have hmn : m ≤ n := by have := HNN.out; omega
          have AB := Lib.hid (show Asn (sep (isBlk tb (opC ⟨⟨a0, a1⟩, o2, true, ⟨y0, y1⟩, o6⟩)) (sep (isRow k49 49 (.slice A1 n c) out) (sep (isBlk rb (.cells #[.int .i64 y0, .int .i64 y1] 24 (0, 0))) emp))) from asn_sep (asn_blk _ _) (asn_sep (asn_row _ _ _ _) (asn_sep (asn_blk _ _) asn_emp)))
          have HW2 := Lib.hid hW2
          have HTB := Lib.hid htb
          clear hW2 htb hm
          go_upto_block 2 with (fail)
          rw [HW2.out]
          try rw [HTB.out]
          clear HW2 HTB c0 c1 c2 c3 c4 c5' c6 r0 r1 ra0 ra1 cq
          go_cut [8] from 35 to 50 (fun v8 wx => v8 = .int .i64 (m : Int) ∧ Aside0 (St w wx (sep (isBlk tb (opC ⟨⟨a0, a1⟩, o2, true, ⟨y0, y1⟩, o6⟩)) (sep (isRow k49 49 (.slice A1 n c) out) (sep (isBlk rb (.cells #[.int .i64 y0, .int .i64 y1] 24 (0, 0))) emp)))))
          case first =>
            go_wp2
            go_loopg [8] n (fun kq v8 wr2 => ∃ (k : Nat), v8 = .int .i64 (k : Int) ∧ Aside0 (kq + k = n ∧ k + skO ⟨a0, a1⟩ (out.drop k) = m ∧ St w wr2 (sep (isBlk tb (opC ⟨⟨a0, a1⟩, o2, true, ⟨y0, y1⟩, o6⟩)) (sep (isRow k49 49 (.slice A1 n c) out) (sep (isBlk rb (.cells #[.int .i64 y0, .int .i64 y1] 24 (0, 0))) emp)))))
            case atStart => exact ⟨0, rfl, by omega, by rw [List.drop_zero, HMM.out, Nat.zero_add], HB.out⟩
            case round =>
              obtain ⟨k, rfl, HK⟩ := hrel
              have hkk := HK.out.1
              have HKM := Lib.hid HK.out.2.1
              have HKS := Lib.hid HK.out.2.2
              clear HK
              by_cases hkt : k < n
              · have hko : k < out.length := by rw [HNN.out]; exact hkt
                have hd2 : decide (k < n) = true := by simpa using hkt
                obtain ⟨ad3, rfl, -⟩ := HKS.out.snd.op_row k hko
                have HCE := Lib.hid (fun W (h : St w W (sep (isBlk tb (opC ⟨⟨a0, a1⟩, o2, true, ⟨y0, y1⟩, o6⟩)) (sep (isRow k49 49 (.slice (some ad3) n c) out) (sep (isBlk rb (.cells #[.int .i64 y0, .int .i64 y1] 24 (0, 0))) emp)))) => show W.cell? ⟨tb, 0, none⟩ = some (.int .i64 a0) ∧ W.cell? ⟨tb, 1, none⟩ = some (.int .i64 a1) ∧ W.cell? (ad3.add (k * 7)) = some (.int .i64 out[k].f0.f0) ∧ W.cell? ⟨(ad3.add (k * 7)).block, (ad3.add (k * 7)).off + 1, none⟩ = some (.int .i64 out[k].f0.f1) from by
                  obtain ⟨c0, c1, _⟩ := h.op_cells
                  obtain ⟨ad2, e2, d0, d1, _⟩ := h.snd.op_row k hko
                  injection e2 with e2
                  subst e2
                  exact ⟨c0, c1, d0, d1⟩)
                have HSd := Lib.hid (HKS.out.drew AB.out)
                have hj0 : (0 : Int) ≤ (k : Int) := by omega
                have hj1 : (k : Int) < (n : Int) := by omega
                have KL := Lib.hid (fun W => less12_is ⟨a0, a1⟩ out[k].f0 W)
                have HGO := Lib.hid (fun h => skO_go ⟨a0, a1⟩ out k hko h)
                have HST := Lib.hid (fun h => skO_stop ⟨a0, a1⟩ out k hko h)
                generalize out[k] = z at HCE KL HGO HST
                obtain ⟨⟨z0, z1⟩, z2, z3, z4, z5⟩ := z
                simp only at HCE KL HGO HST
                obtain ⟨ls, hls⟩ : ∃ ls, lessI ⟨a0, a1⟩ ⟨z0, z1⟩ = ls := ⟨_, rfl⟩
                rw [hls] at KL HGO HST
                clear hls
                go_wp2
                go_region_held3 (fun W => W.cell? ⟨tb, 0, none⟩ = some (.int .i64 a0) ∧ W.cell? ⟨tb, 1, none⟩ = some (.int .i64 a1) ∧ W.cell? (ad3.add (k * 7)) = some (.int .i64 z0) ∧ W.cell? ⟨(ad3.add (k * 7)).block, (ad3.add (k * 7)).off + 1, none⟩ = some (.int .i64 z1)) ((first | exact HCE.out _ HSd.out | exact HCE.out _ HS4.out)) (first
                  | (go_at_call 76; refine (KL.out _).mono ?_; rintro e w4 ⟨rfl, hb⟩; have HS4 := Lib.hid (HSd.out.below AB.out hb); clear hb))
                cases ls with
                | true =>
                  go_wp2
                  go_roundg (n - (k + 1))
                  case measure => omega
                  case rel => exact ⟨k + 1, by go_num, by omega, (HGO.out (by first | rfl | trivial)).symm.trans HKM.out, HS4.out⟩
                | false =>
                  have hkm : k = m := by have := HST.out (by first | rfl | trivial); have := HKM.out; omega
                  subst hkm
                  go_wp2
                  go_meet
                  exact ⟨rfl, ⟨HS4.out⟩⟩
              · obtain rfl : k = n := by omega
                have hkm : k = m := by
                  have h1 := HKM.out
                  rw [List.drop_of_length_le (by rw [HNN.out]; exact Nat.le_refl _)] at h1
                  exact h1
                have hd2 : decide (k < k) = false := by simp
                have HKM2 := Lib.hid hkm
                clear hkm
                go_wp2
                go_meet
                exact ⟨by rw [HKM2.out], ⟨HKS.out⟩⟩
          case rest =>
            obtain ⟨W9, rfl⟩ : ∃ W9 : World, W9 = wc := ⟨_, rfl⟩
            obtain ⟨rfl, hcut2⟩ := hcut
            have HC := Lib.hid hcut2.out
            clear hcut2
            have AO := Lib.hid (show Asn (sep (isRow k49 49 (.slice A1 n c) out) (sep (isBlk tb (opC ⟨⟨a0, a1⟩, o2, true, ⟨y0, y1⟩, o6⟩)) (sep (isBlk rb (.cells #[.int .i64 y0, .int .i64 y1] 24 (0, 0))) emp))) from asn_sep (asn_row _ _ _ _) (asn_sep (asn_blk _ _) (asn_sep (asn_blk _ _) asn_emp)))
            have HO := Lib.hid (show St w W9.drew (sep (isRow k49 49 (.slice A1 n c) out) (sep (isBlk tb (opC ⟨⟨a0, a1⟩, o2, true, ⟨y0, y1⟩, o6⟩)) (sep (isBlk rb (.cells #[.int .i64 y0, .int .i64 y1] 24 (0, 0))) emp))) from HC.out.turn.drew AO.out)
            have HSC := Lib.hid (fun W (h : St w W (sep (isRow k49 49 (.slice A1 n c) out) (sep (isBlk tb (opC ⟨⟨a0, a1⟩, o2, true, ⟨y0, y1⟩, o6⟩)) (sep (isBlk rb (.cells #[.int .i64 y0, .int .i64 y1] 24 (0, 0))) emp)))) => show W.cell? ⟨tb, 0, none⟩ = some (.int .i64 a0) ∧ W.cell? ⟨tb, 1, none⟩ = some (.int .i64 a1) ∧ W.cell? ⟨tb, 2, none⟩ = some (.int .i64 o2) ∧ W.cell? ⟨tb, 3, none⟩ = some (.bool true) ∧ W.cell? ⟨tb, 4, none⟩ = some (.int .i64 y0) ∧ W.cell? ⟨tb, 5, none⟩ = some (.int .i64 y1) ∧ W.cell? ⟨tb, 6, none⟩ = some (.int .i32 o6) from h.snd.op_cells)
            obtain ⟨A2, hA2⟩ : ∃ A2, (if c = m then A1 else A1.map (·.add (m * 7))) = A2 := ⟨_, rfl⟩
            have hA1 : (if c = 0 then A1 else A1.map (·.add 0)) = A1 := by
              split
              · rfl
              · cases A1 with
                | none => rfl
                | some x => simp [Addr.add]
            have hmc : m ≤ c := by have := HC.out.snd.later (Below.refl _ _); omega
            have hnc : n ≤ c := by have := HC.out.snd.later (Below.refl _ _); omega
            have HTL := Lib.hid (show (out.take m).length = m by rw [List.length_take]; omega)
            have hsz : ∀ a b : Nat, a ≤ 2000 → b ≤ 2000 → (a + b) * 56 ≤ 140737488355328 := fun a b _ _ => by omega
            have hj0 : (0 : Int) ≤ (m : Int) := by omega
            have hj1 : (m : Int) ≤ (n : Int) := by omega
            have hj2 : (m : Int) ≤ (c : Int) := by omega
            go_wp2
            -- region 12
            refine startZ (z := 11) (S := (fun W => W.cell? ⟨tb, 0, none⟩ = some (.int .i64 a0) ∧ W.cell? ⟨tb, 1, none⟩ = some (.int .i64 a1) ∧ W.cell? ⟨tb, 2, none⟩ = some (.int .i64 o2) ∧ W.cell? ⟨tb, 3, none⟩ = some (.bool true) ∧ W.cell? ⟨tb, 4, none⟩ = some (.int .i64 y0) ∧ W.cell? ⟨tb, 5, none⟩ = some (.int .i64 y1) ∧ W.cell? ⟨tb, 6, none⟩ = some (.int .i32 o6))) (by kernel_rfl) ?_
            show ZG _ _ _ _ _ _ 13 _ _ _
            refine takeW (i := 1) (v := ?_) rfl (by kernel_rfl) (by kernel_rfl) (by kernel_rfl) (by decide) (fun _ _ _ h => h) rfl (by exact HSC.out _ HO.out) ?_ ?_
            rotate_left
            · intro wq; go_simp; try (with_reducible rfl)
            try simp only [Act.put, List.setIfInBounds_toArray, List.set_cons_zero, List.set_cons_succ]
            refine takeW (i := 2) (v := ?_) rfl (by kernel_rfl) (by kernel_rfl) (by kernel_rfl) (by decide) (fun _ _ _ h => h) rfl (by exact HSC.out _ HO.out) ?_ ?_
            rotate_left
            · intro wq; go_simp; try (with_reducible rfl)
            try simp only [Act.put, List.setIfInBounds_toArray, List.set_cons_zero, List.set_cons_succ]
            refine takeW (i := 3) (v := ?_) rfl (by kernel_rfl) (by kernel_rfl) (by kernel_rfl) (by decide) (fun _ _ _ h => h) rfl (by exact HSC.out _ HO.out) ?_ ?_
            rotate_left
            · intro wq; go_simp; try (with_reducible rfl)
            try simp only [Act.put, List.setIfInBounds_toArray, List.set_cons_zero, List.set_cons_succ]
            refine takeZ (i := 5) (f0 := 6) (v := ?_) rfl (by kernel_rfl) (by kernel_rfl) (by kernel_rfl) (by decide) (by kernel_rfl) (fun _ _ _ h => h) rfl (by exact HSC.out _ HO.out) ?_ ?_
            rotate_left
            · intro wq hSw; (try dsimp only at hSw); go_split_ands; go_simp; try (with_reducible rfl)
            try simp only [Act.put, List.setIfInBounds_toArray, List.set_cons_zero, List.set_cons_succ]
            refine takeW (i := 8) (v := ?_) rfl (by kernel_rfl) (by kernel_rfl) (by kernel_rfl) (by decide) (fun _ _ _ h => h) rfl (by exact HSC.out _ HO.out) ?_ ?_
            rotate_left
            · intro wq; go_simp; try (with_reducible rfl)
            try simp only [Act.put, List.setIfInBounds_toArray, List.set_cons_zero, List.set_cons_succ]
            refine takeW (i := 9) (v := ?_) rfl (by kernel_rfl) (by kernel_rfl) (by kernel_rfl) (by decide) (fun _ _ _ h => h) rfl (by exact HSC.out _ HO.out) ?_ ?_
            rotate_left
            · intro wq; go_simp; try (with_reducible rfl)
            try simp only [Act.put, List.setIfInBounds_toArray, List.set_cons_zero, List.set_cons_succ]
            refine takeW (i := 10) (v := ?_) rfl (by kernel_rfl) (by kernel_rfl) (by kernel_rfl) (by decide) (fun _ _ _ h => h) rfl (by exact HSC.out _ HO.out) ?_ ?_
            rotate_left
            · intro wq; go_simp; try (with_reducible rfl)
            try simp only [Act.put, List.setIfInBounds_toArray, List.set_cons_zero, List.set_cons_succ]
            refine twoZ (i := 0) (j := 6) rfl rfl (by kernel_rfl) rfl rfl (fun K hK => ?_) (fun K hK => ?_)
            · have hSA := lits_st flat_Op 49 AO.out HO.out [] (by decide)
              go_simp
              refine hK _ _ (by exact HSC.out _ hSA.snd) ?_
              clear hK K
              try simp only [Act.put, List.setIfInBounds_toArray, List.set_cons_zero, List.set_cons_succ]
              obtain ⟨q1, q2, q3, q4, q5, q6⟩ := hSA.snd.takes m hmo hA2
              refine twoZ (i := 4) (j := 6) rfl rfl (by kernel_rfl) rfl rfl (fun K hK => ?_) (fun K hK => ?_)
              · skip
                obtain ⟨B1, n1, d1, W1, e1, hn1, hS1⟩ := app_st flat_Op (t := 22) (e := 49) (bytes := 56) Try.underlying22 info49 rfl (by decide) AO.out hSA q1 (by rw [q2]; exact q3) (hsz _ _ (by simp) (by rw [q2]; omega)) 22
                rw [List.nil_append, HTL.out] at hn1
                have hn1b := hn1.symm
                subst hn1b
                rw [q2] at e1
                refine Lib.wp_append_run _ _ _ _ _ (by rfl) _ _ (by rfl) (by rfl) _ _ e1 ?_
                refine hK _ _ (by exact HSC.out _ hS1.snd) ?_
                clear hK K
                try simp only [Act.put, List.setIfInBounds_toArray, List.set_cons_zero, List.set_cons_succ]
                have hSX := (lit_st flat_Op 49 (asn_sep (asn_row _ _ _ _) AO.out) hS1 ⟨⟨a0, a1⟩, o2, true, ⟨y0, y1⟩, o6⟩)
                refine oneZ (i := 6) rfl (by kernel_rfl) rfl (fun K hK => ?_)
                go_simp
                refine hK _ _ (by exact HSC.out _ hSX.snd.snd) ?_
                clear hK K
                try simp only [Act.put, List.setIfInBounds_toArray, List.set_cons_zero, List.set_cons_succ]
                have hSY := hSX.turn
                obtain ⟨X2, x2, ex, hxc, hxr⟩ := hSY.snd.reads
                injection ex with ex1 ex2 ex3
                subst ex1 ex3
                obtain ⟨B7, n7, d7, W7, e7, hn7, hS7⟩ := app_st flat_Op (t := 22) (e := 49) (bytes := 56) Try.underlying22 info49 rfl (by decide) (asn_sep (asn_row _ _ _ _) AO.out) hSY hxr hxc (hsz _ _ (by rw [List.nil_append, HTL.out]; omega) (by simp only [List.length_singleton]; omega)) 22
                rw [List.nil_append, List.length_append, HTL.out] at hn7
                have hn7 : n7 = m + 1 := hn7
                subst hn7
                refine oneZ (i := 7) rfl (by kernel_rfl) rfl (fun K hK => ?_)
                refine Lib.wp_append_run _ _ _ _ _ (by rfl) _ _ (by rfl) (by rfl) _ _ e7 ?_
                refine hK _ _ (by exact HSC.out _ hS7.snd.snd) ?_
                clear hK K
                try simp only [Act.put, List.setIfInBounds_toArray, List.set_cons_zero, List.set_cons_succ]
                obtain ⟨t1, t2, t3, t4, t5, t6⟩ := hS7.snd.snd.takes m hmo hA2
                obtain ⟨B8, n8, d8, W8, e8, hn8, hS8⟩ := app_st flat_Op (t := 22) (e := 49) (bytes := 56) Try.underlying22 info49 rfl (by decide) (asn_sep (asn_row _ _ _ _) AO.out) hS7 t4 (by rw [t5]; exact t6) (hsz _ _ (by rw [List.nil_append, List.length_append, HTL.out]; simp only [List.length_singleton]; omega) (by rw [t5]; omega)) 22
                rw [t5] at e8
                have HE8 := Lib.hid e8
                have HS8 := Lib.hid (show St w W8 (sep (isRow k49 49 (.slice B8 n8 d8) (out.take m ++ [⟨⟨a0, a1⟩, o2, true, ⟨y0, y1⟩, o6⟩] ++ out.drop m)) (sep (isBlk rb (.cells #[.int .i64 y0, .int .i64 y1] 24 (0, 0))) emp)) from hS8.turn.snd.turn.snd.turn.snd)
                have HN8 := Lib.hid (show n8 = (out.take m ++ ([⟨⟨a0, a1⟩, o2, true, ⟨y0, y1⟩, o6⟩] : List S49) ++ out.drop m).length from hn8)
                have hn9 : n8 = 0 → B8 = none ∧ d8 = 0 := fun h => by
                  have := HN8.out
                  rw [h, List.length_append, List.length_append, List.length_singleton] at this
                  omega
                have HN9 := Lib.hid hn9
                clear e8 hS8 hn8 hn9 t1 t2 t3 t4 t5 t6 hS7 e7 hxc hxr ex2 e1 hS1
                try clear q1 q2 q3 q4 q5 q6
                refine seqZ (l := _ :: _) rfl rfl (by kernel_rfl) (by decide) ?_
                go_wp2_with (at_builtin; refine Lib.wpList_append_run _ rfl _ _ _ _ rfl _ _ rfl rfl _ _ HE8.out ?_)
                go_roundg (len - (i + 1))
                case measure => omega
                case rel => exact ⟨i + 1, n8, d8, B8, rfl, by go_num, by omega, by rw [HE.out, insK_sk, HMM.out]; exact HN8.out.symm, HN9.out, by rw [HE.out, insK_sk, HMM.out]; exact HS8.out⟩
              · have hSX := (lit_st flat_Op 49 (asn_sep (asn_row _ _ _ _) AO.out) hSA ⟨⟨a0, a1⟩, o2, true, ⟨y0, y1⟩, o6⟩).turn
                go_simp
                refine hK _ _ (by exact HSC.out _ hSX.snd.snd) ?_
                clear hK K
                try simp only [Act.put, List.setIfInBounds_toArray, List.set_cons_zero, List.set_cons_succ]
                have u := hSX.snd.snd.takes m hmo hA2
                rw [alloc_sz] at hSX
                obtain ⟨B1, n1, d1, W1, e1, hn1, hS1⟩ := app_st flat_Op (t := 22) (e := 49) (bytes := 56) Try.underlying22 info49 rfl (by decide) (asn_sep (asn_row _ _ _ _) AO.out) hSX u.1 (by rw [q2]; exact q3) (hsz _ _ (by simp) (by rw [q2]; omega)) 22
                rw [List.nil_append, HTL.out] at hn1
                have hn1b := hn1.symm
                subst hn1b
                rw [q2] at e1
                refine oneZ (i := 4) rfl (by kernel_rfl) rfl (fun K hK => ?_)
                refine Lib.wp_append_run _ _ _ _ _ (by rfl) _ _ (by rfl) (by rfl) _ _ e1 ?_
                refine hK _ _ (by exact HSC.out _ hS1.snd.snd) ?_
                clear hK K
                try simp only [Act.put, List.setIfInBounds_toArray, List.set_cons_zero, List.set_cons_succ]
                obtain ⟨X2, x2, ex, hxc, hxr⟩ := hS1.snd.reads
                injection ex with ex1 ex2 ex3
                subst ex1 ex3
                obtain ⟨B7, n7, d7, W7, e7, hn7, hS7⟩ := app_st flat_Op (t := 22) (e := 49) (bytes := 56) Try.underlying22 info49 rfl (by decide) (asn_sep (asn_row _ _ _ _) AO.out) hS1 hxr hxc (hsz _ _ (by rw [List.nil_append, HTL.out]; omega) (by simp only [List.length_singleton]; omega)) 22
                rw [List.nil_append, List.length_append, HTL.out] at hn7
                have hn7 : n7 = m + 1 := hn7
                subst hn7
                refine oneZ (i := 7) rfl (by kernel_rfl) rfl (fun K hK => ?_)
                refine Lib.wp_append_run _ _ _ _ _ (by rfl) _ _ (by rfl) (by rfl) _ _ e7 ?_
                refine hK _ _ (by exact HSC.out _ hS7.snd.snd) ?_
                clear hK K
                try simp only [Act.put, List.setIfInBounds_toArray, List.set_cons_zero, List.set_cons_succ]
                obtain ⟨t1, t2, t3, t4, t5, t6⟩ := hS7.snd.snd.takes m hmo hA2
                obtain ⟨B8, n8, d8, W8, e8, hn8, hS8⟩ := app_st flat_Op (t := 22) (e := 49) (bytes := 56) Try.underlying22 info49 rfl (by decide) (asn_sep (asn_row _ _ _ _) AO.out) hS7 t4 (by rw [t5]; exact t6) (hsz _ _ (by rw [List.nil_append, List.length_append, HTL.out]; simp only [List.length_singleton]; omega) (by rw [t5]; omega)) 22
                rw [t5] at e8
                have HE8 := Lib.hid e8
                have HS8 := Lib.hid (show St w W8 (sep (isRow k49 49 (.slice B8 n8 d8) (out.take m ++ [⟨⟨a0, a1⟩, o2, true, ⟨y0, y1⟩, o6⟩] ++ out.drop m)) (sep (isBlk rb (.cells #[.int .i64 y0, .int .i64 y1] 24 (0, 0))) emp)) from hS8.turn.snd.turn.snd.turn.snd)
                have HN8 := Lib.hid (show n8 = (out.take m ++ ([⟨⟨a0, a1⟩, o2, true, ⟨y0, y1⟩, o6⟩] : List S49) ++ out.drop m).length from hn8)
                have hn9 : n8 = 0 → B8 = none ∧ d8 = 0 := fun h => by
                  have := HN8.out
                  rw [h, List.length_append, List.length_append, List.length_singleton] at this
                  omega
                have HN9 := Lib.hid hn9
                clear e8 hS8 hn8 hn9 t1 t2 t3 t4 t5 t6 hS7 e7 hxc hxr ex2 e1 hS1
                try clear q1 q2 q3 q4 q5 q6
                refine seqZ (l := _ :: _) rfl rfl (by kernel_rfl) (by decide) ?_
                go_wp2_with (at_builtin; refine Lib.wpList_append_run _ rfl _ _ _ _ rfl _ _ rfl rfl _ _ HE8.out ?_)
                go_roundg (len - (i + 1))
                case measure => omega
                case rel => exact ⟨i + 1, n8, d8, B8, rfl, by go_num, by omega, by rw [HE.out, insK_sk, HMM.out]; exact HN8.out.symm, HN9.out, by rw [HE.out, insK_sk, HMM.out]; exact HS8.out⟩
            · have hSX := lit_st flat_Op 49 AO.out HO.out ⟨⟨a0, a1⟩, o2, true, ⟨y0, y1⟩, o6⟩
              go_simp
              refine hK _ _ (by exact HSC.out _ hSX.snd) ?_
              clear hK K
              try simp only [Act.put, List.setIfInBounds_toArray, List.set_cons_zero, List.set_cons_succ]
              have hSA := lits_st flat_Op 49 (asn_sep (asn_row _ _ _ _) AO.out) hSX [] (by decide)
              refine oneZ (i := 0) rfl (by kernel_rfl) rfl (fun K hK => ?_)
              go_simp
              refine hK _ _ (by exact HSC.out _ hSA.snd.snd) ?_
              clear hK K
              try simp only [Act.put, List.setIfInBounds_toArray, List.set_cons_zero, List.set_cons_succ]
              obtain ⟨q1, q2, q3, q4, q5, q6⟩ := hSA.snd.snd.takes m hmo hA2
              rw [alloc_sz] at hSA
              obtain ⟨B1, n1, d1, W1, e1, hn1, hS1⟩ := app_st flat_Op (t := 22) (e := 49) (bytes := 56) Try.underlying22 info49 rfl (by decide) (asn_sep (asn_row _ _ _ _) AO.out) hSA q1 (by rw [q2]; exact q3) (hsz _ _ (by simp) (by rw [q2]; omega)) 22
              rw [List.nil_append, HTL.out] at hn1
              have hn1b := hn1.symm
              subst hn1b
              rw [q2] at e1
              refine oneZ (i := 4) rfl (by kernel_rfl) rfl (fun K hK => ?_)
              refine Lib.wp_append_run _ _ _ _ _ (by rfl) _ _ (by rfl) (by rfl) _ _ e1 ?_
              refine hK _ _ (by exact HSC.out _ hS1.snd.snd) ?_
              clear hK K
              try simp only [Act.put, List.setIfInBounds_toArray, List.set_cons_zero, List.set_cons_succ]
              obtain ⟨X2, x2, ex, hxc, hxr⟩ := hS1.snd.reads
              injection ex with ex1 ex2 ex3
              subst ex1 ex3
              obtain ⟨B7, n7, d7, W7, e7, hn7, hS7⟩ := app_st flat_Op (t := 22) (e := 49) (bytes := 56) Try.underlying22 info49 rfl (by decide) (asn_sep (asn_row _ _ _ _) AO.out) hS1 hxr hxc (hsz _ _ (by rw [List.nil_append, HTL.out]; omega) (by simp only [List.length_singleton]; omega)) 22
              rw [List.nil_append, List.length_append, HTL.out] at hn7
              have hn7 : n7 = m + 1 := hn7
              subst hn7
              refine oneZ (i := 7) rfl (by kernel_rfl) rfl (fun K hK => ?_)
              refine Lib.wp_append_run _ _ _ _ _ (by rfl) _ _ (by rfl) (by rfl) _ _ e7 ?_
              refine hK _ _ (by exact HSC.out _ hS7.snd.snd) ?_
              clear hK K
              try simp only [Act.put, List.setIfInBounds_toArray, List.set_cons_zero, List.set_cons_succ]
              obtain ⟨t1, t2, t3, t4, t5, t6⟩ := hS7.snd.snd.takes m hmo hA2
              obtain ⟨B8, n8, d8, W8, e8, hn8, hS8⟩ := app_st flat_Op (t := 22) (e := 49) (bytes := 56) Try.underlying22 info49 rfl (by decide) (asn_sep (asn_row _ _ _ _) AO.out) hS7 t4 (by rw [t5]; exact t6) (hsz _ _ (by rw [List.nil_append, List.length_append, HTL.out]; simp only [List.length_singleton]; omega) (by rw [t5]; omega)) 22
              rw [t5] at e8
              have HE8 := Lib.hid e8
              have HS8 := Lib.hid (show St w W8 (sep (isRow k49 49 (.slice B8 n8 d8) (out.take m ++ [⟨⟨a0, a1⟩, o2, true, ⟨y0, y1⟩, o6⟩] ++ out.drop m)) (sep (isBlk rb (.cells #[.int .i64 y0, .int .i64 y1] 24 (0, 0))) emp)) from hS8.turn.snd.turn.snd.turn.snd)
              have HN8 := Lib.hid (show n8 = (out.take m ++ ([⟨⟨a0, a1⟩, o2, true, ⟨y0, y1⟩, o6⟩] : List S49) ++ out.drop m).length from hn8)
              have hn9 : n8 = 0 → B8 = none ∧ d8 = 0 := fun h => by
                have := HN8.out
                rw [h, List.length_append, List.length_append, List.length_singleton] at this
                omega
              have HN9 := Lib.hid hn9
              clear e8 hS8 hn8 hn9 t1 t2 t3 t4 t5 t6 hS7 e7 hxc hxr ex2 e1 hS1
              try clear q1 q2 q3 q4 q5 q6
              refine seqZ (l := _ :: _) rfl rfl (by kernel_rfl) (by decide) ?_
              go_wp2_with (at_builtin; refine Lib.wpList_append_run _ rfl _ _ _ _ rfl _ _ rfl rfl _ _ HE8.out ?_)
              go_roundg (len - (i + 1))
              case measure => omega
              case rel => exact ⟨i + 1, n8, d8, B8, rfl, by go_num, by omega, by rw [HE.out, insK_sk, HMM.out]; exact HN8.out.symm, HN9.out, by rw [HE.out, insK_sk, HMM.out]; exact HS8.out⟩
            -- behind it
        · have hq3 : (y0 == x0 && y1 == x1) = false := by simpa [idq] using hq
          have HE := Lib.hid (show kids ⟨x0, x1⟩ (L.take (i + 1)) = out from by rw [HKS.out]; exact if_neg (by simpa using hq))
          clear hq
          go_wp2
          go_roundg (len - (i + 1))
          case measure => omega
          case rel => exact ⟨i + 1, n, c, A1, rfl, by go_num, by omega, by rw [HE.out]; exact HNN.out, HN0.out, by rw [HE.out]; exact HDR.out⟩
    · obtain rfl : i = len := by omega
      have hd1 : decide (i < i) = false := by simp
      have hti : L.take i = L := List.take_of_length_le (by rw [HLEN.out]; exact Nat.le_refl _)
      rw [hti] at HSI HNN
      have HSF := Lib.hid HSI.out.swap.snd.with_emp
      clear HI hti
      go_wp2
      go_ret
      exact ⟨_, _, _, rfl, HNN.out, HSF.out⟩
end Go.Proofs.Ytefnpalkkhhkfaa.PC
namespace Go.Proofs.Ytefnpalkkhhkfaa.PC
open Go.RowKit Go.Proofs.YtefnpalkkhhkfaaW.PrintWords Go.Proofs.YtefnpalkkhhkfaaW.PrintLast Go.Proofs.YtefnpalkkhhkfaaW.PrintMore Go.Proofs.Ytefnpalkkhhkfaa.K Go.Proofs.Ytefnpalkkhhkfaa.IX Go.Proofs.Ytefnpalkkhhkfaa.I
attribute [local go_sem] max2_int min2_int max_two min_two max_three min_three max_four min_four
attribute [local go_sem high] eqA24
set_option linter.unusedVariables false
set_option linter.unusedSimpArgs false
theorem info64 : (Try.prog.info? 64).map (fun i => (i.zero, i.size, i.bytes)) = some (some (.agg #[(.int .i64 0), (.int .i64 0), (.int .i32 0), (.bool false)]), 4, 24) := by kernel_rfl
theorem flat_X : Flat k83 (fun x => [Value.int .i64 x.f0.f0, .int .i64 x.f0.f1, .int .i32 x.f1, .bool x.f2]) := ⟨fun _ => rfl, fun h => k83_open h, fun h => k83_openM h, fun _ _ _ _ => k83_mkM _ _ _ _, fun x u hu => by simp at hu; rcases hu with rfl | rfl | rfl | rfl <;> rfl, (by decide), rfl⟩
theorem tops_len (F : Fo) : F.tops.length ≤ F.flat.length := by
  induction F with
  | nil => exact Nat.le_refl _
  | cons e s n _ ih =>
    simp only [Fo.tops, Fo.flat, List.length_cons, List.length_append]
    omega
theorem alive_has {L : List S49} {e : S49} (h : e ∈ L) (h2 : e.f2 = true) : aliveR L e.f0 = !deadR L e.f0 := by
  have : hasR L e.f0 = true := by
    unfold hasR
    rw [List.any_eq_true]
    exact ⟨e, h, by rw [h2, idq_self]; rfl⟩
  unfold aliveR
  rw [this, Bool.and_true]
theorem St.rebase {w0 W w : World} {A : As} (h : St W w A) (hb : Below w0.heap.size w0 W) : St w0 w A := by
  obtain ⟨F, h1, h2, h3⟩ := h
  exact ⟨F, h1, below_step hb h2, fun k hk => Nat.le_trans hb.size (h3 k hk)⟩
theorem walk_app {w0 w4 w5 : World} {C : As} {A9 : Option Addr} {n9 c9 : Nat} {v : Value} {xs ys : List S83} (hc : Asn C) (h : St w0 w4 (sep (isRow k83 64 v xs) C)) (h9 : St w4 w5 (sep (isRow k83 64 (.slice A9 n9 c9) ys) emp)) (h1 : xs.length ≤ 2000) (h2 : ys.length ≤ 2000) :
    ∃ B' n' d' w', (Builtin.append_ #[61, 61] 61 #[v, .slice A9 n9 c9]).run Try.prog w5 = .ok (.slice B' n' d') w' ∧ n' = (xs ++ ys).length ∧ St w0 w' (sep (isRow k83 64 (.slice B' n' d') (xs ++ ys)) C) := by
  obtain ⟨e, hcap, hr⟩ := h9.later (Below.refl _ _)
  obtain ⟨B', n', d', w', k1, k2, k3⟩ := app_st flat_X (t := 61) (e := 64) (bytes := 24) Try.underlying61 info64 rfl (by decide) hc (h.below (asn_sep (asn_row _ _ _ _) hc) h9.bel) hr (by rw [e]; exact hcap) (by omega) 61
  rw [e] at k1
  exact ⟨B', n', d', w', k1, k2, k3⟩
set_option maxHeartbeats 8000000 in
set_option maxRecDepth 100000 in
theorem walk_calls (q : Nat) (L : List S49) (A : Option Addr) (cap : Nat) : ∀ (m : Nat) (F : Fo), F.flat.length < m → F.flat.length ≤ 1000 → rep L F → ∀ (w : World) (ref : S24), RefW w q L A cap → F.tops = kids ref L →
    Calls Try.prog 49 #[.pointer (some ⟨q, 0, none⟩), .agg #[.int .i64 ref.f0, .int .i64 ref.f1]] w fun e w' => ∃ A' n c', e = .returned (.slice A' n c') ∧ (F.flat.map (toX L)).length = n ∧ St w w' (sep (isRow k83 64 (.slice A' n c') (F.flat.map (toX L))) emp) := by
  intro m
  induction m with
  | zero => intro F h; omega
  | succ m ih =>
  intro F hF hF2 hrep w ref hw htops
  have HIH := Lib.hid ih
  have HW := Lib.hid hw
  have HRF := Lib.hid hrep
  have HFM := Lib.hid hF
  obtain ⟨x0, x1⟩ := ref
  have HS := Lib.hid (show St w (w.alloc (.cells #[.int .i64 x0, .int .i64 x1] 24 (0, 0))) (sep (isBlk w.heap.size (.cells #[.int .i64 x0, .int .i64 x1] 24 (0, 0))) emp) from (St.emp w).mkblk asn_emp (.cells #[.int .i64 x0, .int .i64 x1] 24 (0, 0)))
  have KB := Lib.hid (show ∀ W, Below w.heap.size w W → Calls Try.prog 64 #[.pointer (some ⟨q, 0, none⟩), .agg #[.int .i64 x0, .int .i64 x1]] W fun e w' => ∃ A' n c', e = .returned (.slice A' n c') ∧ (kids ⟨x0, x1⟩ L).length = n ∧ St W w' (sep (isRow k49 49 (.slice A' n c') (kids ⟨x0, x1⟩ L)) emp) from fun W hb => behind_calls W q L A cap ⟨x0, x1⟩ (hw.below hb).cell (hw.below hb).row hw.cap hw.len)
  rw [← htops] at KB
  have HT := Lib.hid htops
  clear ih hw hrep hF htops
  go_enter Try.func49, Try.ntmps49
  go_wp2_with (go_at_call 64; refine (KB.out _ HS.out.bel).mono ?_; rintro e w2 ⟨A6, n6, c6, rfl, hn6, hS⟩; have HL6 := Lib.hid hn6; have hn9 := tops_len F; rw [hn6] at hn9; have hn8 : n6 ≤ 1000 := Nat.le_trans hn9 hF2; clear hn9; have HS2 := Lib.hid (show St w w2 (sep (isRow k83 64 (.slice none 0 0) []) (sep (isRow k49 49 (.slice A6 n6 c6) F.tops) emp)) from St.nil k83 64 (asn_sep (asn_row _ _ _ _) asn_emp) (hS.rebase HS.out.bel)); clear hn6 hS)
  go_loopg [5, 7] n6 (fun kq v5 v7 wr => ∃ (i n c : Nat) (A1 : Option Addr) (D : List S49) (N : Fo), v5 = .slice A1 n c ∧ v7 = .int .i64 (i : Int) ∧ Aside0 (kq + i = n6 ∧ rep L N ∧ N.tops = F.tops.drop i ∧ F.flat = D ++ N.flat ∧ (D.map (toX L)).length = n ∧ St w wr (sep (isRow k83 64 (.slice A1 n c) (D.map (toX L))) (sep (isRow k49 49 (.slice A6 n6 c6) F.tops) emp))))
  case atStart => exact ⟨0, 0, 0, none, [], F, rfl, rfl, by omega, HRF.out, rfl, rfl, rfl, HS2.out⟩
  case round =>
    obtain ⟨i, n, c, A1, D, N, rfl, rfl, HI⟩ := hrel
    have hki := HI.out.1
    have HRN := Lib.hid HI.out.2.1
    have HTN := Lib.hid HI.out.2.2.1
    have HFN := Lib.hid HI.out.2.2.2.1
    have HDN := Lib.hid HI.out.2.2.2.2.1
    have HSI := Lib.hid HI.out.2.2.2.2.2
    clear HI
    by_cases hlt : i < n6
    · have hil : i < F.tops.length := by rw [HL6.out]; exact hlt
      have hd1 : decide (i < n6) = true := by simpa using hlt
      have hmem : F.tops[i] ∈ kids ⟨x0, x1⟩ L := by rw [← HT.out]; exact List.getElem_mem hil
      obtain ⟨hm1, hm2, _⟩ := kids_mem _ _ _ hmem
      have hal := alive_has hm1 hm2
      have hdr := HTN.out
      rw [List.drop_eq_getElem_cons hil] at hdr
      obtain ⟨ad, rfl, -⟩ := HSI.out.snd.op_row i hil
      have HCE := Lib.hid (fun W (h : St w W (sep (isRow k83 64 (.slice A1 n c) (D.map (toX L))) (sep (isRow k49 49 (.slice (some ad) n6 c6) F.tops) emp))) => show W.cell? (ad.add (i * 7)) = some (.int .i64 F.tops[i].f0.f0) ∧ W.cell? ⟨(ad.add (i * 7)).block, (ad.add (i * 7)).off + 1, none⟩ = some (.int .i64 F.tops[i].f0.f1) ∧ W.cell? ⟨(ad.add (i * 7)).block, (ad.add (i * 7)).off + 6, none⟩ = some (.int .i32 F.tops[i].f4) from by
        obtain ⟨ad2, e2, c0, c1, _, _, _, _, c6⟩ := h.snd.op_row i hil
        injection e2 with e2
        subst e2
        exact ⟨c0, c1, c6⟩)
      have HCF := Lib.hid (fun W B (h : St w W (sep B (sep (isRow k49 49 (.slice (some ad) n6 c6) F.tops) emp))) => show W.cell? (ad.add (i * 7)) = some (.int .i64 F.tops[i].f0.f0) ∧ W.cell? ⟨(ad.add (i * 7)).block, (ad.add (i * 7)).off + 1, none⟩ = some (.int .i64 F.tops[i].f0.f1) from by
        obtain ⟨ad2, e2, c0, c1, _⟩ := h.snd.op_row i hil
        injection e2 with e2
        subst e2
        exact ⟨c0, c1⟩)
      have KAL := Lib.hid (fun W (hb : Below w.heap.size w W) => galive_calls W q L A cap F.tops[i].f0 (HW.out.below hb).cell (HW.out.below hb).row HW.out.cap (by have := HW.out.len; omega))
      rw [hal] at KAL
      have HTX := Lib.hid (show toX L F.tops[i] = ⟨F.tops[i].f0, F.tops[i].f4, !deadR L F.tops[i].f0⟩ from rfl)
      generalize (!deadR L F.tops[i].f0) = lv at KAL HTX
      cases N with
      | nil => cases hdr
      | cons e s N' =>
        simp only [Fo.tops, List.cons.injEq] at hdr
        obtain ⟨hde, hdt⟩ := hdr
        rw [← hde] at HCE HCF KAL HTX
        obtain ⟨hr1, hr2, hr3⟩ := HRN.out
        have hfl := HFN.out
        have hle : s.flat.length < m ∧ s.flat.length ≤ 1000 ∧ D.length ≤ 1000 := by
          have h1 := congrArg List.length hfl
          simp only [Fo.flat, List.length_append, List.length_cons] at h1
          have h2 := HFM.out
          omega
        have KW := Lib.hid (fun W (hb : Below w.heap.size w W) => HIH.out s hle.1 hle.2.1 hr2 W e.f0 (HW.out.below hb) hr1)
        have HFL := Lib.hid (show F.flat = (D ++ [e] ++ s.flat) ++ N'.flat by rw [hfl]; simp [Fo.flat])
        have HTT := Lib.hid hdt
        have HR3 := Lib.hid hr3
        have hdl := hle.2.2
        have hsl := hle.2.1
        clear hde hdt hr1 hr2 hr3 hfl hle hal hm1 hm2 hmem HFN HRN HTN
        obtain ⟨⟨e0, e1⟩, e2, e3, e4, e6⟩ := e
        simp only at HCE HCF KAL KW HTX
        have AL := Lib.hid (show Asn (sep (isRow k83 64 (.slice A1 n c) (D.map (toX L))) (sep (isRow k49 49 (.slice (some ad) n6 c6) F.tops) emp)) from asn_sep (asn_row _ _ _ _) (asn_sep (asn_row _ _ _ _) asn_emp))
        have HSd := Lib.hid (HSI.out.drew AL.out)
        have HMP := Lib.hid (show (D ++ [(⟨⟨e0, e1⟩, e2, e3, e4, e6⟩ : S49)] ++ s.flat).map (toX L) = D.map (toX L) ++ [(⟨⟨e0, e1⟩, e6, lv⟩ : S83)] ++ s.flat.map (toX L) by rw [List.map_append, List.map_append, List.map_singleton, HTX.out])
        have hj0 : (0 : Int) ≤ (i : Int) := by omega
        have hj1 : (i : Int) < (n6 : Int) := by omega
        go_wp2
        -- region 6
        refine startZ (z := 18) (S := (fun W => W.cell? (ad.add (i * 7)) = some (.int .i64 e0) ∧ W.cell? ⟨(ad.add (i * 7)).block, (ad.add (i * 7)).off + 1, none⟩ = some (.int .i64 e1) ∧ W.cell? ⟨(ad.add (i * 7)).block, (ad.add (i * 7)).off + 6, none⟩ = some (.int .i32 e6))) (by kernel_rfl) ?_
        show ZG _ _ _ _ _ _ 22 _ _ _
        refine takeW (i := 0) (v := ?_) rfl (by kernel_rfl) (by kernel_rfl) (by kernel_rfl) (by decide) (fun _ _ _ h => h) rfl (by exact HCE.out _ HSd.out) ?_ ?_
        rotate_left
        · intro wq; go_simp; try (with_reducible rfl)
        try simp only [Act.put, List.setIfInBounds_toArray, List.set_cons_zero, List.set_cons_succ]
        refine takeW (i := 1) (v := ?_) rfl (by kernel_rfl) (by kernel_rfl) (by kernel_rfl) (by decide) (fun _ _ _ h => h) rfl (by exact HCE.out _ HSd.out) ?_ ?_
        rotate_left
        · intro wq; go_simp; try (with_reducible rfl)
        try simp only [Act.put, List.setIfInBounds_toArray, List.set_cons_zero, List.set_cons_succ]
        refine takeW (i := 2) (v := ?_) rfl (by kernel_rfl) (by kernel_rfl) (by kernel_rfl) (by decide) (fun _ _ _ h => h) rfl (by exact HCE.out _ HSd.out) ?_ ?_
        rotate_left
        · intro wq; go_simp; try (with_reducible rfl)
        try simp only [Act.put, List.setIfInBounds_toArray, List.set_cons_zero, List.set_cons_succ]
        refine takeW (i := 3) (v := ?_) rfl (by kernel_rfl) (by kernel_rfl) (by kernel_rfl) (by decide) (fun _ _ _ h => h) rfl (by exact HCE.out _ HSd.out) ?_ ?_
        rotate_left
        · intro wq; go_simp; try (with_reducible rfl)
        try simp only [Act.put, List.setIfInBounds_toArray, List.set_cons_zero, List.set_cons_succ]
        refine takeW (i := 4) (v := ?_) rfl (by kernel_rfl) (by kernel_rfl) (by kernel_rfl) (by decide) (fun _ _ _ h => h) rfl (by exact HCE.out _ HSd.out) ?_ ?_
        rotate_left
        · intro wq; go_simp; try (with_reducible rfl)
        try simp only [Act.put, List.setIfInBounds_toArray, List.set_cons_zero, List.set_cons_succ]
        refine takeZ (i := 5) (f0 := 6) (v := ?_) rfl (by kernel_rfl) (by kernel_rfl) (by kernel_rfl) (by decide) (by kernel_rfl) (fun _ _ _ h => h) rfl (by exact HCE.out _ HSd.out) ?_ ?_
        rotate_left
        · intro wq hSw; (try dsimp only at hSw); go_split_ands; go_simp; try (with_reducible rfl)
        try simp only [Act.put, List.setIfInBounds_toArray, List.set_cons_zero, List.set_cons_succ]
        refine takeW (i := 6) (v := ?_) rfl (by kernel_rfl) (by kernel_rfl) (by kernel_rfl) (by decide) (fun _ _ _ h => h) rfl (by exact HCE.out _ HSd.out) ?_ ?_
        rotate_left
        · intro wq; go_simp; try (with_reducible rfl)
        try simp only [Act.put, List.setIfInBounds_toArray, List.set_cons_zero, List.set_cons_succ]
        refine takeW (i := 7) (v := ?_) rfl (by kernel_rfl) (by kernel_rfl) (by kernel_rfl) (by decide) (fun _ _ _ h => h) rfl (by exact HCE.out _ HSd.out) ?_ ?_
        rotate_left
        · intro wq; go_simp; try (with_reducible rfl)
        try simp only [Act.put, List.setIfInBounds_toArray, List.set_cons_zero, List.set_cons_succ]
        refine takeW (i := 8) (v := ?_) rfl (by kernel_rfl) (by kernel_rfl) (by kernel_rfl) (by decide) (fun _ _ _ h => h) rfl (by exact HCE.out _ HSd.out) ?_ ?_
        rotate_left
        · intro wq; go_simp; try (with_reducible rfl)
        try simp only [Act.put, List.setIfInBounds_toArray, List.set_cons_zero, List.set_cons_succ]
        refine takeW (i := 9) (v := ?_) rfl (by kernel_rfl) (by kernel_rfl) (by kernel_rfl) (by decide) (fun _ _ _ h => h) rfl (by exact HCE.out _ HSd.out) ?_ ?_
        rotate_left
        · intro wq; go_simp; try (with_reducible rfl)
        try simp only [Act.put, List.setIfInBounds_toArray, List.set_cons_zero, List.set_cons_succ]
        refine takeZ (i := 10) (f0 := 6) (v := ?_) rfl (by kernel_rfl) (by kernel_rfl) (by kernel_rfl) (by decide) (by kernel_rfl) (fun _ _ _ h => h) rfl (by exact HCE.out _ HSd.out) ?_ ?_
        rotate_left
        · intro wq hSw; (try dsimp only at hSw); go_split_ands; go_simp; try (with_reducible rfl)
        try simp only [Act.put, List.setIfInBounds_toArray, List.set_cons_zero, List.set_cons_succ]
        refine takeW (i := 11) (v := ?_) rfl (by kernel_rfl) (by kernel_rfl) (by kernel_rfl) (by decide) (fun _ _ _ h => h) rfl (by exact HCE.out _ HSd.out) ?_ ?_
        rotate_left
        · intro wq; go_simp; try (with_reducible rfl)
        try simp only [Act.put, List.setIfInBounds_toArray, List.set_cons_zero, List.set_cons_succ]
        refine takeW (i := 12) (v := ?_) rfl (by kernel_rfl) (by kernel_rfl) (by kernel_rfl) (by decide) (fun _ _ _ h => h) rfl (by exact HCE.out _ HSd.out) ?_ ?_
        rotate_left
        · intro wq; go_simp; try (with_reducible rfl)
        try simp only [Act.put, List.setIfInBounds_toArray, List.set_cons_zero, List.set_cons_succ]
        refine takeW (i := 13) (v := ?_) rfl (by kernel_rfl) (by kernel_rfl) (by kernel_rfl) (by decide) (fun _ _ _ h => h) rfl (by exact HCE.out _ HSd.out) ?_ ?_
        rotate_left
        · intro wq; go_simp; try (with_reducible rfl)
        try simp only [Act.put, List.setIfInBounds_toArray, List.set_cons_zero, List.set_cons_succ]
        refine takeW (i := 14) (v := ?_) rfl (by kernel_rfl) (by kernel_rfl) (by kernel_rfl) (by decide) (fun _ _ _ h => h) rfl (by exact HCE.out _ HSd.out) ?_ ?_
        rotate_left
        · intro wq; go_simp; try (with_reducible rfl)
        try simp only [Act.put, List.setIfInBounds_toArray, List.set_cons_zero, List.set_cons_succ]
        refine takeW (i := 15) (v := ?_) rfl (by kernel_rfl) (by kernel_rfl) (by kernel_rfl) (by decide) (fun _ _ _ h => h) rfl (by exact HCE.out _ HSd.out) ?_ ?_
        rotate_left
        · intro wq; go_simp; try (with_reducible rfl)
        try simp only [Act.put, List.setIfInBounds_toArray, List.set_cons_zero, List.set_cons_succ]
        refine takeZ (i := 16) (f0 := 6) (v := ?_) rfl (by kernel_rfl) (by kernel_rfl) (by kernel_rfl) (by decide) (by kernel_rfl) (fun _ _ _ h => h) rfl (by exact HCE.out _ HSd.out) ?_ ?_
        rotate_left
        · intro wq hSw; (try dsimp only at hSw); go_split_ands; go_simp; try (with_reducible rfl)
        try simp only [Act.put, List.setIfInBounds_toArray, List.set_cons_zero, List.set_cons_succ]
        refine oneZ (i := 17) rfl (by kernel_rfl) rfl (fun K hK => ?_)
        go_simp
        go_at_call 65
        refine (KAL.out _ HSd.out.bel).mono ?_
        rintro e w3 ⟨rfl, hb3⟩
        have hS3 := HSd.out.below AL.out hb3
        clear hb3
        try go_simp
        refine hK _ _ (by exact HCE.out _ hS3) ?_
        clear hK K
        try simp only [Act.put, List.setIfInBounds_toArray, List.set_cons_zero, List.set_cons_succ]
        refine seqZ (l := _ :: _) rfl rfl (by kernel_rfl) (by decide) ?_
        have hSL := lit_st flat_X 64 AL.out hS3 ⟨⟨e0, e1⟩, e6, lv⟩
        obtain ⟨X2, x2, ex, hxc, hxr⟩ := hSL.reads
        injection ex with ex1 ex2 ex3
        subst ex1 ex3
        obtain ⟨B4, n4, d4, w4, e4, hn4, hS4⟩ := app_st flat_X (t := 61) (e := 64) (bytes := 24) Try.underlying61 info64 rfl (by decide) (asn_sep (asn_row _ _ _ _) asn_emp) hSL.snd hxr hxc (by simp only [List.length_map, List.length_singleton]; omega) 61
        have HE4 := Lib.hid e4
        have HS4 := Lib.hid hS4
        have HN4 := Lib.hid hn4
        clear e4 hS4 hn4 hxc hxr ex2 hSL hS3
        obtain ⟨f0, f1⟩ := HCF.out _ _ HS4.out
        go_wp2_with (first
          | (at_builtin; refine Lib.wpList_append_run _ rfl _ _ _ _ rfl _ _ rfl rfl _ _ HE4.out ?_)
          | (go_at_call 49; refine (KW.out _ HS4.out.bel).mono ?_; rintro e w5 ⟨A9, n9, c9, rfl, hn9, hS9⟩; obtain ⟨B10, n10, d10, w10, e10, hn10, hS10⟩ := walk_app (asn_sep (asn_row _ _ _ _) asn_emp) HS4.out hS9 (by rw [List.length_append, List.length_map, List.length_singleton]; omega) (by rw [List.length_map]; omega); have HE10 := Lib.hid e10; have HN10 := Lib.hid hn10; have HS10 := Lib.hid hS10; clear e10 hn10 hS10 hn9 hS9 f0 f1)
          | (at_builtin; refine Lib.wpList_append_run _ rfl _ _ _ _ rfl _ _ rfl rfl _ _ HE10.out ?_))
        -- behind it
        go_roundg (n6 - (i + 1))
        case measure => omega
        case rel => exact ⟨i + 1, n10, d10, B10, D ++ [⟨⟨e0, e1⟩, e2, e3, e4, e6⟩] ++ s.flat, N', rfl, by go_num, by omega, HR3.out, HTT.out, HFL.out, by rw [HMP.out]; exact HN10.out.symm, by rw [HMP.out]; exact HS10.out⟩
    · obtain rfl : i = n6 := by omega
      have hd1 : decide (i < i) = false := by simp
      have hnl : N.tops = [] := by rw [HTN.out, List.drop_of_length_le (by rw [HL6.out]; exact Nat.le_refl _)]
      have hN : N = .nil := by
        cases N with
        | nil => rfl
        | cons e s N' => cases hnl
      have hFD := HFN.out
      rw [hN] at hFD
      have hFD : F.flat = D := by rw [hFD]; simp [Fo.flat]
      have HSF := Lib.hid (show St w wr (sep (isRow k83 64 (.slice A1 n c) (F.flat.map (toX L))) emp) from hFD ▸ HSI.out.swap.snd.with_emp)
      have HNF := Lib.hid (show (F.flat.map (toX L)).length = n from hFD ▸ HDN.out)
      clear hFD hN hnl
      go_wp2
      go_ret
      exact ⟨_, _, _, rfl, HNF.out, HSF.out⟩
/-- The reference's Walk. -/
theorem Walk_calls (q : Nat) (L : List S49) (A : Option Addr) (cap : Nat) (F : Fo) (hF : F.flat.length ≤ 1000) (hr : rep L F) (ht : F.tops = kids zid L) (w : World) (h : RefW w q L A cap) :
    Calls Try.prog 31 #[.pointer (some ⟨q, 0, none⟩)] w fun e w' => ∃ A' n c', e = .returned (.slice A' n c') ∧ (F.flat.map (toX L)).length = n ∧ St w w' (sep (isRow k83 64 (.slice A' n c') (F.flat.map (toX L))) emp) := by
  have K1 := Lib.hid (walk_calls q L A cap (F.flat.length + 1) F (Nat.lt_succ_self _) hF hr w zid h ht)
  unfold zid at K1
  go_enter Try.func31, Try.ntmps31
  go_wp2_with (go_at_call 49; refine K1.out.mono ?_; rintro e w2 ⟨A6, n6, c6, rfl, hn6, hS⟩; have HN := Lib.hid hn6; have HS := Lib.hid hS; clear hn6 hS)
  go_ret
  exact ⟨_, _, _, rfl, HN.out, HS.out⟩
end Go.Proofs.Ytefnpalkkhhkfaa.PC
namespace Go.Proofs.Ytefnpalkkhhkfaa.PC
open Go.RowKit Go.Proofs.YtefnpalkkhhkfaaW.PrintWords Go.Proofs.YtefnpalkkhhkfaaW.PrintLast Go.Proofs.YtefnpalkkhhkfaaW.PrintMore Go.Proofs.Ytefnpalkkhhkfaa.K Go.Proofs.Ytefnpalkkhhkfaa.IX Go.Proofs.Ytefnpalkkhhkfaa.I
attribute [local go_sem] max2_int min2_int max_two min_two max_three min_three max_four min_four
attribute [local go_sem high] eqA24
set_option linter.unusedVariables false
set_option linter.unusedSimpArgs false
/-- A literal of one, appended to a row of the call's own. -/
theorem lit_app {α : Type} {d : Kd α} {fl : α → List Value} (hf : Flat d fl) {t e bytes : Nat} {z : Value} (ht : Try.prog.underlying t = some (.slice e)) (hinfo : (Try.prog.info? e).map (fun i => (i.zero, i.size, i.bytes)) = some (some z, d.sz, bytes)) (hz : z.cells.size = d.sz) (hb0 : 0 < bytes)
    {w0 W : World} {B : As} (b : Asn B) {v : Value} {xs : List α} (h : St w0 W (sep (isRow d e v xs) B)) (x : α) (hl : (xs.length + 1) * bytes ≤ 140737488355328) (ty : TypeId) :
    ∃ B' n c' w1, (Builtin.append_ #[t, t] ty #[v, .slice (some ⟨W.heap.size, 0, none⟩) 1 1]).run Try.prog (W.alloc (.cells (fl x).toArray e)) = .ok (.slice B' n c') w1 ∧ n = (xs ++ [x]).length ∧ St w0 w1 (sep (isRow d e (.slice B' n c') (xs ++ [x])) B) := by
  have hL := lit_st hf e (asn_sep (asn_row _ _ _ _) b) h x
  obtain ⟨_, hc, hr⟩ := hL.later (Below.refl _ _)
  exact app_st hf ht hinfo hz hb0 b hL.snd hr hc hl ty
theorem row_len {α : Type} {d : Kd α} {e : Nat} {w0 w : World} {A : Option Addr} {n c : Nat} {xs : List α} {B : As} (h : St w0 w (sep (isRow d e (.slice A n c) xs) B)) : xs.length = n := (h.later (Below.refl _ _)).1
set_option maxHeartbeats 8000000 in
set_option maxRecDepth 100000 in
theorem gvis_calls (q : Nat) (L : List S49) (A : Option Addr) (cap : Nat) (F : Fo) (hF : F.flat.length ≤ 1000) (hr : rep L F) (ht : F.tops = kids zid L) (w : World) (h : RefW w q L A cap) :
    Calls Try.prog 32 #[.pointer (some ⟨q, 0, none⟩)] w fun e w' => ∃ A1 n1 c1 A2 n2 c2 A3 n3 c3, e = .returned (.tuple #[.slice A1 n1 c1, .slice A2 n2 c2, .slice A3 n3 c3]) ∧ St w w' (sep (isRow (Kd.int .i32) 21 (.slice A1 n1 c1) (visS (F.flat.map (toX L)))) (sep (isRow k24 24 (.slice A2 n2 c2) (aliveIds (F.flat.map (toX L)))) (sep (isRow k24 24 (.slice A3 n3 c3) ((F.flat.map (toX L)).map (·.f0))) emp))) := by
  have K1 := Lib.hid (Walk_calls q L A cap F hF hr ht w h)
  have hl : (F.flat.map (toX L)).length ≤ 1000 := by rw [List.length_map]; exact hF
  clear hr ht h hF
  generalize F.flat.map (toX L) = l at *
  unfold aliveIds
  go_enter Try.func32, Try.ntmps32
  go_wp2_with (go_at_call 31; refine K1.out.mono ?_; rintro e w2 ⟨A6, n6, c6, rfl, hn6, hS⟩; have HL6 := Lib.hid hn6; rw [hn6] at hl; have HS2 := Lib.hid (show St w w2 (sep (isRow k24 24 (.slice none 0 0) []) (sep (isRow k24 24 (.slice none 0 0) []) (sep (isRow (Kd.int .i32) 21 (.slice none 0 0) []) (sep (isRow k83 64 (.slice A6 n6 c6) l) emp)))) from St.nil _ _ (asn_sep (asn_row _ _ _ _) (asn_sep (asn_row _ _ _ _) (asn_sep (asn_row _ _ _ _) asn_emp))) (St.nil _ _ (asn_sep (asn_row _ _ _ _) (asn_sep (asn_row _ _ _ _) asn_emp)) (St.nil _ _ (asn_sep (asn_row _ _ _ _) asn_emp) hS))); clear hn6 hS)
  go_loopg [6, 7, 8, 9] n6 (fun kq v6 v7 v8 v9 wr => ∃ (i n1 c1 n2 c2 n3 c3 : Nat) (A1 A2 A3 : Option Addr), v6 = .slice A1 n1 c1 ∧ v7 = .slice A2 n2 c2 ∧ v8 = .slice A3 n3 c3 ∧ v9 = .int .i64 (i : Int) ∧ Aside0 (kq + i = n6 ∧ St w wr (sep (isRow k24 24 (.slice A3 n3 c3) ((l.take i).map (·.f0))) (sep (isRow k24 24 (.slice A2 n2 c2) (idsS (fun e : S83 => e.f2) (l.take i))) (sep (isRow (Kd.int .i32) 21 (.slice A1 n1 c1) (visS (l.take i))) (sep (isRow k83 64 (.slice A6 n6 c6) l) emp))))))
  case atStart => exact ⟨0, 0, 0, 0, 0, 0, 0, none, none, none, rfl, rfl, rfl, rfl, by omega, HS2.out⟩
  case round =>
    obtain ⟨i, n1, c1, n2, c2, n3, c3, A1, A2, A3, rfl, rfl, rfl, rfl, HI⟩ := hrel
    have hki := HI.out.1
    have hS := HI.out.2
    by_cases hlt : i < n6
    · have hil : i < l.length := by rw [HL6.out]; exact hlt
      have hd1 : decide (i < n6) = true := by simpa using hlt
      have hts : l.take (i + 1) = l.take i ++ [l[i]] := take_snoc l i hil
      have hv := visS_snoc (l.take i) l[i]
      have hi := idsS_snoc (fun e : S83 => e.f2) (l.take i) l[i]
      have ha : (l.take (i + 1)).map (·.f0) = (l.take i).map (·.f0) ++ [l[i].f0] := by rw [hts, List.map_append]; rfl
      rw [← hts] at hv hi
      have hlk : (l.take i).length ≤ 1000 := by rw [List.length_take]; omega
      have l1 : (visS (l.take i)).length ≤ 1000 := Nat.le_trans (visS_len _) hlk
      have l2 : (idsS (fun e : S83 => e.f2) (l.take i)).length ≤ 1000 := Nat.le_trans (idsS_len _ _) hlk
      have l3 : ((l.take i).map (·.f0)).length ≤ 1000 := by rw [List.length_map]; exact hlk
      have HCE := Lib.hid (fun W B C D (h : St w W (sep B (sep C (sep D (sep (isRow k83 64 (.slice A6 n6 c6) l) emp))))) => show ∃ ad, A6 = some ad ∧ W.cell? (ad.add (i * 4)) = some (.int .i64 l[i].f0.f0) ∧ W.cell? ⟨(ad.add (i * 4)).block, (ad.add (i * 4)).off + 1, none⟩ = some (.int .i64 l[i].f0.f1) ∧ W.cell? ⟨(ad.add (i * 4)).block, (ad.add (i * 4)).off + 2, none⟩ = some (.int .i32 l[i].f1) ∧ W.cell? ⟨(ad.add (i * 4)).block, (ad.add (i * 4)).off + 3, none⟩ = some (.bool l[i].f2) from cell_el (h.snd.snd.snd.later (Below.refl _ _)).2.2 (Below.refl _ _) i hil)
      generalize l[i] = e at *
      obtain ⟨⟨e0, e1⟩, e2, e3⟩ := e
      simp only at HCE hv hi ha
      obtain ⟨ad, rfl, f0, f1, f2, f3⟩ := HCE.out _ _ _ _ hS
      have HV := Lib.hid hv
      have HI2 := Lib.hid hi
      have HA := Lib.hid ha
      obtain ⟨B1, m1, d1, w3, k1, q1, s1⟩ := lit_app flat_ID (t := 53) (e := 24) (bytes := 16) Try.underlying53 info24 rfl (by decide) (asn_sep (asn_row _ _ _ _) (asn_sep (asn_row _ _ _ _) (asn_sep (asn_row _ _ _ _) asn_emp))) hS ⟨e0, e1⟩ (by omega) 53
      obtain ⟨ad2, e5, g0, g1, g2, g3⟩ := HCE.out _ _ _ _ s1
      injection e5 with e5
      subst e5
      have HK1 := Lib.hid k1
      cases e3 with
      | false =>
        have hv2 : visS (l.take (i + 1)) = visS (l.take i) := HV.out
        have hi2 : idsS (fun e : S83 => e.f2) (l.take (i + 1)) = idsS (fun e : S83 => e.f2) (l.take i) := HI2.out
        have HS3 := Lib.hid (show St w w3 (sep (isRow k24 24 (.slice B1 m1 d1) ((l.take (i + 1)).map (·.f0))) (sep (isRow k24 24 (.slice A2 n2 c2) (idsS (fun e : S83 => e.f2) (l.take (i + 1)))) (sep (isRow (Kd.int .i32) 21 (.slice A1 n1 c1) (visS (l.take (i + 1)))) (sep (isRow k83 64 (.slice (some ad) n6 c6) l) emp)))) from by rw [hv2, hi2, HA.out]; exact s1)
        clear hv hi ha hv2 hi2 hts l1 l2 l3 hlk hS HI k1 q1 s1
        go_wp2_with (at_builtin; refine Lib.wpList_append_run _ rfl _ _ _ _ rfl _ _ rfl rfl _ _ HK1.out ?_)
        go_roundg (n6 - (i + 1))
        case measure => omega
        case rel => exact ⟨i + 1, n1, c1, n2, c2, m1, d1, A1, A2, B1, rfl, rfl, rfl, by go_num, by omega, HS3.out⟩
      | true =>
        obtain ⟨B2, m2, d2, w4, k2, q2, s2⟩ := lit_app flat_i32 (t := 65) (e := 21) (bytes := 4) Try.underlying65 info21 rfl (by decide) (asn_sep (asn_row _ _ _ _) (asn_sep (asn_row _ _ _ _) (asn_sep (asn_row _ _ _ _) asn_emp))) s1.third e2 (by omega) 65
        obtain ⟨ad3, e6, h0, h1, h2, h3⟩ := HCE.out _ _ _ _ s2
        injection e6 with e6
        subst e6
        obtain ⟨B3, m3, d3, w5, k3, q3, s3⟩ := lit_app flat_ID (t := 53) (e := 24) (bytes := 16) Try.underlying53 info24 rfl (by decide) (asn_sep (asn_row _ _ _ _) (asn_sep (asn_row _ _ _ _) (asn_sep (asn_row _ _ _ _) asn_emp))) s2.third ⟨e0, e1⟩ (by omega) 53
        have HK2 := Lib.hid k2
        have HK3 := Lib.hid k3
        have HS3 := Lib.hid (show St w w5 (sep (isRow k24 24 (.slice B1 m1 d1) ((l.take (i + 1)).map (·.f0))) (sep (isRow k24 24 (.slice B3 m3 d3) (idsS (fun e : S83 => e.f2) (l.take (i + 1)))) (sep (isRow (Kd.int .i32) 21 (.slice B2 m2 d2) (visS (l.take (i + 1)))) (sep (isRow k83 64 (.slice (some ad) n6 c6) l) emp)))) from by
          rw [HV.out, HI2.out, HA.out]
          exact s3.third)
        clear hv hi ha hts l1 l2 l3 hlk hS HI k1 q1 s1 k2 q2 s2 k3 q3 s3
        go_wp2_with (first
          | (at_builtin; refine Lib.wpList_append_run _ rfl _ _ _ _ rfl _ _ rfl rfl _ _ HK1.out ?_)
          | (at_builtin; refine Lib.wpList_append_run _ rfl _ _ _ _ rfl _ _ rfl rfl _ _ HK2.out ?_)
          | (at_builtin; refine Lib.wpList_append_run _ rfl _ _ _ _ rfl _ _ rfl rfl _ _ HK3.out ?_))
        go_roundg (n6 - (i + 1))
        case measure => omega
        case rel => exact ⟨i + 1, m2, d2, m3, d3, m1, d1, B2, B3, B1, rfl, rfl, rfl, by go_num, by omega, HS3.out⟩
    · obtain rfl : i = n6 := by omega
      have hd1 : decide (i < i) = false := by simp
      have hti : l.take i = l := List.take_of_length_le (by rw [HL6.out]; exact Nat.le_refl _)
      rw [hti] at hS
      have HSF := Lib.hid (show St w wr (sep (isRow (Kd.int .i32) 21 (.slice A1 n1 c1) (visS l)) (sep (isRow k24 24 (.slice A2 n2 c2) (idsS (fun e : S83 => e.f2) l)) (sep (isRow k24 24 (.slice A3 n3 c3) (l.map (·.f0))) emp))) from hS.fourth.snd.third.si (SI.in1 (SI.turn _ _ _)))
      clear hS HI hti
      go_wp2
      go_ret3
      exact ⟨_, _, _, _, _, _, _, _, _, rfl, HSF.out⟩
end Go.Proofs.Ytefnpalkkhhkfaa.PC
namespace Go.Proofs.Ytefnpalkkhhkfaa.PC
open Go.RowKit Go.Proofs.YtefnpalkkhhkfaaW.PrintWords Go.Proofs.Ytefnpalkkhhkfaa.K Go.Proofs.Ytefnpalkkhhkfaa.IX Go.Proofs.Ytefnpalkkhhkfaa.I
set_option linter.unusedVariables false
set_option linter.unusedSimpArgs false
theorem at_out (l : List S83) (k : Int) (h : k < 0 ∨ (aliveIds l).length ≤ k.toNat) : atS l k = (z24, false) := by
  have hs : selS (l.map (·.f2)) k = (0, false) := by
    unfold selS
    rcases h with h | h
    · rw [if_neg (show ¬ 0 ≤ k by omega)]
    · rw [ids_cn] at h
      by_cases hk : 0 ≤ k
      · rw [if_pos hk, sel_none _ _ h]
      · rw [if_neg hk]
  unfold atS
  rw [hs]
  rfl
end Go.Proofs.Ytefnpalkkhhkfaa.PC
namespace Go.Proofs.Ytefnpalkkhhkfaa.PC
open Go.RowKit Go.Proofs.YtefnpalkkhhkfaaW.PrintWords Go.Proofs.YtefnpalkkhhkfaaW.PrintLast Go.Proofs.YtefnpalkkhhkfaaW.PrintMore Go.Proofs.Ytefnpalkkhhkfaa.K Go.Proofs.Ytefnpalkkhhkfaa.IX Go.Proofs.Ytefnpalkkhhkfaa.I
attribute [local go_sem] max2_int min2_int max_two min_two max_three min_three max_four min_four
attribute [local go_sem high] eqA24
set_option linter.unusedVariables false
set_option linter.unusedSimpArgs false
set_option maxHeartbeats 8000000 in
set_option maxRecDepth 100000 in
theorem made_calls (w : World) (A : Option Addr) (cap : Nat) (l : List S49) (hr : Kd.C k49 w A l.length l) (hc : l.length ≤ cap) (hl : l.length ≤ 140737488351232) :
    Calls Try.prog 10 #[.slice A l.length cap] w fun e w' => ∃ p q T F, e = .returned (.tuple #[.pointer (some ⟨p, 0, none⟩), .pointer (some ⟨q, 0, none⟩)]) ∧ Inv T F ∧ T.ops.length ≤ 30 ∧ (∀ x ∈ T.ops, x ∈ l) ∧ St w w' (sep (isTx p T) (sep (isRef q T.ops) emp)) := by
  have HRD := Lib.hid hr
  obtain ⟨len, hlen⟩ : ∃ len, l.length = len := ⟨_, rfl⟩
  have HLEN := Lib.hid hlen
  rw [hlen] at hc hl
  obtain ⟨N, hN⟩ : ∃ N, min len 30 = N := ⟨_, rfl⟩
  have hN1 : N ≤ len := by omega
  have hN2 : N ≤ 30 := by omega
  have HN3 := Lib.hid (show len ≤ N ∨ N = 30 by omega)
  rw [hlen]
  clear hr hN hlen
  go_enter Try.func10, Try.ntmps10
  go_wp2_with (go_at_call 27; refine (new_st asn_emp (St.emp w)).mono ?_; rintro e w2 ⟨p, rfl, hS⟩; have HS := Lib.hid (hS.mkref (asn_sep (asn_tx _ _) asn_emp)).turn; clear hS)
  obtain ⟨q, hq⟩ : ∃ q, w2.heap.size = q := ⟨_, rfl⟩
  rw [hq] at HS
  try rw [hq]
  clear hq
  go_loopg [6] N (fun kq v6 wr => ∃ (i : Nat), v6 = .int .i64 (i : Int) ∧ Aside0 (kq + i = N ∧ ∃ T F, Inv T F ∧ T.ops.length ≤ i ∧ (∀ x ∈ T.ops, x ∈ l) ∧ St w wr (sep (isTx p T) (sep (isRef q T.ops) emp))))
  case atStart => exact ⟨0, rfl, by omega, T0, _, inv0, Nat.le_refl _, fun x hx => (by cases hx), HS.out⟩
  case round =>
    obtain ⟨i, rfl, HI⟩ := hrel
    have hki := HI.out.1
    obtain ⟨T, Fo', hI, hol, hsub, hS⟩ := HI.out.2
    by_cases hlt : i < N
    · have hil : i < l.length := by rw [HLEN.out]; omega
      obtain ⟨ad, rfl, -⟩ := cell_op HRD.out hS.bel i hil
      have HC := Lib.hid (fun W (hb : Below w.heap.size w W) => show W.cell? (ad.add (i * 7)) = some (.int .i64 l[i].f0.f0) ∧ W.cell? ⟨(ad.add (i * 7)).block, (ad.add (i * 7)).off + 1, none⟩ = some (.int .i64 l[i].f0.f1) ∧ W.cell? ⟨(ad.add (i * 7)).block, (ad.add (i * 7)).off + 2, none⟩ = some (.int .i64 l[i].f1) ∧ W.cell? ⟨(ad.add (i * 7)).block, (ad.add (i * 7)).off + 3, none⟩ = some (.bool l[i].f2) ∧ W.cell? ⟨(ad.add (i * 7)).block, (ad.add (i * 7)).off + 4, none⟩ = some (.int .i64 l[i].f3.f0) ∧ W.cell? ⟨(ad.add (i * 7)).block, (ad.add (i * 7)).off + 5, none⟩ = some (.int .i64 l[i].f3.f1) ∧ W.cell? ⟨(ad.add (i * 7)).block, (ad.add (i * 7)).off + 6, none⟩ = some (.int .i32 l[i].f4) from by
        obtain ⟨ad2, e2, c⟩ := cell_op HRD.out hb i hil
        injection e2 with e2
        subst e2
        exact c)
      have hmem : l[i] ∈ l := List.getElem_mem hil
      generalize l[i] = o at HC hmem
      have hd1 : decide (i < len) = true := by simp; omega
      have hd2 : decide ((i : Int) < 30) = true := by simp; omega
      have hps := hI.put_same o
      obtain ⟨⟨⟨rb, re⟩, T'⟩, hp⟩ : ∃ x, putT T o = x := ⟨_, rfl⟩
      obtain ⟨F', hI'⟩ := inv_put hI o
      have hln := putT_len T o
      have hsub2 : ∀ x ∈ (putT T o).2.ops, x ∈ l := by
        rw [hps.2]
        intro x hx
        unfold putR at hx
        cases hq : refR T.ops o with
        | some e => rw [hq] at hx; exact hsub x hx
        | none =>
          rw [hq] at hx
          rcases List.mem_append.1 hx with h | h
          · exact hsub x h
          · rw [List.mem_singleton.1 h]; exact hmem
      rw [hp] at hps hI' hln hsub2
      obtain ⟨hps1, hps2⟩ := hps
      simp only at hps1 hps2 hI' hln hsub2
      have KP := Lib.hid (fun W B (b : Asn B) (h : St w W (sep (isTx p T) B)) => put_named hp hI (by omega) b h)
      have KG := Lib.hid (show ∀ W B, Asn B → St w W (sep (isRef q T.ops) B) → Calls Try.prog 28 #[.pointer (some ⟨q, 0, none⟩), opV o] W fun e w' => e = .returned (.tuple #[.bool rb, .int .i64 re]) ∧ St w w' (sep (isRef q T'.ops) B) from fun W B b h => by
        have := gput_st b h (by omega) o
        rw [← hps1, ← hps2] at this
        exact this)
      have HNX := Lib.hid (show ∀ W, St w W (sep (isTx p T') (sep (isRef q T'.ops) emp)) → ∃ T F, Inv T F ∧ T.ops.length ≤ i + 1 ∧ (∀ x ∈ T.ops, x ∈ l) ∧ St w W (sep (isTx p T) (sep (isRef q T.ops) emp)) from fun W h => ⟨T', F', hI', by omega, hsub2, h⟩)
      have HS0' := Lib.hid hS
      have HC1 := Lib.hid (fun W B (h : St w W B) => HC.out W h.bel)
      obtain ⟨c0, c1, c2, c3, c4, c5, c6⟩ := HC.out _ hS.bel
      unfold opV at KP KG
      obtain ⟨⟨o0, o1⟩, o2, o3, ⟨o4, o5⟩, o6⟩ := o
      simp only at HC HC1 KP KG c0 c1 c2 c3 c4 c5 c6
      clear hI hS hol hp hps1 hps2 hln hI' HI hsub hsub2 hmem
      go_wp2_with (first
        | (go_at_call 24; with_reducible refine (KP.out _ _ (asn_sep (asn_ref _ _) asn_emp) HS0'.out).mono ?_; rintro e w5 ⟨rfl, hS5⟩; have HS5 := Lib.hid hS5.turn; clear hS5 c0 c1 c2 c3 c4 c5 c6; obtain ⟨c0, c1, c2, c3, c4, c5, c6⟩ := HC1.out _ _ HS5.out)
        | (go_at_call 28; with_reducible refine (KG.out _ _ (asn_sep (asn_tx _ _) asn_emp) HS5.out).mono ?_; rintro e w6 ⟨rfl, hS6⟩; have HS6 := Lib.hid hS6.turn; clear hS6 c0 c1 c2 c3 c4 c5 c6))
      go_roundg (N - (i + 1))
      case measure => omega
      case rel => exact ⟨i + 1, by go_num, by omega, HNX.out _ HS6.out⟩
    · obtain rfl : i = N := by omega
      have hex : (decide (i < len) = true ∧ decide ((i : Int) < 30) = false) ∨ decide (i < len) = false := by
        by_cases h3 : i < len
        · rcases HN3.out with k | k
          · omega
          · exact .inl ⟨by simpa using h3, by simp; omega⟩
        · exact .inr (by simpa using h3)
      have HF := Lib.hid (show ∃ T F, Inv T F ∧ T.ops.length ≤ 30 ∧ (∀ x ∈ T.ops, x ∈ l) ∧ St w wr (sep (isTx p T) (sep (isRef q T.ops) emp)) from ⟨T, Fo', hI, by omega, hsub, hS⟩)
      clear hI hS hol HI hsub
      rcases hex with ⟨hd1, hd2⟩ | hd1
      all_goals
        go_wp2
        go_ret2
        obtain ⟨T9, F9, h1, h2, h3, h4⟩ := HF.out
        exact ⟨_, _, T9, F9, rfl, h1, h2, h3, h4⟩
end Go.Proofs.Ytefnpalkkhhkfaa.PC
namespace Go.Proofs.Ytefnpalkkhhkfaa.PC
open Go.RowKit Go.Proofs.YtefnpalkkhhkfaaW.PrintWords Go.Proofs.Ytefnpalkkhhkfaa.K Go.Proofs.Ytefnpalkkhhkfaa.IX Go.Proofs.Ytefnpalkkhhkfaa.I
set_option linter.unusedVariables false
set_option linter.unusedSimpArgs false
structure GoneC (T : TS) (i : Nat) (x : S24) (T' : TS) : Prop where
  put : putT T (gOne T.top x 4194303) = ((true, 0), T')
  inv : ∃ F, Inv T' F
  len : cn (T'.l.map (·.f2)) + 1 = cn (T.l.map (·.f2))
  at_ : placeA T'.l x false = ((i : Int), 0)
  next : ∀ y, holdS T.l ((i : Int) + 1) true = ((y, true), 0) → placeA T'.l y true = ((i : Int), 0)
end Go.Proofs.Ytefnpalkkhhkfaa.PC
namespace Go.Proofs.Ytefnpalkkhhkfaa.PC
open Go.RowKit Go.Proofs.YtefnpalkkhhkfaaW.PrintWords Go.Proofs.Ytefnpalkkhhkfaa.K Go.Proofs.Ytefnpalkkhhkfaa.IX Go.Proofs.Ytefnpalkkhhkfaa.I
set_option linter.unusedVariables false
set_option linter.unusedSimpArgs false
def gplS : List S83 → S24 → Bool → Nat → Int × Int
  | [], x, _, n => if idq x ⟨0, 0⟩ = true then ((n : Int), 0) else (0, 5)
  | e :: l, x, ah, n => if idq e.f0 x = true then (if (!ah && e.f2) = true then ((n : Int) + 1, 0) else ((n : Int), 0)) else gplS l x ah (if e.f2 = true then n + 1 else n)
theorem cn_one (b : Bool) (n m : Nat) : ((if b = true then n + 1 else n) + m : Nat) = n + ((if b = true then 1 else 0) + m) := by
  cases b <;> simp <;> omega
theorem cn_hd (b : Bool) (ms : List Bool) : cn (b :: ms) = (if b = true then 1 else 0) + cn ms := by
  cases b <;> simp [cn] <;> omega
theorem gpl_out (x : S24) (ah : Bool) (l : List S83) : ∀ n : Nat, placeS l x < 0 → gplS l x ah n = if idq x ⟨0, 0⟩ = true then (((n + cn (l.map (·.f2)) : Nat) : Int), 0) else (0, 5) := by
  induction l with
  | nil => intro n _; rfl
  | cons e l ih =>
    intro n h
    have hrg := placeS_range l x
    simp only [placeS] at h
    by_cases hq : idq e.f0 x = true
    · rw [if_pos hq] at h; omega
    · rw [if_neg hq] at h
      by_cases hz : placeS l x < 0
      · simp only [gplS]
        rw [if_neg hq, ih _ hz, List.map_cons, cn_hd, cn_one]
      · rw [if_neg hz] at h; omega
theorem gpl_in (x : S24) (ah : Bool) (l : List S83) : ∀ n k : Nat, placeS l x = k → gplS l x ah n = if (!ah && (rd_T83 l (k : Int)).f2) = true then (((n + cn ((l.map (·.f2)).take k) : Nat) : Int) + 1, 0) else (((n + cn ((l.map (·.f2)).take k) : Nat) : Int), 0) := by
  induction l with
  | nil => intro n k h; simp only [placeS] at h; omega
  | cons e l ih =>
    intro n k h
    have hrg := placeS_range l x
    simp only [placeS] at h
    simp only [gplS]
    by_cases hq : idq e.f0 x = true
    · rw [if_pos hq] at h
      obtain rfl : k = 0 := by omega
      have e3 : rd_T83 (e :: l) ((0 : Nat) : Int) = e := by unfold rd_T83; simp
      rw [if_pos hq, e3]
      rfl
    · rw [if_neg hq] at h ⊢
      by_cases hz : placeS l x < 0
      · rw [if_pos hz] at h; omega
      · rw [if_neg hz] at h
        obtain ⟨m, rfl⟩ : ∃ m, k = m + 1 := ⟨k - 1, by omega⟩
        have hm : m < l.length := by omega
        have e4 : rd_T83 (e :: l) ((m + 1 : Nat) : Int) = rd_T83 l (m : Int) := by
          have h1 : ((m : Nat) : Int) + 1 < (l.length : Int) + 1 := by omega
          have h2 : ((m : Nat) : Int) + 1 ≤ (l.length : Int) := by omega
          unfold rd_T83
          simp [hm]
        rw [ih _ m (by omega), e4, List.map_cons, List.take_succ_cons, cn_hd, cn_one]
theorem gpl_is (l : List S83) (x : S24) (ah : Bool) (hz : ∀ e ∈ l, idq e.f0 ⟨0, 0⟩ = false) : (if (idq x ⟨0, 0⟩ && !ah) = true then ((0 : Int), (0 : Int)) else gplS l x ah 0) = placeA l x ah := by
  unfold placeA
  have hrg := placeS_range l x
  cases h0 : idq x ⟨0, 0⟩ with
  | true =>
    have hx := (idq_iff _ _).1 h0
    have hp : placeS l x < 0 := by
      apply Decidable.byContradiction
      intro hc
      have hm := (place_iff l x).1 (by omega)
      obtain ⟨e, he, hee⟩ := List.mem_map.1 hm
      have := hz e he
      rw [hee, h0] at this
      cases this
    rw [if_pos rfl, gpl_out x ah l 0 hp, if_pos h0, Nat.zero_add]
    cases ah <;> rfl
  | false =>
    rw [Bool.false_and, if_neg (by decide), if_neg (by decide)]
    by_cases hp : placeS l x < 0
    · have hd : hasS l x = false := by unfold hasS; simp; omega
      rw [if_pos hd, gpl_out x ah l 0 hp, h0, if_neg (by decide)]
    · obtain ⟨k, hk⟩ : ∃ k : Nat, placeS l x = k := ⟨(placeS l x).toNat, by omega⟩
      have hd : hasS l x = true := by unfold hasS; simp; omega
      have ha : aliveS l x = (rd_T83 l (k : Int)).f2 := by unfold aliveS; rw [hk]; simp
      have hh : aheadS l x = ((cn ((l.map (·.f2)).take k) : Nat) : Int) := by unfold aheadS rankS; rw [hk, Int.toNat_natCast]
      rw [hd, if_neg (by decide), gpl_in x ah l 0 k hk, ha, hh, Nat.zero_add]
      cases ah <;> cases (rd_T83 l (k : Int)).f2 <;> rfl
end Go.Proofs.Ytefnpalkkhhkfaa.PC
namespace Go.Proofs.Ytefnpalkkhhkfaa.PC
open Go.RowKit Go.Proofs.YtefnpalkkhhkfaaW.PrintWords Go.Proofs.YtefnpalkkhhkfaaW.PrintLast Go.Proofs.YtefnpalkkhhkfaaW.PrintMore Go.Proofs.Ytefnpalkkhhkfaa.K Go.Proofs.Ytefnpalkkhhkfaa.IX Go.Proofs.Ytefnpalkkhhkfaa.I
attribute [local go_sem] max2_int min2_int max_two min_two max_three min_three max_four min_four
attribute [local go_sem high] eqA24
set_option linter.unusedVariables false
set_option linter.unusedSimpArgs false
theorem ref_w {w0 w : World} {q : Nat} {L : List S49} {B : As} (h : St w0 w (sep (isRef q L) B)) (hl : L.length ≤ 1000) : ∃ A c, RefW w q L A c := by
  obtain ⟨F, ⟨FA, FB, h1, _⟩, _⟩ := h
  obtain ⟨A, c, k1, k2, k3⟩ := ref_read h1
  exact ⟨A, c, k1, k3, k2, hl⟩
theorem at_cases (l : List S83) (hn : (l.map (·.f0)).Nodup) (k : Int) : (∃ j : Nat, k = j ∧ ∃ h : j < (aliveIds l).length, atS l k = ((aliveIds l)[j], true)) ∨ (atS l k = (z24, false) ∧ (k < 0 ∨ ((aliveIds l).length : Int) ≤ k)) := by
  by_cases h0 : k < 0
  · exact .inr ⟨at_out l k (.inl h0), .inl h0⟩
  · by_cases h1 : k.toNat < (aliveIds l).length
    · refine .inl ⟨k.toNat, by omega, h1, ?_⟩
      have := (places l hn k.toNat h1).1
      rw [show ((k.toNat : Nat) : Int) = k by omega] at this
      exact this
    · exact .inr ⟨at_out l k (.inr (by omega)), .inr (by omega)⟩
set_option maxHeartbeats 8000000 in
set_option maxRecDepth 100000 in
theorem gplace_calls (q : Nat) (L : List S49) (A : Option Addr) (cap : Nat) (F : Fo) (hF : F.flat.length ≤ 1000) (hr : rep L F) (ht : F.tops = kids zid L) (x0 x1 : Int) (ah : Bool) (w : World) (h : RefW w q L A cap) {r code : Int} (hz : ∀ e ∈ F.flat.map (toX L), idq e.f0 ⟨0, 0⟩ = false) (hp : placeA (F.flat.map (toX L)) ⟨x0, x1⟩ ah = (r, code)) :
    Calls Try.prog 12 #[.pointer (some ⟨q, 0, none⟩), .agg #[.int .i64 x0, .int .i64 x1, .bool ah]] w fun e w' => e = .returned (.tuple #[.int .i64 r, .int .i64 code]) ∧ Below w.heap.size w w' := by
  have K1 := Lib.hid (fun W (hb : Below w.heap.size w W) => Walk_calls q L A cap F hF hr ht W (h.below hb))
  have hl : (F.flat.map (toX L)).length ≤ 1000 := by rw [List.length_map]; exact hF
  clear hr ht h hF
  generalize F.flat.map (toX L) = l at *
  rw [← gpl_is _ _ _ hz] at hp
  have HXI := Lib.hid (fun y : S24 => idq_iff y ⟨x0, x1⟩)
  have hq0 : idq ⟨x0, x1⟩ ⟨0, 0⟩ = (x0 == 0 && x1 == 0) := rfl
  rw [hq0] at hp
  have HS := Lib.hid (show St w (w.alloc (.cells #[.int .i64 x0, .int .i64 x1, .bool ah] 26)) (sep (isBlk w.heap.size (anZ x0 x1 ah)) emp) from (St.emp w).mkblk asn_emp _)
  clear hz hq0
  by_cases h0 : ((x0 == 0 && x1 == 0) && !ah) = true
  · rw [if_pos h0] at hp
    injection hp with e1 e2
    subst e1 e2
    have hah : ah = false := by cases ah <;> simp at h0 ⊢
    subst hah
    have h00 : (x0 == 0 && x1 == 0) = true := by simpa using h0
    clear h0
    have HC := Lib.hid (fun W (hb : Below (w.alloc (.cells #[.int .i64 x0, .int .i64 x1, .bool false] 26)).heap.size (w.alloc (.cells #[.int .i64 x0, .int .i64 x1, .bool false] 26)) W) => (HS.out.below (asn_sep (asn_blk _ _) asn_emp) hb).an_cells)
    go_enter Try.func12, Try.ntmps12
    go_wp2_with (go_at_call 31; refine (K1.out _ HS.out.bel).mono ?_; rintro e w2 ⟨A6, n6, c6, rfl, hn6, hS⟩; obtain ⟨x0c, x1c, x2c, _⟩ := HC.out _ hS.bel; have HB2 := Lib.hid (below_step HS.out.bel hS.bel); clear hn6 hS)
    refine bodyPost_ret (results_tmp2 rfl _ _ _) rfl ⟨rfl, HB2.out⟩
  · rw [if_neg h0] at hp
    have hcs : (x0 == 0 && x1 == 0) = false ∨ ((x0 == 0 && x1 == 0) = true ∧ (!ah) = false) := by
      cases hq : (x0 == 0 && x1 == 0) with
      | false => exact .inl rfl
      | true => refine .inr ⟨rfl, ?_⟩; rw [hq] at h0; cases ah <;> simp at h0 ⊢
    have HP := Lib.hid hp
    clear h0 hp
    have HC := Lib.hid (fun W C (h : St w W (sep C (sep (isBlk w.heap.size (anZ x0 x1 ah)) emp))) => h.snd.an_cells)
    have AS := Lib.hid (fun A6 n6 c6 => show Asn (sep (isRow k83 64 (.slice A6 n6 c6) l) (sep (isBlk w.heap.size (anZ x0 x1 ah)) emp)) from asn_sep (asn_row _ _ _ _) (asn_sep (asn_blk _ _) asn_emp))
    have HSA := Lib.hid (fun W (h : Below (w.alloc (.cells #[.int .i64 x0, .int .i64 x1, .bool ah] 26)).heap.size (w.alloc (.cells #[.int .i64 x0, .int .i64 x1, .bool ah] 26)) W) A6 n6 c6 (hS : St (w.alloc (.cells #[.int .i64 x0, .int .i64 x1, .bool ah] 26)) W (sep (isRow k83 64 (.slice A6 n6 c6) l) emp)) => show St w W (sep (isRow k83 64 (.slice A6 n6 c6) l) (sep (isBlk w.heap.size (anZ x0 x1 ah)) emp)) from by
      obtain ⟨F2, ⟨FA, FB, h1, h2, rfl, hd⟩, hb, hn⟩ := hS
      exact HS.out.add (asn_sep (asn_blk _ _) asn_emp) hb h1 (fun k hk => hn k (by simp [hk])))
    have HXC := Lib.hid (fun W C (h : St w W (sep C (sep (isBlk w.heap.size (anZ x0 x1 ah)) emp))) => show W.cell? ⟨w.heap.size, 0, none⟩ = some (.int .i64 x0) ∧ W.cell? ⟨w.heap.size, 1, none⟩ = some (.int .i64 x1) ∧ W.cell? ⟨w.heap.size, 2, none⟩ = some (.bool ah) from ⟨(HC.out _ _ h).1, (HC.out _ _ h).2.1, (HC.out _ _ h).2.2.1⟩)
    rcases hcs with h00 | ⟨h00, hah⟩
    all_goals
      go_enter Try.func12, Try.ntmps12
      go_wp2_with (go_at_call 31; refine (K1.out _ HS.out.bel).mono ?_; rintro e w2 ⟨A6, n6, c6, rfl, hn6, hS⟩; have HL6 := Lib.hid hn6; rw [hn6] at hl; have HS2 := Lib.hid (HSA.out _ hS.bel _ _ _ hS); obtain ⟨x0c, x1c, x2c⟩ := HXC.out _ _ HS2.out; clear hn6 hS)
      go_loopg [7, 8] n6 (fun kq v7 v8 wr => ∃ (i n : Nat), v7 = .int .i64 (n : Int) ∧ v8 = .int .i64 (i : Int) ∧ Aside0 (kq + i = n6 ∧ n ≤ i ∧ gplS (l.drop i) ⟨x0, x1⟩ ah n = (r, code) ∧ St w wr (sep (isRow k83 64 (.slice A6 n6 c6) l) (sep (isBlk w.heap.size (anZ x0 x1 ah)) emp))))
      case atStart => exact ⟨0, 0, rfl, rfl, by omega, Nat.le_refl _, HP.out, HS2.out⟩
      case round =>
        obtain ⟨i, n, rfl, rfl, HI⟩ := hrel
        have hki := HI.out.1
        have hni := HI.out.2.1
        have HG := Lib.hid HI.out.2.2.1
        have HSI := Lib.hid HI.out.2.2.2
        obtain ⟨x0c, x1c, x2c⟩ := HXC.out _ _ HSI.out
        clear HI
        by_cases hlt : i < n6
        · have hil : i < l.length := by rw [HL6.out]; exact hlt
          have hd1 : decide (i < n6) = true := by simpa using hlt
          obtain ⟨ad, rfl, f0, f1, f2, f3⟩ := cell_el (HSI.out.later (Below.refl _ _)).2.2 (Below.refl _ _) i hil
          have hg := HG.out
          rw [List.drop_eq_getElem_cons hil] at hg
          have hqq := HXI.out l[i].f0
          generalize l[i] = e at *
          obtain ⟨⟨e0, e1⟩, e2, e3⟩ := e
          simp only at f0 f1 f2 f3 hqq
          have HAS := Lib.hid (AS.out (some ad) n6 c6)
          by_cases hq : idq ⟨e0, e1⟩ ⟨x0, x1⟩ = true
          · have he := hqq.1 hq
            injection he with h0 h1
            simp only [gplS] at hg
            rw [if_pos hq] at hg
            subst h0 h1
            cases ah with
            | true =>
              rw [Bool.not_true, Bool.false_and, if_neg (by decide)] at hg
              injection hg with g1 g2
              subst g1 g2
              clear hqq hq HXI HG
              go_wp2
              go_quiet (fail)
              go_wp2
              refine bodyPost_ret (results_tmp2 rfl _ _ _) rfl ⟨rfl, (HSI.out.drewN HAS.out _).bel⟩
            | false =>
              rw [Bool.not_false, Bool.true_and] at hg
              cases e3 with
              | true =>
                rw [if_pos rfl] at hg
                injection hg with g1 g2
                subst g1 g2
                clear hqq hq HXI HG
                have hwn : IntKind.i64.wrap ((n : Int) + 1) = (n : Int) + 1 := by rw [IntKind.wrap_i64]; omega
                go_wp2
                go_quiet (fail)
                go_wp2
                go_quiet (fail)
                go_wp2
                refine bodyPost_ret (results_tmp2 rfl _ _ _) rfl ⟨rfl, ((HSI.out.drewN HAS.out _).drewN HAS.out _).bel⟩
              | false =>
                rw [if_neg (by decide)] at hg
                injection hg with g1 g2
                subst g1 g2
                clear hqq hq HXI HG
                go_wp2
                go_quiet (fail)
                go_wp2
                go_quiet (fail)
                go_wp2
                refine bodyPost_ret (results_tmp2 rfl _ _ _) rfl ⟨rfl, ((HSI.out.drewN HAS.out _).drewN HAS.out _).bel⟩
          · have hq3 : (e0 == x0 && e1 == x1) = false := by simpa [idq] using hq
            have hg2 : gplS (l.drop (i + 1)) ⟨x0, x1⟩ ah (if e3 = true then n + 1 else n) = (r, code) := by
              rw [← hg]
              conv => rhs; simp only [gplS]
              rw [if_neg hq]
            have HG2 := Lib.hid hg2
            clear hg hqq hq hg2 HXI HG
            cases e3 with
            | true =>
              have hwn : IntKind.i64.wrap ((n : Int) + 1) = (n : Int) + 1 := by rw [IntKind.wrap_i64]; omega
              go_wp2
              go_quiet (fail)
              go_wp2
              go_quiet (fail)
              go_wp2
              go_roundg (n6 - (i + 1))
              case measure => omega
              case rel => exact ⟨i + 1, n + 1, by go_num, by go_num, by omega, by omega, HG2.out, HSI.out.drewN HAS.out _⟩
            | false =>
              go_wp2
              go_quiet (fail)
              go_wp2
              go_quiet (fail)
              go_wp2
              go_roundg (n6 - (i + 1))
              case measure => omega
              case rel => exact ⟨i + 1, n, rfl, by go_num, by omega, by omega, HG2.out, HSI.out.drewN HAS.out _⟩
        · obtain rfl : i = n6 := by omega
          have hd1 : decide (i < i) = false := by simp
          have hg := HG.out
          rw [List.drop_of_length_le (by rw [HL6.out]; exact Nat.le_refl _)] at hg
          simp only [gplS] at hg
          have hq0 : idq ⟨x0, x1⟩ ⟨0, 0⟩ = (x0 == 0 && x1 == 0) := rfl
          rw [hq0, h00] at hg
          simp only [if_true, if_false, Bool.false_eq_true] at hg
          injection hg with g1 g2
          subst g1 g2
          clear HG hq0
          go_wp2
          refine bodyPost_ret (results_tmp2 rfl _ _ _) rfl ⟨rfl, HSI.out.bel⟩
set_option maxHeartbeats 8000000 in
set_option maxRecDepth 100000 in
theorem ghold_calls (q : Nat) (T : TS) (F : Fo) (hI : Inv T F) (A : Option Addr) (cap : Nat) (hl : T.l.length ≤ 1000) (place : Int) (ahead : Bool) (w : World) (h : RefW w q T.ops A cap) {x0 x1 : Int} {ah : Bool} {code : Int} (hr : holdS T.l place ahead = ((⟨x0, x1⟩, ah), code)) :
    Calls Try.prog 14 #[.pointer (some ⟨q, 0, none⟩), .int .i64 place, .bool ahead] w fun e w' => e = .returned (.tuple #[.agg #[.int .i64 x0, .int .i64 x1, .bool ah], .int .i64 code]) ∧ Below w.heap.size w w' := by
  have hfl : F.flat.length ≤ 1000 := by
    have := congrArg List.length hI.l
    rw [List.length_map] at this
    omega
  have KG := Lib.hid (fun W (hb : Below w.heap.size w W) => gvis_calls q T.ops A cap F hfl hI.rep hI.tops W (h.below hb))
  rw [← hI.l] at KG
  have hnd : (T.l.map (·.f0)).Nodup := by rw [hI.lids]; exact hI.nodup
  have hcn := ids_cn T.l
  obtain ⟨nc, hnc⟩ : ∃ nc, cn (T.l.map (·.f2)) = nc := ⟨_, rfl⟩
  have hcl : nc ≤ 1000 := by have := cn_le (T.l.map (·.f2)); rw [List.length_map] at this; omega
  rw [hnc] at hcn
  have hac := at_cases T.l hnd (if ahead = true then place else place - 1)
  have HS0 := Lib.hid (show St w (w.alloc (.cells #[.int .i64 0, .int .i64 0, .bool false] 26)) (sep (isBlk w.heap.size (anZ 0 0 false)) emp) from (St.emp w).mkblk asn_emp _)
  have HV := Lib.hid (fun W (h : Below (w.alloc (.cells #[.int .i64 0, .int .i64 0, .bool false] 26)).heap.size (w.alloc (.cells #[.int .i64 0, .int .i64 0, .bool false] 26)) W) A1 n1 c1 A2 n2 c2 A3 n3 c3 (hS : St (w.alloc (.cells #[.int .i64 0, .int .i64 0, .bool false] 26)) W (sep (isRow (Kd.int .i32) 21 (.slice A1 n1 c1) (visS T.l)) (sep (isRow k24 24 (.slice A2 n2 c2) (aliveIds T.l)) (sep (isRow k24 24 (.slice A3 n3 c3) (T.l.map (·.f0))) emp)))) => show nc = n2 ∧ St w W (sep (isRow k24 24 (.slice A2 n2 c2) (aliveIds T.l)) (sep (isBlk w.heap.size (anZ 0 0 false)) emp)) from by
    have h2 := hS.snd.fst
    refine ⟨?_, ?_⟩
    · have := row_len hS.snd
      omega
    · obtain ⟨F2, h1, hb, hn⟩ := h2
      exact HS0.out.add (asn_sep (asn_blk _ _) asn_emp) hb h1 hn)
  obtain ⟨ids, hids⟩ : ∃ ids, aliveIds T.l = ids := ⟨_, rfl⟩
  rw [hids] at HV hcn hac KG
  have HCI := Lib.hid (fun W (A : Option Addr) c B (h : St w W (sep (isRow k24 24 (.slice A nc c) ids) B)) j (hj : j < ids.length) => cell_id (h.later (Below.refl _ _)).2.2 (Below.refl _ _) j hj)
  unfold holdS at hr
  rw [hnc] at hr
  clear hI hnd h hfl hids hnc hl
  by_cases h0 : place < 0 ∨ (nc : Int) < place
  · rw [if_pos h0] at hr
    injection hr with hr hr3
    injection hr with hr hr2
    injection hr with hr0 hr1
    subst hr0 hr1 hr2 hr3
    have HZ := Lib.hid (fun W C (h : St w W (sep C (sep (isBlk w.heap.size (anZ 0 0 false)) emp))) => h.snd.an_cells)
    have HF := Lib.hid (fun W C (h : St w W (sep C (sep (isBlk w.heap.size (anZ 0 0 false)) emp))) => h.snd.blk)
    have hex : decide (place < 0) = true ∨ (decide (place < 0) = false ∧ decide ((nc : Int) < place) = true) := by
      by_cases h1 : place < 0
      · exact .inl (by simpa using h1)
      · exact .inr ⟨by simpa using h1, by simp; omega⟩
    clear h0 hac
    rcases hex with hd1 | ⟨hd1, hd2⟩
    all_goals
      go_enter Try.func14, Try.ntmps14
      go_wp2_with (go_at_call 32; refine (KG.out _ HS0.out.bel).mono ?_; rintro e w2 ⟨A1, n1, c1, A2, n2, c2, A3, n3, c3, rfl, hS⟩; obtain ⟨hn2, hV⟩ := HV.out _ hS.bel _ _ _ _ _ _ _ _ _ hS; subst hn2; have HS2 := Lib.hid hV; obtain ⟨z0, z1, z2, zf⟩ := HZ.out _ _ hV; clear hS hV)
      have HF := Lib.hid (((HS2.out.snd.set1 asn_emp 0 (.int .i64 0)).set1 asn_emp 1 (.int .i64 0)).set1 asn_emp 2 (.bool false))
      refine bodyPost_ret (results_ct rfl _ _ w.heap.size 26 #[.int .i64 0, .int .i64 0, .bool false] (0, 0) _ rfl (HF.out.blk.trans rfl) Try.underlying26 rfl (by kernel_rfl)) rfl ⟨rfl, HF.out.bel⟩
  · rw [if_neg h0] at hr
    have hd1 : decide (place < 0) = false := by simp; omega
    have hd2 : decide ((nc : Int) < place) = false := by simp; omega
    have hw1 : IntKind.i64.wrap (place - 1) = place - 1 := by rw [IntKind.wrap_i64]; omega
    injection hr with hr hr3
    injection hr with hr hr2
    subst hr2 hr3
    rcases hac with ⟨j, hj, hjl, hat⟩ | ⟨hat, hout⟩
    · rw [hat] at hr
      have hr : ids[j] = ⟨x0, x1⟩ := hr
      have HCJ := Lib.hid (fun W (A : Option Addr) c B (h : St w W (sep (isRow k24 24 (.slice A nc c) ids) B)) => by
        have := HCI.out W A c B h j hjl
        rw [hr] at this
        exact this)
      have HROW := Lib.hid (fun W ad c B (h : St w W (sep (isRow k24 24 (.slice (some ad) nc c) ids) B)) => show W.cell? (ad.add (j * 2)) = some (.int .i64 x0) ∧ W.cell? ⟨(ad.add (j * 2)).block, (ad.add (j * 2)).off + 1, none⟩ = some (.int .i64 x1) from by
        obtain ⟨ad2, e, h0, h1⟩ := HCJ.out W _ c B h
        injection e with e
        subst e
        exact ⟨h0, h1⟩)
      have hjn : j < nc := by omega
      have hd3 : decide (j < nc) = true := by simpa using hjn
      clear hr hat HCI hcn h0
      cases ahead with
      | true =>
        rw [if_pos rfl] at hj
        subst hj
        have hd4 : decide (nc < j) = false := by simp; omega
        go_enter Try.func14, Try.ntmps14
        go_wp2_with (go_at_call 32; refine (KG.out _ HS0.out.bel).mono ?_; rintro e w2 ⟨A1, n1, c1, A2, n2, c2, A3, n3, c3, rfl, hS⟩; obtain ⟨hn2, hV⟩ := HV.out _ hS.bel _ _ _ _ _ _ _ _ _ hS; subst hn2; obtain ⟨ad, rfl, -, -⟩ := HCJ.out _ _ _ _ hV; have HS3 := Lib.hid (show St w (w2.alloc (.cells #[.int .i64 0, .int .i64 0, .bool true] 26)) (sep (isBlk w2.heap.size (anZ 0 0 true)) (sep (isRow k24 24 (.slice (some ad) nc c2) ids) (sep (isBlk w.heap.size (anZ 0 0 false)) emp))) from hV.mkblk (asn_sep (asn_row _ _ _ _) (asn_sep (asn_blk _ _) asn_emp)) _); have HS5 := Lib.hid (show St w (w2.alloc (.cells #[.int .i64 x0, .int .i64 x1, .bool true] 26)) (sep (isBlk w2.heap.size (anZ x0 x1 true)) (sep (isRow k24 24 (.slice (some ad) nc c2) ids) (sep (isBlk w.heap.size (anZ 0 0 false)) emp))) from hV.mkblk (asn_sep (asn_row _ _ _ _) (asn_sep (asn_blk _ _) asn_emp)) _); obtain ⟨i0, i1⟩ := HROW.out _ _ _ _ HS3.out.snd; obtain ⟨z0, z1, z2, zf⟩ := HS5.out.snd.snd.an_cells; clear hS hV)
        have HF := Lib.hid (((HS5.out.snd.snd.set1 asn_emp 0 (.int .i64 x0)).set1 asn_emp 1 (.int .i64 x1)).set1 asn_emp 2 (.bool true))
        refine bodyPost_ret (results_ct rfl _ _ w.heap.size 26 #[.int .i64 x0, .int .i64 x1, .bool true] (0, 0) _ rfl (HF.out.blk.trans rfl) Try.underlying26 rfl (by kernel_rfl)) rfl ⟨rfl, HF.out.bel⟩
      | false =>
        rw [if_neg (by decide)] at hj
        obtain rfl : place = (j : Int) + 1 := by omega
        have hw2 : IntKind.i64.wrap ((j : Int) + 1 - 1) = (j : Int) := by rw [IntKind.wrap_i64]; omega
        have hd4 : decide (0 < (j : Int) + 1) = true := decide_eq_true (by omega)
        go_enter Try.func14, Try.ntmps14
        go_wp2_with (go_at_call 32; refine (KG.out _ HS0.out.bel).mono ?_; rintro e w2 ⟨A1, n1, c1, A2, n2, c2, A3, n3, c3, rfl, hS⟩; obtain ⟨hn2, hV⟩ := HV.out _ hS.bel _ _ _ _ _ _ _ _ _ hS; subst hn2; obtain ⟨ad, rfl, -, -⟩ := HCJ.out _ _ _ _ hV; have HS3 := Lib.hid (show St w (w2.alloc (.cells #[.int .i64 0, .int .i64 0, .bool false] 26)) (sep (isBlk w2.heap.size (anZ 0 0 false)) (sep (isRow k24 24 (.slice (some ad) nc c2) ids) (sep (isBlk w.heap.size (anZ 0 0 false)) emp))) from hV.mkblk (asn_sep (asn_row _ _ _ _) (asn_sep (asn_blk _ _) asn_emp)) _); have HS5 := Lib.hid (show St w (w2.alloc (.cells #[.int .i64 x0, .int .i64 x1, .bool false] 26)) (sep (isBlk w2.heap.size (anZ x0 x1 false)) (sep (isRow k24 24 (.slice (some ad) nc c2) ids) (sep (isBlk w.heap.size (anZ 0 0 false)) emp))) from hV.mkblk (asn_sep (asn_row _ _ _ _) (asn_sep (asn_blk _ _) asn_emp)) _); obtain ⟨i0, i1⟩ := HROW.out _ _ _ _ HS3.out.snd; obtain ⟨z0, z1, z2, zf⟩ := HS5.out.snd.snd.an_cells; clear hS hV)
        have HF := Lib.hid (((HS5.out.snd.snd.set1 asn_emp 0 (.int .i64 x0)).set1 asn_emp 1 (.int .i64 x1)).set1 asn_emp 2 (.bool false))
        refine bodyPost_ret (results_ct rfl _ _ w.heap.size 26 #[.int .i64 x0, .int .i64 x1, .bool false] (0, 0) _ rfl (HF.out.blk.trans rfl) Try.underlying26 rfl (by kernel_rfl)) rfl ⟨rfl, HF.out.bel⟩
    · rw [hat] at hr
      have hr : (⟨0, 0⟩ : S24) = ⟨x0, x1⟩ := hr
      injection hr with hr0 hr1
      subst hr0 hr1
      clear hat HCI
      cases ahead with
      | true =>
        rw [if_pos rfl] at hout
        obtain rfl : place = (nc : Int) := by omega
        have hd4 : decide (nc < nc) = false := by simp
        go_enter Try.func14, Try.ntmps14
        go_wp2_with (go_at_call 32; refine (KG.out _ HS0.out.bel).mono ?_; rintro e w2 ⟨A1, n1, c1, A2, n2, c2, A3, n3, c3, rfl, hS⟩; obtain ⟨hn2, hV⟩ := HV.out _ hS.bel _ _ _ _ _ _ _ _ _ hS; subst hn2; have HS5 := Lib.hid (show St w (w2.alloc (.cells #[.int .i64 0, .int .i64 0, .bool true] 26)) (sep (isBlk w2.heap.size (anZ 0 0 true)) (sep (isRow k24 24 (.slice A2 nc c2) ids) (sep (isBlk w.heap.size (anZ 0 0 false)) emp))) from hV.mkblk (asn_sep (asn_row _ _ _ _) (asn_sep (asn_blk _ _) asn_emp)) _); obtain ⟨z0, z1, z2, zf⟩ := HS5.out.snd.snd.an_cells; clear hS hV)
        have HF := Lib.hid (((HS5.out.snd.snd.set1 asn_emp 0 (.int .i64 0)).set1 asn_emp 1 (.int .i64 0)).set1 asn_emp 2 (.bool true))
        refine bodyPost_ret (results_ct rfl _ _ w.heap.size 26 #[.int .i64 0, .int .i64 0, .bool true] (0, 0) _ rfl (HF.out.blk.trans rfl) Try.underlying26 rfl (by kernel_rfl)) rfl ⟨rfl, HF.out.bel⟩
      | false =>
        rw [if_neg (by decide)] at hout
        obtain rfl : place = 0 := by omega
        have hd4 : decide ((0 : Int) < 0) = false := by simp
        go_enter Try.func14, Try.ntmps14
        go_wp2_with (go_at_call 32; refine (KG.out _ HS0.out.bel).mono ?_; rintro e w2 ⟨A1, n1, c1, A2, n2, c2, A3, n3, c3, rfl, hS⟩; obtain ⟨hn2, hV⟩ := HV.out _ hS.bel _ _ _ _ _ _ _ _ _ hS; subst hn2; have HS5 := Lib.hid (show St w (w2.alloc (.cells #[.int .i64 0, .int .i64 0, .bool false] 26)) (sep (isBlk w2.heap.size (anZ 0 0 false)) (sep (isRow k24 24 (.slice A2 nc c2) ids) (sep (isBlk w.heap.size (anZ 0 0 false)) emp))) from hV.mkblk (asn_sep (asn_row _ _ _ _) (asn_sep (asn_blk _ _) asn_emp)) _); obtain ⟨z0, z1, z2, zf⟩ := HS5.out.snd.snd.an_cells; clear hS hV)
        have HF := Lib.hid (((HS5.out.snd.snd.set1 asn_emp 0 (.int .i64 0)).set1 asn_emp 1 (.int .i64 0)).set1 asn_emp 2 (.bool false))
        refine bodyPost_ret (results_ct rfl _ _ w.heap.size 26 #[.int .i64 0, .int .i64 0, .bool false] (0, 0) _ rfl (HF.out.blk.trans rfl) Try.underlying26 rfl (by kernel_rfl)) rfl ⟨rfl, HF.out.bel⟩
end Go.Proofs.Ytefnpalkkhhkfaa.PC
namespace Go.Proofs.Ytefnpalkkhhkfaa.PC
open Go.RowKit Go.Proofs.YtefnpalkkhhkfaaW.PrintWords Go.Proofs.YtefnpalkkhhkfaaW.PrintLast Go.Proofs.YtefnpalkkhhkfaaW.PrintMore Go.Proofs.Ytefnpalkkhhkfaa.K Go.Proofs.Ytefnpalkkhhkfaa.IX Go.Proofs.Ytefnpalkkhhkfaa.I
attribute [local go_sem] max2_int min2_int max_two min_two max_three min_three max_four min_four
attribute [local go_sem high] eqA24
set_option linter.unusedVariables false
set_option linter.unusedSimpArgs false
set_option maxHeartbeats 8000000 in
set_option maxRecDepth 100000 in
theorem tells18_row (A : Option Addr) (cap : Nat) (l : List S49) (a0 a1 : Int) (ab : Bool) (pl : Int) (ahd : Bool) (w : World) (hr : Kd.C k49 w A l.length l) (hc : l.length ≤ cap) (hy : l.length * 56 ≤ 140737488351232) (hg : ∀ y ∈ l, True) (hw1 : (Lit.int .i64 a0).wf = true) (hw2 : (Lit.int .i64 a1).wf = true) (hw : (Lit.int .i64 pl).wf = true) :
    Calls Try.prog 3 #[.slice A l.length cap, .agg #[.int .i64 a0, .int .i64 a1, .bool ab], .int .i64 pl, .bool ahd] w fun e w' => e = .returned (.bool true) ∧ Below w.heap.size w w' := by
  have HRD := Lib.hid hr
  obtain ⟨z, hz⟩ : ∃ z, w.heap.size = z := ⟨_, rfl⟩
  have HS0 := Lib.hid (show St w (w.alloc (.cells #[.int .i64 a0, .int .i64 a1, .bool ab] 26)) (sep (isBlk z (anZ a0 a1 ab)) emp) from hz ▸ (St.emp w).mkblk asn_emp _)
  have AZ := Lib.hid (show Asn (sep (isBlk z (anZ a0 a1 ab)) emp) from asn_sep (asn_blk _ _) asn_emp)
  have HSH := Lib.hid (fun W => shown18_calls W)
  have KM := Lib.hid (fun W (hb : Below w.heap.size w W) => made_calls W A cap l (Kd.C_below hr hb) hc (by omega))
  obtain ⟨len, hlen⟩ : ∃ len, l.length = len := ⟨_, rfl⟩
  rw [hlen] at KM hc hy ⊢
  clear hr hy hg hlen hw hw1 hw2
  go_enter Try.func3, Try.ntmps3
  go_wp2_with (go_at_call 9; refine (HSH.out _).mono ?_; rintro e w1 ⟨rfl, hb⟩; have HS1 := Lib.hid (HS0.out.below AZ.out hb); clear hb)
  refine (KM.out _ HS1.out.bel).mono ?_
  rintro e w2 ⟨p, q, T, F, rfl, hI, hol, hsub, hS⟩
  try rw [hz]
  clear hz
  have hll := hI.ll
  have HL := Lib.hid (show T.l.length ≤ 1000 by omega)
  have HZ := Lib.hid (show ∀ e ∈ T.l, idq e.f0 ⟨0, 0⟩ = false from fun e he => by
    rw [idq_no]
    intro e2
    have hm : e.f0 ∈ T.l.map (·.f0) := List.mem_map.2 ⟨_, he, rfl⟩
    rw [hI.lids, e2] at hm
    exact hI.zid_no hm)
  have AR := Lib.hid (asn_sep (asn_ref q T.ops) asn_emp)
  have APR := Lib.hid (asn_sep (asn_tx p T) AR.out)
  obtain ⟨AQ, cq, hq⟩ := ref_w hS.snd (by omega)
  obtain ⟨r, c, hp⟩ : ∃ r c, placeA T.l ⟨a0, a1⟩ ab = (r, c) := ⟨_, _, rfl⟩
  obtain ⟨x0, x1, ah, cd, hh⟩ : ∃ x0 x1 ah cd, holdS T.l pl ahd = ((⟨x0, x1⟩, ah), cd) := ⟨_, _, _, _, rfl⟩
  have hfl : F.flat.length ≤ 1000 := by
    have := congrArg List.length hI.l
    rw [List.length_map] at this
    omega
  have KP := Lib.hid (fun W (hb : Below w2.heap.size w2 W) => place_nm AR.out hS hb (by omega) a0 a1 ab hp)
  have KH := Lib.hid (fun W (hb : Below w2.heap.size w2 W) => hold_nm AR.out hS hb (by omega) pl ahd hh)
  have KGP := Lib.hid (fun W (hb : Below w2.heap.size w2 W) => gplace_calls q T.ops AQ cq F hfl hI.rep hI.tops a0 a1 ab W (hq.below hb) (hI.l ▸ HZ.out) (hI.l ▸ hp))
  have KGH := Lib.hid (fun W (hb : Below w2.heap.size w2 W) => ghold_calls q T F hI AQ cq HL.out pl ahd W (hq.below hb) hh)
  have HS2 := Lib.hid (HS1.out.below AZ.out hS.bel)
  obtain ⟨d0, d1, d2, _⟩ := HS2.out.an_cells
  clear hI hol hsub hS hll hq hp hh hfl
  go_wp2_with (go_at_call 11; have kk := KP.out _ (Below.refl _ _); with_reducible refine kk.mono ?_; clear kk; rintro e w3 ⟨rfl, hb⟩; have HB3 := Lib.hid hb; have HS3 := Lib.hid (HS2.out.below AZ.out hb); clear hb d0 d1 d2; obtain ⟨d0, d1, d2, _⟩ := HS3.out.an_cells)
  go_wp2_with (go_at_call 12; have kk := KGP.out _ HB3.out; with_reducible refine kk.mono ?_; clear kk; rintro e w4 ⟨rfl, hb⟩; have HB4 := Lib.hid (below_step HB3.out hb); have HS4 := Lib.hid (HS3.out.below AZ.out hb); clear hb d0 d1 d2)
  go_wp2_with (go_at_call 13; have kk := KH.out _ HB4.out; with_reducible refine kk.mono ?_; clear kk; rintro e w5 ⟨rfl, hb⟩; have HB5 := Lib.hid (show Below w2.heap.size w2 (w5.alloc (.cells #[.int .i64 x0, .int .i64 x1, .bool ah] 26)) from (below_step HB4.out hb).alloc (below_step HB4.out hb).size _); have HS5 := Lib.hid (show St w (w5.alloc (.cells #[.int .i64 x0, .int .i64 x1, .bool ah] 26)) (sep (isBlk w5.heap.size (anZ x0 x1 ah)) (sep (isBlk z (anZ a0 a1 ab)) emp)) from (HS4.out.below AZ.out hb).mkblk AZ.out _); clear hb)
  go_wp2_with (go_at_call 14; have kk := KGH.out _ HB5.out; with_reducible refine kk.mono ?_; clear kk; rintro e w6 ⟨rfl, hb⟩; have HS6 := Lib.hid (show St w (w6.alloc (.cells #[.int .i64 x0, .int .i64 x1, .bool ah] 26)) (sep (isBlk w6.heap.size (anZ x0 x1 ah)) (sep (isBlk w5.heap.size (anZ x0 x1 ah)) (sep (isBlk z (anZ a0 a1 ab)) emp))) from (HS5.out.below (asn_sep (asn_blk _ _) AZ.out) hb).mkblk (asn_sep (asn_blk _ _) AZ.out) _); obtain ⟨e0, e1, e2, _⟩ := HS6.out.snd.an_cells; clear hb)
  go_ret
  exact ⟨rfl, HS6.out.bel⟩
end Go.Proofs.Ytefnpalkkhhkfaa.PC
