/- A part of the proof of cursorStays_holds: its texts, one behind the other, as far as the proof stands on them. (Lines of its texts on the printed words and functions began as lines that a program of the kit had written for this statement.) -/
import Derived.ArgAppend
import Derived.Below
import Derived.BigQuiet
import Derived.BigRegion
import Derived.ChangeMaps4
import Derived.ChangeMaps5
import Derived.Deep.AppendLies
import Derived.Deep.CutBlock
import Derived.Deep.CutRange
import Derived.Deep.DeepCutAuto
import Derived.Deep.DrawnRows
import Derived.Deep.Draws
import Derived.Deep.LoopGhost
import Derived.Deep.OwnRows
import Derived.Deep.QuietTactic
import Derived.Deep.RegionHeld3
import Derived.Deep.RegionLaw
import Derived.Deep.RegionWith
import Derived.KernelRfl
import Derived.Laws.BitsLemmas
import Derived.Laws.BytesArg
import Derived.Laws.CopyRow
import Derived.Laws.Cover4
import Derived.Laws.Externs
import Derived.Laws.IdiomCopy
import Derived.Laws.MakeOwn
import Derived.Laws.NewBlocks
import Derived.Laws.OwnMore
import Derived.Laws.Rows
import Derived.Laws.Slices
import Derived.Laws.StructEq
import Derived.Lib.AppendStr
import Derived.Lib.AppendZeros
import Derived.Lib.AppendZerosOnto
import Derived.Lib.ConvBytes
import Derived.Lib.Hide
import Derived.Lib.JoinLaws
import Derived.Lib.Overlaps
import Derived.Lib.Walk
import Derived.MapKept
import Derived.Maps.AppendAt
import Derived.OrdersHeld
import Derived.OwnWalk
import Derived.RegionTactic
import Derived.RowKit
import Derived.RowKit3
import Derived.StillTail
import Derived.StillTailTactics
import Derived.Tactics
import Derived.Test.YtefnpalkkhhkfaaProg
import Derived.WalkKit
import Derived.WalkSpells
import Derived.WideLaws
import Derived.Test.YtefnpalkkhhkfaaBF1
namespace Go.Proofs.Ytefnpalkkhhkfaa.PC
open Go.RowKit Go.Proofs.YtefnpalkkhhkfaaW.PrintWords Go.Proofs.YtefnpalkkhhkfaaW.PrintLast Go.Proofs.YtefnpalkkhhkfaaW.PrintMore Go.Proofs.Ytefnpalkkhhkfaa.K Go.Proofs.Ytefnpalkkhhkfaa.IX Go.Proofs.Ytefnpalkkhhkfaa.I
attribute [local go_sem] max2_int min2_int max_two min_two max_three min_three max_four min_four
attribute [local go_sem high] eqA24
set_option linter.unusedVariables false
set_option linter.unusedSimpArgs false
set_option maxHeartbeats 8000000 in
set_option maxRecDepth 100000 in
theorem made_calls (w : World) (A : Option Addr) (cap : Nat) (l : List S49) (hr : Kd.C k49 w A l.length l) (hc : l.length ≤ cap) (hl : l.length ≤ 140737488351232) :
    Calls Try.prog 10 #[.slice A l.length cap] w fun e w' => ∃ p q T F, e = .returned (.tuple #[.pointer (some ⟨p, 0, none⟩), .pointer (some ⟨q, 0, none⟩)]) ∧ Inv T F ∧ T.ops.length ≤ 30 ∧ (∀ x ∈ T.ops, x ∈ l) ∧ St w w' (sep (isTx p T) (sep (isRef q T.ops) emp)) := by
  have HRD := Lib.hid hr
  obtain ⟨len, hlen⟩ : ∃ len, l.length = len := ⟨_, rfl⟩
  have HLEN := Lib.hid hlen
  rw [hlen] at hc hl
  obtain ⟨N, hN⟩ : ∃ N, min len 30 = N := ⟨_, rfl⟩
  have hN1 : N ≤ len := by omega
  have hN2 : N ≤ 30 := by omega
  have HN3 := Lib.hid (show len ≤ N ∨ N = 30 by omega)
  rw [hlen]
  clear hr hN hlen
  go_enter Try.func10, Try.ntmps10
  go_wp2_with (go_at_call 27; refine (new_st asn_emp (St.emp w)).mono ?_; rintro e w2 ⟨p, rfl, hS⟩; have HS := Lib.hid (hS.mkref (asn_sep (asn_tx _ _) asn_emp)).turn; clear hS)
  obtain ⟨q, hq⟩ : ∃ q, w2.heap.size = q := ⟨_, rfl⟩
  rw [hq] at HS
  try rw [hq]
  clear hq
  go_loopg [6] N (fun kq v6 wr => ∃ (i : Nat), v6 = .int .i64 (i : Int) ∧ Aside0 (kq + i = N ∧ ∃ T F, Inv T F ∧ T.ops.length ≤ i ∧ (∀ x ∈ T.ops, x ∈ l) ∧ St w wr (sep (isTx p T) (sep (isRef q T.ops) emp))))
  case atStart => exact ⟨0, rfl, by omega, T0, _, inv0, Nat.le_refl _, fun x hx => (by cases hx), HS.out⟩
  case round =>
    obtain ⟨i, rfl, HI⟩ := hrel
    have hki := HI.out.1
    obtain ⟨T, Fo', hI, hol, hsub, hS⟩ := HI.out.2
    by_cases hlt : i < N
    · have hil : i < l.length := by rw [HLEN.out]; omega
      obtain ⟨ad, rfl, -⟩ := cell_op HRD.out hS.bel i hil
      have HC := Lib.hid (fun W (hb : Below w.heap.size w W) => show W.cell? (ad.add (i * 7)) = some (.int .i64 l[i].f0.f0) ∧ W.cell? ⟨(ad.add (i * 7)).block, (ad.add (i * 7)).off + 1, none⟩ = some (.int .i64 l[i].f0.f1) ∧ W.cell? ⟨(ad.add (i * 7)).block, (ad.add (i * 7)).off + 2, none⟩ = some (.int .i64 l[i].f1) ∧ W.cell? ⟨(ad.add (i * 7)).block, (ad.add (i * 7)).off + 3, none⟩ = some (.bool l[i].f2) ∧ W.cell? ⟨(ad.add (i * 7)).block, (ad.add (i * 7)).off + 4, none⟩ = some (.int .i64 l[i].f3.f0) ∧ W.cell? ⟨(ad.add (i * 7)).block, (ad.add (i * 7)).off + 5, none⟩ = some (.int .i64 l[i].f3.f1) ∧ W.cell? ⟨(ad.add (i * 7)).block, (ad.add (i * 7)).off + 6, none⟩ = some (.int .i32 l[i].f4) from by
        obtain ⟨ad2, e2, c⟩ := cell_op HRD.out hb i hil
        injection e2 with e2
        subst e2
        exact c)
      have hmem : l[i] ∈ l := List.getElem_mem hil
      generalize l[i] = o at HC hmem
      have hd1 : decide (i < len) = true := by simp; omega
      have hd2 : decide ((i : Int) < 30) = true := by simp; omega
      have hps := hI.put_same o
      obtain ⟨⟨⟨rb, re⟩, T'⟩, hp⟩ : ∃ x, putT T o = x := ⟨_, rfl⟩
      obtain ⟨F', hI'⟩ := inv_put hI o
      have hln := putT_len T o
      have hsub2 : ∀ x ∈ (putT T o).2.ops, x ∈ l := by
        rw [hps.2]
        intro x hx
        unfold putR at hx
        cases hq : refR T.ops o with
        | some e => rw [hq] at hx; exact hsub x hx
        | none =>
          rw [hq] at hx
          rcases List.mem_append.1 hx with h | h
          · exact hsub x h
          · rw [List.mem_singleton.1 h]; exact hmem
      rw [hp] at hps hI' hln hsub2
      obtain ⟨hps1, hps2⟩ := hps
      simp only at hps1 hps2 hI' hln hsub2
      have KP := Lib.hid (fun W B (b : Asn B) (h : St w W (sep (isTx p T) B)) => put_named hp hI (by omega) b h)
      have KG := Lib.hid (show ∀ W B, Asn B → St w W (sep (isRef q T.ops) B) → Calls Try.prog 28 #[.pointer (some ⟨q, 0, none⟩), opV o] W fun e w' => e = .returned (.tuple #[.bool rb, .int .i64 re]) ∧ St w w' (sep (isRef q T'.ops) B) from fun W B b h => by
        have := gput_st b h (by omega) o
        rw [← hps1, ← hps2] at this
        exact this)
      have HNX := Lib.hid (show ∀ W, St w W (sep (isTx p T') (sep (isRef q T'.ops) emp)) → ∃ T F, Inv T F ∧ T.ops.length ≤ i + 1 ∧ (∀ x ∈ T.ops, x ∈ l) ∧ St w W (sep (isTx p T) (sep (isRef q T.ops) emp)) from fun W h => ⟨T', F', hI', by omega, hsub2, h⟩)
      have HS0' := Lib.hid hS
      have HC1 := Lib.hid (fun W B (h : St w W B) => HC.out W h.bel)
      obtain ⟨c0, c1, c2, c3, c4, c5, c6⟩ := HC.out _ hS.bel
      unfold opV at KP KG
      obtain ⟨⟨o0, o1⟩, o2, o3, ⟨o4, o5⟩, o6⟩ := o
      simp only at HC HC1 KP KG c0 c1 c2 c3 c4 c5 c6
      clear hI hS hol hp hps1 hps2 hln hI' HI hsub hsub2 hmem
      go_wp2_with (first
        | (go_at_call 24; with_reducible refine (KP.out _ _ (asn_sep (asn_ref _ _) asn_emp) HS0'.out).mono ?_; rintro e w5 ⟨rfl, hS5⟩; have HS5 := Lib.hid hS5.turn; clear hS5 c0 c1 c2 c3 c4 c5 c6; obtain ⟨c0, c1, c2, c3, c4, c5, c6⟩ := HC1.out _ _ HS5.out)
        | (go_at_call 28; with_reducible refine (KG.out _ _ (asn_sep (asn_tx _ _) asn_emp) HS5.out).mono ?_; rintro e w6 ⟨rfl, hS6⟩; have HS6 := Lib.hid hS6.turn; clear hS6 c0 c1 c2 c3 c4 c5 c6))
      go_roundg (N - (i + 1))
      case measure => omega
      case rel => exact ⟨i + 1, by go_num, by omega, HNX.out _ HS6.out⟩
    · obtain rfl : i = N := by omega
      have hex : (decide (i < len) = true ∧ decide ((i : Int) < 30) = false) ∨ decide (i < len) = false := by
        by_cases h3 : i < len
        · rcases HN3.out with k | k
          · omega
          · exact .inl ⟨by simpa using h3, by simp; omega⟩
        · exact .inr (by simpa using h3)
      have HF := Lib.hid (show ∃ T F, Inv T F ∧ T.ops.length ≤ 30 ∧ (∀ x ∈ T.ops, x ∈ l) ∧ St w wr (sep (isTx p T) (sep (isRef q T.ops) emp)) from ⟨T, Fo', hI, by omega, hsub, hS⟩)
      clear hI hS hol HI hsub
      rcases hex with ⟨hd1, hd2⟩ | hd1
      all_goals
        go_wp2
        go_ret2
        obtain ⟨T9, F9, h1, h2, h3, h4⟩ := HF.out
        exact ⟨_, _, T9, F9, rfl, h1, h2, h3, h4⟩
end Go.Proofs.Ytefnpalkkhhkfaa.PC
namespace Go.Proofs.Ytefnpalkkhhkfaa.PC
open Go.RowKit Go.Proofs.YtefnpalkkhhkfaaW.PrintWords Go.Proofs.YtefnpalkkhhkfaaW.PrintLast Go.Proofs.YtefnpalkkhhkfaaW.PrintMore Go.Proofs.Ytefnpalkkhhkfaa.K Go.Proofs.Ytefnpalkkhhkfaa.IX Go.Proofs.Ytefnpalkkhhkfaa.I
attribute [local go_sem] max2_int min2_int max_two min_two max_three min_three max_four min_four
attribute [local go_sem high] eqA24
set_option linter.unusedVariables false
set_option linter.unusedSimpArgs false
theorem alive_hasS {l : List S83} {x : S24} (h : aliveS l x = true) : hasS l x = true := by
  unfold aliveS at h
  unfold hasS
  rw [Bool.and_eq_true] at h
  exact h.1
/-- An element that is alive, and its place. -/
theorem place_alive {T : TS} {F : Fo} (h : Inv T F) (j : Nat) (hj : j < (aliveIds T.l).length) (ah : Bool) : placeA T.l (aliveIds T.l)[j] ah = (if ah = true then (j : Int) else (j : Int) + 1, 0) ∧ idq (aliveIds T.l)[j] ⟨0, 0⟩ = false := by
  obtain ⟨p1, p2, p3⟩ := places T.l (by rw [h.lids]; exact h.nodup) j hj
  have hz : idq (aliveIds T.l)[j] ⟨0, 0⟩ = false := by
    rw [idq_no]
    intro e
    have hm := aliveIds_mem T.l _ (List.getElem_mem hj)
    rw [h.lids, e] at hm
    exact h.zid_no hm
  refine ⟨?_, hz⟩
  unfold placeA
  rw [if_neg (by rw [hz]; decide), alive_hasS p3, if_neg (by decide), p3, p2]
  cases ah <;> simp
theorem back_law {T : TS} {F : Fo} (h : Inv T F) (i : Nat) (hi : i ≤ cn (T.l.map (·.f2))) (ah : Bool) : ∃ x : S24, holdS T.l (i : Int) ah = ((x, ah), 0) ∧ placeA T.l x ah = ((i : Int), 0) := by
  have hm := ids_cn T.l
  have hh : ∀ y is, atS T.l (if ah = true then (i : Int) else (i : Int) - 1) = (y, is) → holdS T.l (i : Int) ah = ((y, ah), 0) := fun y is he => by
    unfold holdS
    rw [if_neg (by omega), he]
  have hzero : ∀ is, atS T.l (if ah = true then (i : Int) else (i : Int) - 1) = (z24, is) → placeA T.l ⟨0, 0⟩ ah = ((i : Int), 0) → ∃ x : S24, holdS T.l (i : Int) ah = ((x, ah), 0) ∧ placeA T.l x ah = ((i : Int), 0) := fun is he hp => ⟨⟨0, 0⟩, hh _ _ he, hp⟩
  have hz0 : placeA T.l ⟨0, 0⟩ ah = (if ah = true then ((cn (T.l.map (·.f2)) : Int), 0) else (0, 0)) := by
    unfold placeA
    rw [if_pos ((idq_iff _ _).2 rfl)]
  cases ah with
  | true =>
    by_cases hl : i < (aliveIds T.l).length
    · obtain ⟨p1, p2⟩ := place_alive h i hl true
      refine ⟨(aliveIds T.l)[i], hh _ true ?_, by rw [p1]; rfl⟩
      exact (places T.l (by rw [h.lids]; exact h.nodup) i hl).1
    · refine hzero false (at_out T.l i (.inr (by simp; omega))) ?_
      rw [hz0, if_pos rfl]
      rw [show cn (T.l.map (·.f2)) = i by omega]
  | false =>
    by_cases hl : 0 < i
    · obtain ⟨j, rfl⟩ : ∃ j, i = j + 1 := ⟨i - 1, by omega⟩
      have hj : j < (aliveIds T.l).length := by omega
      obtain ⟨p1, p2⟩ := place_alive h j hj false
      refine ⟨(aliveIds T.l)[j], hh _ true ?_, by rw [p1]; rfl⟩
      rw [if_neg (by decide), show ((j + 1 : Nat) : Int) - 1 = (j : Int) by omega]
      exact (places T.l (by rw [h.lids]; exact h.nodup) j hj).1
    · obtain rfl : i = 0 := by omega
      refine hzero false (at_out T.l _ (.inl (by decide))) ?_
      rw [hz0, if_neg (by decide)]
      rfl
end Go.Proofs.Ytefnpalkkhhkfaa.PC
namespace Go.Proofs.Ytefnpalkkhhkfaa.PC
open Go.RowKit Go.Proofs.YtefnpalkkhhkfaaW.PrintWords Go.Proofs.Ytefnpalkkhhkfaa.K Go.Proofs.Ytefnpalkkhhkfaa.IX Go.Proofs.Ytefnpalkkhhkfaa.I
set_option linter.unusedVariables false
set_option linter.unusedSimpArgs false
theorem cn_take_mono (ms : List Bool) (i k : Nat) (h : i ≤ k) : cn (ms.take i) ≤ cn (ms.take k) := by
  have e : ms.take i = (ms.take k).take i := by rw [List.take_take, Nat.min_eq_left h]
  have e2 := List.take_append_drop i (ms.take k)
  have e3 := congrArg cn e2
  rw [cn_app] at e3
  rw [e]
  omega
structure GoneC (T : TS) (i : Nat) (x : S24) (T' : TS) : Prop where
  put : putT T (gOne T.top x 4194303) = ((true, 0), T')
  inv : ∃ F, Inv T' F
  len : cn (T'.l.map (·.f2)) + 1 = cn (T.l.map (·.f2))
  at_ : placeA T'.l x false = ((i : Int), 0)
  next : ∀ y, holdS T.l ((i : Int) + 1) true = ((y, true), 0) → placeA T'.l y true = ((i : Int), 0)
end Go.Proofs.Ytefnpalkkhhkfaa.PC
namespace Go.Proofs.Ytefnpalkkhhkfaa.PC
open Go.RowKit Go.Proofs.YtefnpalkkhhkfaaW.PrintWords Go.Proofs.Ytefnpalkkhhkfaa.K Go.Proofs.Ytefnpalkkhhkfaa.IX Go.Proofs.Ytefnpalkkhhkfaa.I
set_option linter.unusedVariables false
set_option linter.unusedSimpArgs false
theorem find_mem (a : List S24) (x : S24) (h : x ∈ a) : 0 ≤ findS a x := by
  induction a with
  | nil => cases h
  | cons e a ih =>
    simp only [findS]
    split
    · omega
    · rename_i hq
      rcases List.mem_cons.1 h with e1 | e1
      · exact absurd ((idq_iff _ _).2 e1.symm) hq
      · have := ih e1
        rw [if_neg (by omega)]
        omega
theorem find_hd (a : List S24) (e : S24) : findS (e :: a) e = 0 := by
  simp only [findS]
  rw [if_pos ((idq_iff _ _).2 rfl)]
theorem find_tl (a : List S24) (e x : S24) (hn : e ≠ x) (h : x ∈ a) : findS (e :: a) x = findS a x + 1 := by
  have := find_mem a x h
  simp only [findS]
  rw [if_neg (fun q => hn ((idq_iff _ _).1 q)), if_neg (by omega)]
theorem find_inj (a : List S24) (x y : S24) (hx : x ∈ a) (hy : y ∈ a) (h : findS a y = findS a x) : y = x := by
  induction a with
  | nil => cases hx
  | cons e a ih =>
    by_cases e1 : e = x
    · subst e1
      by_cases e2 : e = y
      · exact e2.symm
      · have hy2 : y ∈ a := (List.mem_cons.1 hy).resolve_left (fun q => e2 q.symm)
        have := find_mem a y hy2
        rw [find_hd, find_tl a e y e2 hy2] at h
        omega
    · have hx2 : x ∈ a := (List.mem_cons.1 hx).resolve_left (fun q => e1 q.symm)
      have := find_mem a x hx2
      by_cases e2 : e = y
      · subst e2
        rw [find_hd, find_tl a e x e1 hx2] at h
        omega
      · have hy2 : y ∈ a := (List.mem_cons.1 hy).resolve_left (fun q => e2 q.symm)
        rw [find_tl a e x e1 hx2, find_tl a e y e2 hy2] at h
        exact ih hx2 hy2 (by omega)
theorem find_lt {a b : List S24} (hs : a.Sublist b) (hb : b.Nodup) (x y : S24) (hx : x ∈ a) (hy : y ∈ a) (h : findS a y < findS a x) : findS b y < findS b x := by
  induction hs with
  | slnil => cases hx
  | @cons a b z hs ih =>
    have hn := List.nodup_cons.1 hb
    have hxb := hs.subset hx
    have hyb := hs.subset hy
    rw [find_tl b z x (fun q => hn.1 (q ▸ hxb)) hxb, find_tl b z y (fun q => hn.1 (q ▸ hyb)) hyb]
    have := ih hn.2 hx hy h
    omega
  | @cons_cons a b z hs ih =>
    have hn := List.nodup_cons.1 hb
    by_cases e1 : z = x
    · subst e1
      have := find_mem _ _ hy
      rw [find_hd] at h
      omega
    · have hx2 : x ∈ a := (List.mem_cons.1 hx).resolve_left (fun q => e1 q.symm)
      have hxb := hs.subset hx2
      have h0 := find_mem b x hxb
      by_cases e2 : z = y
      · subst e2
        rw [find_hd, find_tl b z x e1 hxb]
        omega
      · have hy2 : y ∈ a := (List.mem_cons.1 hy).resolve_left (fun q => e2 q.symm)
        have hyb := hs.subset hy2
        rw [find_tl a z x e1 hx2, find_tl a z y e2 hy2] at h
        rw [find_tl b z x e1 hxb, find_tl b z y e2 hyb]
        have := ih hn.2 hx2 hy2 (by omega)
        omega
theorem place_lt {l l' : List S83} (hs : (l.map (·.f0)).Sublist (l'.map (·.f0))) (hb : (l'.map (·.f0)).Nodup) (x y : S24) (hx : x ∈ l.map (·.f0)) (hy : y ∈ l.map (·.f0)) : placeS l y < placeS l x ↔ placeS l' y < placeS l' x := by
  rw [← find_place, ← find_place, ← find_place, ← find_place]
  constructor
  · exact find_lt hs hb x y hx hy
  · intro h
    apply Decidable.byContradiction
    intro hc
    by_cases he : findS (l.map (·.f0)) y = findS (l.map (·.f0)) x
    · have := find_inj _ x y hx hy he
      subst this
      omega
    · have := find_lt hs hb y x hy hx (by omega)
      omega
theorem place_get (l : List S83) (x : S24) (hx : x ∈ l.map (·.f0)) : ∃ (k : Nat) (h : k < l.length), placeS l x = k ∧ l[k].f0 = x := by
  induction l with
  | nil => cases hx
  | cons e l ih =>
    simp only [placeS]
    by_cases hq : idq e.f0 x = true
    · exact ⟨0, by simp, by rw [if_pos hq]; rfl, (idq_iff _ _).1 hq⟩
    · have hx2 : x ∈ l.map (·.f0) := by
        rw [List.map_cons] at hx
        exact (List.mem_cons.1 hx).resolve_left (fun q => hq ((idq_iff _ _).2 q.symm))
      obtain ⟨k, h, h1, h2⟩ := ih hx2
      refine ⟨k + 1, by simp; omega, ?_, h2⟩
      rw [if_neg hq, h1, if_neg (by omega)]
      rfl
theorem alive_get {l : List S83} {x : S24} {k : Nat} (h : k < l.length) (hp : placeS l x = k) : aliveS l x = l[k].f2 := by
  have hrd : rd_T83 l (k : Int) = l[k] := by unfold rd_T83; simp [h]
  unfold aliveS
  rw [hp, hrd]
  simp
theorem cn_step (ms : List Bool) (k : Nat) (h : k < ms.length) : cn (ms.take (k + 1)) = cn (ms.take k) + (if ms[k] = true then 1 else 0) := by
  rw [List.take_add_one, List.getElem?_eq_getElem h, cn_app]
  cases ms[k] <;> rfl
/-- What is alive is ahead of an element, or not, as its place is. -/
theorem rank_lt (l : List S83) (x y : S24) (hx : x ∈ l.map (·.f0)) (hy : y ∈ l.map (·.f0)) (ha : aliveS l y = true) : (aheadS l y < aheadS l x ↔ placeS l y < placeS l x) ∧ (aheadS l y < aheadS l x + (if aliveS l x = true then 1 else 0) ↔ placeS l y ≤ placeS l x) := by
  obtain ⟨P, hP, p1, p2⟩ := place_get l x hx
  obtain ⟨Y, hY, y1, y2⟩ := place_get l y hy
  rw [alive_get hY y1] at ha
  rw [alive_get hP p1]
  unfold aheadS rankS
  rw [p1, y1, Int.toNat_natCast, Int.toNat_natCast]
  have s1 := cn_step (l.map (·.f2)) P (by rw [List.length_map]; exact hP)
  have s2 := cn_step (l.map (·.f2)) Y (by rw [List.length_map]; exact hY)
  rw [List.getElem_map] at s1 s2
  rw [ha, if_pos rfl] at s2
  have m1 := cn_take_mono (l.map (·.f2)) (Y + 1) P
  have m2 := cn_take_mono (l.map (·.f2)) (P + 1) Y
  by_cases hc : Y < P
  · have := m1 (by omega)
    constructor
    · constructor <;> intro _ <;> omega
    · constructor
      · intro _; omega
      · intro _; split <;> omega
  · by_cases he : Y = P
    · subst he
      rw [ha, if_pos rfl]
      constructor
      · constructor <;> intro _ <;> omega
      · constructor <;> intro _ <;> omega
    · have := m2 (by omega)
      constructor
      · constructor
        · intro _
          by_cases hf : l[P].f2 = true
          · rw [if_pos hf] at s1; omega
          · rw [if_neg hf] at s1; omega
        · intro _; omega
      · by_cases hf : l[P].f2 = true
        · rw [if_pos hf] at s1 ⊢
          constructor <;> intro _ <;> omega
        · rw [if_neg hf] at s1 ⊢
          constructor <;> intro _ <;> omega
theorem alive_at {l : List S83} (hn : (l.map (·.f0)).Nodup) {x : S24} (h : aliveS l x = true) : ∃ (q : Nat) (hq : q < (aliveIds l).length), (aliveIds l)[q] = x ∧ aheadS l x = q := by
  have hx : x ∈ l.map (·.f0) := (place_iff l x).1 (by unfold aliveS at h; rw [Bool.and_eq_true] at h; simpa using h.1)
  obtain ⟨P, hP, p1, p2⟩ := place_get l x hx
  rw [alive_get hP p1] at h
  have hm : x ∈ aliveIds l := by
    unfold aliveIds idsS
    exact List.mem_map.2 ⟨l[P], List.mem_filter.2 ⟨List.getElem_mem hP, h⟩, p2⟩
  obtain ⟨q, hq, e⟩ := List.getElem_of_mem hm
  refine ⟨q, hq, e, ?_⟩
  rw [← e]
  exact (places l hn q hq).2.1
theorem gone_ids' (l : List S83) (i : Nat) : (goneS l i).map (·.f0) = l.map (·.f0) := by
  by_cases h : i < l.length
  · exact gone_ids l i h
  · unfold goneS
    rw [List.modify_eq_self (by omega)]
theorem put_sub (T : TS) (o : S49) : (T.l.map (·.f0)).Sublist ((putT T o).2.l.map (·.f0)) := by
  unfold putT
  cases refS T o with
  | some e => exact List.Sublist.refl _
  | none =>
    show (T.l.map (·.f0)).Sublist ((takeS T o).l.map (·.f0))
    unfold takeS
    by_cases hi : o.f2 = true
    · simp only [hi, if_true]
      unfold insT
      generalize skT T.l (placeS T.l o.f3 + 1).toNat o = n
      rw [List.map_append, List.map_append, List.append_assoc]
      conv => lhs; rw [← List.take_append_drop n T.l, List.map_append]
      exact (List.Sublist.refl _).append (List.sublist_append_right _ _)
    · simp only [hi, Bool.false_eq_true, if_false]
      rw [gone_ids']
      exact List.Sublist.refl _
/-- What CursorStays compares, of a text and of what it came to. -/
structure StayL (l l' : List S83) (i : Nat) (ah : Bool) (p : Nat) : Prop where
  le : p ≤ (aliveIds l').length
  order : ∀ j k (hj : j < (aliveIds l').length) (hk : k < (aliveIds l).length), (aliveIds l')[j] = (aliveIds l)[k] → (k < i ↔ j < p)
  behind : ah = false → ∀ m (hm : m < (aliveIds l).length), i = m + 1 → aliveS l' (aliveIds l)[m] = true → ∃ (q : Nat) (hq : q < (aliveIds l').length), p = q + 1 ∧ (aliveIds l')[q] = (aliveIds l)[m]
  ahead : ah = true → ∀ (hm : i < (aliveIds l).length), aliveS l' (aliveIds l)[i] = true → ∃ (hq : p < (aliveIds l').length), (aliveIds l')[p] = (aliveIds l)[i]
theorem stays_law {T T' : TS} {F F' : Fo} (h : Inv T F) (h' : Inv T' F') (hs : (T.l.map (·.f0)).Sublist (T'.l.map (·.f0))) (i : Nat) (hi : i ≤ (aliveIds T.l).length) (ah : Bool) (x : S24) (hx : holdS T.l (i : Int) ah = ((x, ah), 0)) : ∃ p : Nat, placeA T'.l x ah = ((p : Int), 0) ∧ StayL T.l T'.l i ah p := by
  have hn : (T.l.map (·.f0)).Nodup := by rw [h.lids]; exact h.nodup
  have hn' : (T'.l.map (·.f0)).Nodup := by rw [h'.lids]; exact h'.nodup
  have hcn := ids_cn T.l
  have hcn' := ids_cn T'.l
  have hxa : x = (atS T.l (if ah = true then (i : Int) else (i : Int) - 1)).1 := by
    unfold holdS at hx
    rw [if_neg (by omega)] at hx
    injection hx with hx _
    injection hx with hx _
    exact hx.symm
  have hzero : ∀ p : Nat, x = ⟨0, 0⟩ → (if ah = true then cn (T'.l.map (·.f2)) else 0) = p → placeA T'.l x ah = ((p : Int), 0) := by
    intro p hxz hp
    unfold placeA
    rw [if_pos ((idq_iff _ _).2 hxz), ← hp]
    cases ah <;> rfl
  have hone : ∀ m (hm : m < (aliveIds T.l).length), x = (aliveIds T.l)[m] → (if ah = true then i = m else i = m + 1) → ∃ p : Nat, placeA T'.l x ah = ((p : Int), 0) ∧ StayL T.l T'.l i ah p := by
    intro m hm hxm him
    obtain ⟨_, hm2, hm3⟩ := places T.l hn m hm
    rw [← hxm] at hm2 hm3
    have hxl : x ∈ T.l.map (·.f0) := hxm ▸ aliveIds_mem T.l _ (List.getElem_mem hm)
    have hxl' := hs.subset hxl
    have hz : idq x ⟨0, 0⟩ = false := by
      rw [idq_no]
      intro e
      rw [h.lids, e] at hxl
      exact h.zid_no hxl
    have hhas : hasS T'.l x = true := by unfold hasS; exact decide_eq_true ((place_iff _ _).2 hxl')
    have hrg := ahead_range T'.l x
    obtain ⟨q, hq⟩ : ∃ q : Nat, aheadS T'.l x = q := ⟨(aheadS T'.l x).toNat, by omega⟩
    have key : ∀ j k (hj : j < (aliveIds T'.l).length) (hk : k < (aliveIds T.l).length), (aliveIds T'.l)[j] = (aliveIds T.l)[k] → ((k < m ↔ j < q) ∧ (k < m + 1 ↔ j < q + (if aliveS T'.l x = true then 1 else 0))) := by
      intro j k hj hk e
      obtain ⟨_, k2, k3⟩ := places T.l hn k hk
      obtain ⟨_, j2, j3⟩ := places T'.l hn' j hj
      rw [e] at j2 j3
      have hyl : (aliveIds T.l)[k] ∈ T.l.map (·.f0) := aliveIds_mem T.l _ (List.getElem_mem hk)
      generalize (aliveIds T.l)[k] = y at *
      have hyl' := hs.subset hyl
      have r1 := rank_lt T.l x y hxl hyl k3
      have r2 := rank_lt T'.l x y hxl' hyl' j3
      have o1 := place_lt hs hn' x y hxl hyl
      have o2 := place_lt hs hn' y x hyl hxl
      rw [k2, hm2, hm3, if_pos rfl] at r1
      rw [j2, hq] at r2
      constructor
      · constructor
        · intro h1
          have := r2.1.2 (o1.1 (r1.1.1 (by omega)))
          omega
        · intro h1
          have := r1.1.2 (o1.2 (r2.1.1 (by omega)))
          omega
      · constructor
        · intro h1
          have h2 := r1.2.1 (by omega)
          have h3 : placeS T'.l y ≤ placeS T'.l x := by
            apply Decidable.byContradiction
            intro hc
            have := o2.2 (by omega)
            omega
          have := r2.2.2 h3
          split at this <;> rename_i hf
          · rw [if_pos hf]; omega
          · rw [if_neg hf]; omega
        · intro h1
          have h3 := r2.2.1 (by
            split at h1 <;> rename_i hf
            · rw [if_pos hf]; omega
            · rw [if_neg hf]; omega)
          have h2 : placeS T.l y ≤ placeS T.l x := by
            apply Decidable.byContradiction
            intro hc
            have := o2.1 (by omega)
            omega
          have := r1.2.2 h2
          omega
    have hle : q ≤ (aliveIds T'.l).length ∧ (aliveS T'.l x = true → ∃ hq2 : q < (aliveIds T'.l).length, (aliveIds T'.l)[q] = x) := by
      constructor
      · have : aheadS T'.l x ≤ cn (T'.l.map (·.f2)) := by
          unfold aheadS rankS
          have := cn_take_mono (T'.l.map (·.f2)) (placeS T'.l x).toNat (max (placeS T'.l x).toNat (T'.l.map (·.f2)).length) (by omega)
          rw [List.take_of_length_le (show (T'.l.map (·.f2)).length ≤ max (placeS T'.l x).toNat (T'.l.map (·.f2)).length by omega)] at this
          omega
        omega
      · intro hal
        obtain ⟨r, hr, e1, e2⟩ := alive_at hn' hal
        obtain rfl : r = q := by omega
        exact ⟨hr, e1⟩
    unfold placeA
    rw [if_neg (by rw [hz]; decide), hhas, if_neg (by decide), hq]
    cases ah with
    | true =>
      have him : i = m := him
      subst him
      refine ⟨q, by rw [if_neg (by simp)], hle.1, fun j k hj hk e => (key j k hj hk e).1, (fun h => by cases h), fun _ _ hal => ?_⟩
      rw [← hxm] at hal ⊢
      exact hle.2 hal
    | false =>
      have him : i = m + 1 := him
      subst him
      by_cases hal : aliveS T'.l x = true
      · obtain ⟨h1, h2⟩ := hle.2 hal
        refine ⟨q + 1, by rw [if_pos ⟨hal, rfl⟩]; rfl, by omega, fun j k hj hk e => ?_, fun _ m' hm' e _ => ?_, fun h => by cases h⟩
        · have := (key j k hj hk e).2
          rw [if_pos hal] at this
          exact this
        · obtain rfl : m' = m := by omega
          rw [← hxm]
          exact ⟨q, h1, rfl, h2⟩
      · refine ⟨q, by rw [if_neg (fun h => hal h.1)], hle.1, fun j k hj hk e => ?_, fun _ m' hm' e hal2 => ?_, fun h => by cases h⟩
        · have := (key j k hj hk e).2
          rw [if_neg hal] at this
          exact this
        · obtain rfl : m' = m := by omega
          rw [← hxm] at hal2
          exact absurd hal2 hal
  cases ah with
  | true =>
    by_cases hl : i < (aliveIds T.l).length
    · refine hone i hl ?_ rfl
      rw [hxa, if_pos rfl, (places T.l hn i hl).1]
    · have hz : x = ⟨0, 0⟩ := by rw [hxa, if_pos rfl, at_out T.l _ (.inr (by omega))]; rfl
      refine ⟨cn (T'.l.map (·.f2)), hzero _ hz rfl, by omega, fun j k hj hk _ => ⟨fun _ => by omega, fun _ => by omega⟩, (fun h => by cases h), fun _ hm => absurd hm hl⟩
  | false =>
    by_cases hl : 0 < i
    · obtain ⟨m, rfl⟩ : ∃ m, i = m + 1 := ⟨i - 1, by omega⟩
      have hm : m < (aliveIds T.l).length := by omega
      refine hone m hm ?_ rfl
      rw [hxa, if_neg (by decide), show ((m + 1 : Nat) : Int) - 1 = (m : Int) by omega, (places T.l hn m hm).1]
    · obtain rfl : i = 0 := by omega
      have hz : x = ⟨0, 0⟩ := by rw [hxa, if_neg (by decide), at_out T.l _ (.inl (by decide))]; rfl
      exact ⟨0, hzero _ hz rfl, by omega, fun j k hj hk _ => ⟨fun _ => by omega, fun _ => by omega⟩, fun _ m hm e => by omega, fun h => by cases h⟩
end Go.Proofs.Ytefnpalkkhhkfaa.PC
namespace Go.Proofs.Ytefnpalkkhhkfaa.PC
open Go.RowKit Go.Proofs.YtefnpalkkhhkfaaW.PrintWords Go.Proofs.YtefnpalkkhhkfaaW.PrintLast Go.Proofs.YtefnpalkkhhkfaaW.PrintMore Go.Proofs.Ytefnpalkkhhkfaa.K Go.Proofs.Ytefnpalkkhhkfaa.IX Go.Proofs.Ytefnpalkkhhkfaa.I
attribute [local go_sem] max2_int min2_int max_two min_two max_three min_three max_four min_four
attribute [local go_sem high] eqA24
set_option linter.unusedVariables false
set_option linter.unusedSimpArgs false
set_option maxHeartbeats 8000000 in
set_option maxRecDepth 100000 in
theorem stays18_row (A : Option Addr) (cap : Nat) (l : List S49) (pl : Int) (ahd : Bool) (A2 : Option Addr) (cap2 : Nat) (l2 : List S49) (w : World) (hr : Kd.C k49 w A l.length l) (hc : l.length ≤ cap) (hy : l.length * 56 ≤ 140737488351232) (hg : ∀ y ∈ l, True) (hw : (Lit.int .i64 pl).wf = true) (hr2 : Kd.C k49 w A2 l2.length l2) (hc2 : l2.length ≤ cap2) (hy2 : l2.length * 56 ≤ 140737488351232) (hg2 : ∀ y ∈ l2, True) :
    Calls Try.prog 8 #[.slice A l.length cap, .int .i64 pl, .bool ahd, .slice A2 l2.length cap2] w fun e w' => e = .returned (.bool true) ∧ Below w.heap.size w w' := by
  have HRD := Lib.hid hr2
  have HSH := Lib.hid (shown18_calls w)
  have KM := Lib.hid (fun W (hb : Below w.heap.size w W) => made_calls W A cap l (Kd.C_below hr hb) hc (by omega))
  obtain ⟨len, hlen⟩ : ∃ len, l.length = len := ⟨_, rfl⟩
  rw [hlen] at KM hc hy ⊢
  obtain ⟨len2, hlen2⟩ : ∃ len, l2.length = len := ⟨_, rfl⟩
  have HLEN2 := Lib.hid hlen2
  rw [hlen2] at hc2 hy2 ⊢
  obtain ⟨N, hN⟩ : ∃ N, min len2 30 = N := ⟨_, rfl⟩
  have hN1 : N ≤ len2 := by omega
  have hN2 : N ≤ 30 := by omega
  have HN3 := Lib.hid (show len2 ≤ N ∨ N = 30 by omega)
  have hl2 : len2 ≤ 140737488351232 := by omega
  clear hr hy hg hlen hw hr2 hlen2 hy2 hg2 hN
  go_enter Try.func8, Try.ntmps8
  go_wp2_with (go_at_call 9; refine HSH.out.mono ?_; rintro e w1 ⟨rfl, hb⟩; have HB1 := Lib.hid hb; clear hb)
  refine (KM.out _ HB1.out).mono ?_
  rintro e w2 ⟨p, q, T, F, rfl, hI, hol, hsub, hS⟩
  have hll := hI.ll
  obtain ⟨nc, hnc⟩ : ∃ nc, cn (T.l.map (·.f2)) = nc := ⟨_, rfl⟩
  have hncl : nc ≤ 30 := by have := cn_le (T.l.map (·.f2)); rw [List.length_map] at this; omega
  have hil := ids_cn T.l
  rw [hnc] at hil
  obtain ⟨was, hwas⟩ : ∃ was, aliveIds T.l = was := ⟨_, rfl⟩
  have hwl : was.length = nc := by rw [← hwas]; exact hil
  have HS2 := Lib.hid (show St w w2 (sep (isTx p T) emp) from by
    obtain ⟨G, g1, g2, g3⟩ := hS.turn.snd
    exact ⟨G, g1, below_step HB1.out g2, fun k hk => Nat.le_trans HB1.out.size (g3 k hk)⟩)
  have AT := Lib.hid (asn_sep (asn_tx p T) asn_emp)
  have KLN := Lib.hid (fun W B (b : Asn B) (h : St w W (sep (isTx p T) B)) => len_nm' b h (Below.refl _ _) hnc)
  have KIS := Lib.hid (fun W (h : St w W (sep (isTx p T) emp)) => ids_nm asn_emp h (by omega) hwas hwl)
  have KHD := Lib.hid (fun W B (b : Asn B) (h : St w W (sep (isTx p T) B)) pl ah x0 x1 (hr : holdS T.l pl ah = ((⟨x0, x1⟩, ah), 0)) => hold_nm b h (Below.refl _ _) (by omega) pl ah hr)
  obtain ⟨x1, hx1⟩ : ∃ y, Go.bits .and .i64 pl 65535 = y := ⟨_, rfl⟩
  have hb1 := bits16 pl
  rw [hx1] at hb1
  have hp1 := Int.emod_nonneg x1 (show ((nc : Int) + 1) ≠ 0 by omega)
  have hp2 := Int.emod_lt_of_pos x1 (show (0 : Int) < (nc : Int) + 1 by omega)
  obtain ⟨i, hi⟩ : ∃ i : Nat, x1 % ((nc : Int) + 1) = (i : Int) := ⟨(x1 % ((nc : Int) + 1)).toNat, by omega⟩
  have hin : i ≤ nc := by omega
  have hwn : IntKind.i64.wrap ((nc : Int) + 1) = (nc : Int) + 1 := by rw [IntKind.wrap_i64]; omega
  have hzn : (((nc : Int) + 1) == 0) = false := by simp; omega
  obtain ⟨⟨a0, a1⟩, ha, _⟩ := back_law hI i (by rw [hnc]; exact hin) ahd
  have HHA := Lib.hid ha
  have HI := Lib.hid (show Inv T F ∧ T.ops.length ≤ 30 ∧ aliveIds T.l = was ∧ was.length = nc from ⟨hI, hol, hwas, hwl⟩)
  clear hI hol hsub hS hll hnc hil ha hwas hwl
  go_wp2_with (go_at_call 21; with_reducible refine (KLN.out _ _ asn_emp HS2.out).mono ?_; rintro e w3 ⟨rfl, rfl⟩)
  go_wp2_with (go_at_call 25; with_reducible refine (KIS.out _ HS2.out).mono ?_; rintro e w4 ⟨A4, c4, rfl, hb, hS⟩; have HS4 := Lib.hid hS.turn; clear hb hS)
  have AR4 := Lib.hid (show Asn (sep (isRow k24 24 (.slice A4 nc c4) was) emp) from asn_sep (asn_row _ _ _ _) asn_emp)
  have AX4 := Lib.hid (asn_sep (asn_tx p T) AR4.out)
  go_wp2_with (go_at_call 13; have kk := KHD.out _ _ AR4.out HS4.out _ _ _ _ HHA.out; with_reducible refine kk.mono ?_; clear kk; rintro e w5 ⟨rfl, hb⟩; have HS5 := Lib.hid (show St w (w5.alloc (.cells #[.int .i64 a0, .int .i64 a1, .bool ahd] 26)) (sep (isTx p T) (sep (isBlk w5.heap.size (anZ a0 a1 ahd)) (sep (isRow k24 24 (.slice A4 nc c4) was) emp))) from ((HS4.out.below AX4.out hb).mkblk AX4.out _).turn); clear hb)
  go_wp2_with (go_at_call 21; with_reducible refine (KLN.out _ _ (asn_sep (asn_blk _ _) AR4.out) HS5.out).mono ?_; rintro e w6 ⟨rfl, rfl⟩)
  obtain ⟨q13, hq13⟩ : ∃ x, w5.heap.size = x := ⟨_, rfl⟩
  rw [hq13] at HS5
  try rw [hq13]
  clear hq13
  obtain ⟨R, hR⟩ : ∃ R : As, R = (sep (isBlk q13 (anZ a0 a1 ahd)) (sep (isRow k24 24 (.slice A4 nc c4) was) emp)) := ⟨_, rfl⟩
  have ASR := Lib.hid (show Asn R from hR ▸ asn_sep (asn_blk _ _) AR4.out)
  have HSR := Lib.hid (show St w _ (sep (isTx p T) R) from hR ▸ HS5.out)
  have HB13 := Lib.hid (fun W C (h : St w W (sep C R)) => show W.cell? ⟨q13, 0, none⟩ = some (.int .i64 a0) ∧ W.cell? ⟨q13, 1, none⟩ = some (.int .i64 a1) ∧ W.cell? ⟨q13, 2, none⟩ = some (.bool ahd) from ⟨(hR ▸ h : St w W (sep C _)).snd.an_cells.1, (hR ▸ h : St w W (sep C _)).snd.an_cells.2.1, (hR ▸ h : St w W (sep C _)).snd.an_cells.2.2.1⟩)
  have HWAS := Lib.hid (fun W C (h : St w W (sep C R)) W2 (hb : Below W.heap.size W W2) j (hj : j < was.length) => cell_id ((hR ▸ h : St w W (sep C _)).snd.snd.later hb).2.2 (Below.refl _ _) j hj)
  clear HS5 hR
  go_loopg [15] N (fun kq v15 wr => ∃ (k : Nat), v15 = .int .i64 (k : Int) ∧ Aside0 (kq + k = N ∧ ∃ T' F', Inv T' F' ∧ T'.ops.length ≤ 30 + k ∧ (T.l.map (·.f0)).Sublist (T'.l.map (·.f0)) ∧ St w wr (sep (isTx p T') R)))
  case atStart => exact ⟨0, rfl, by omega, T, F, HI.out.1, HI.out.2.1, List.Sublist.refl _, HSR.out⟩
  case round =>
    obtain ⟨k, rfl, HK⟩ := hrel
    have hkk := HK.out.1
    obtain ⟨T', F', hI', hol', hsub', hS'⟩ := HK.out.2
    by_cases hlt : k < N
    · have hil : k < l2.length := by rw [HLEN2.out]; omega
      obtain ⟨ad, rfl, c0, c1, c2, c3, c4, c5, c6⟩ := cell_op HRD.out hS'.bel k hil
      generalize l2[k] = o at c0 c1 c2 c3 c4 c5 c6
      have hd1 : decide (k < len2) = true := by simp; omega
      have hd2 : decide ((k : Int) < 30) = true := by simp; omega
      obtain ⟨⟨⟨rb, re⟩, T2⟩, hp⟩ : ∃ x, putT T' o = x := ⟨_, rfl⟩
      obtain ⟨F2, hI2⟩ := inv_put hI' o
      have hln := putT_len T' o
      have hsb := put_sub T' o
      rw [hp] at hI2 hln hsb
      simp only at hI2 hln hsb
      have KP := Lib.hid (fun W B (b : Asn B) (h : St w W (sep (isTx p T') B)) => put_named hp hI' (by omega) b h)
      have HNX := Lib.hid (show ∀ W, St w W (sep (isTx p T2) R) → ∃ T' F', Inv T' F' ∧ T'.ops.length ≤ 30 + (k + 1) ∧ (T.l.map (·.f0)).Sublist (T'.l.map (·.f0)) ∧ St w W (sep (isTx p T') R) from fun W h => ⟨T2, F2, hI2, by omega, hsub'.trans hsb, h⟩)
      have HSP := Lib.hid hS'
      unfold opV at KP
      obtain ⟨⟨o0, o1⟩, o2, o3, ⟨o4, o5⟩, o6⟩ := o
      simp only at KP c0 c1 c2 c3 c4 c5 c6
      clear hI' hS' hol' hp hln hI2 HK hsub' hsb
      go_wp2_with (go_at_call 24; with_reducible refine (KP.out _ _ ASR.out HSP.out).mono ?_; rintro e w7 ⟨rfl, hS7⟩; have HS7 := Lib.hid hS7; clear hS7 c0 c1 c2 c3 c4 c5 c6)
      go_roundg (N - (k + 1))
      case measure => omega
      case rel => exact ⟨k + 1, by go_num, by omega, HNX.out _ HS7.out⟩
    · obtain rfl : k = N := by omega
      have hex : (decide (k < len2) = true ∧ decide ((k : Int) < 30) = false) ∨ decide (k < len2) = false := by
        by_cases h3 : k < len2
        · rcases HN3.out with h | h
          · omega
          · exact .inl ⟨by simpa using h3, by simp; omega⟩
        · exact .inr (by simpa using h3)
      have hll' := hI'.ll
      obtain ⟨pp, hpp, hst⟩ := stays_law HI.out.1 hI' hsub' i (by rw [HI.out.2.2.1, HI.out.2.2.2]; exact hin) ahd ⟨a0, a1⟩ HHA.out
      obtain ⟨now, hnow⟩ : ∃ now, aliveIds T'.l = now := ⟨_, rfl⟩
      obtain ⟨nn, hnn⟩ : ∃ nn, now.length = nn := ⟨_, rfl⟩
      have hnn2 : nn ≤ 1000 := by have := ids_cn T'.l; have := cn_le (T'.l.map (·.f2)); rw [List.length_map] at this; rw [hnow] at *; omega
      have hle : pp ≤ nn := by have := hst.le; rw [hnow, hnn] at this; exact this
      have HORD := Lib.hid (show ∀ j m (hj : j < now.length) (hm : m < was.length), now[j] = was[m] → (m < i ↔ j < pp) from by
        have := hst.order
        simp only [hnow, HI.out.2.2.1] at this
        exact this)
      have HBEH := Lib.hid (show ahd = false → ∀ m (hm : m < was.length), i = m + 1 → aliveS T'.l was[m] = true → ∃ (q : Nat) (hq : q < now.length), pp = q + 1 ∧ now[q] = was[m] from by
        have := hst.behind
        simp only [hnow, HI.out.2.2.1] at this
        exact this)
      have HAHD := Lib.hid (show ahd = true → ∀ (hm : i < was.length), aliveS T'.l was[i] = true → ∃ (hq : pp < now.length), now[pp] = was[i] from by
        have := hst.ahead
        simp only [hnow, HI.out.2.2.1] at this
        exact this)
      have KPL := Lib.hid (fun W (h : St w W (sep (isTx p T') R)) => place_nm ASR.out h (Below.refl _ _) (by omega) a0 a1 ahd hpp)
      have KIN := Lib.hid (fun W (h : St w W (sep (isTx p T') R)) => ids_nm ASR.out h (by omega) hnow hnn)
      have KAL := Lib.hid (fun w1 W (h : St w w1 (sep (isTx p T') R)) (hb : Below w1.heap.size w1 W) (x : S24) (r : Bool) (hr : aliveS T'.l x = r) => alive_nm ASR.out h hb (by omega) hr)
      have HSE := Lib.hid hS'
      have AX' := Lib.hid (asn_sep (asn_tx p T') ASR.out)
      have hwl := HI.out.2.2.2
      have hq1 : decide (nn < pp) = false := by simp; omega
      have HNN := Lib.hid hnn
      have HWL := Lib.hid hwl
      obtain ⟨d0, d1, d2⟩ := HB13.out _ _ HSE.out
      clear hI' hS' hol' HK hsub' hll' hst hpp hnow hnn hwl
      rcases hex with ⟨hd1, hd2⟩ | hd1
      all_goals
        go_wp2_with (go_at_call 11; have kk := KPL.out _ HSE.out; with_reducible refine kk.mono ?_; clear kk; rintro e w8 ⟨rfl, hb⟩; have HS8 := Lib.hid (HSE.out.below AX'.out hb); clear hb d0 d1 d2)
        go_wp2_with (go_at_call 25; have kk := KIN.out _ HS8.out; with_reducible refine kk.mono ?_; clear kk; rintro e w9 ⟨A9, c9, rfl, hb, hS⟩; have HS9 := Lib.hid hS; clear hb hS)
        have HNOW := Lib.hid (fun W (hb : Below w9.heap.size w9 W) j (hj : j < now.length) => cell_id (HS9.out.later hb).2.2 (Below.refl _ _) j hj)
        have HWS := Lib.hid (fun W (hb : Below w9.heap.size w9 W) j (hj : j < was.length) => HWAS.out w9 _ HS9.out.snd W hb j hj)
        have HAL := Lib.hid (fun W (hb : Below w9.heap.size w9 W) (x : S24) (r : Bool) (hr : aliveS T'.l x = r) => KAL.out w9 W HS9.out.snd hb x r hr)
        have HBL := Lib.hid (show Below w.heap.size w w9 from HS9.out.bel)
        go_loopg [19] nn (fun kq v19 wr => ∃ (j : Nat), v19 = .int .i64 (j : Int) ∧ Aside0 (kq + j = nn ∧ Below w9.heap.size w9 wr))
        case atStart => exact ⟨0, rfl, by omega, Below.refl _ _⟩
        case round =>
          obtain ⟨j, rfl, HJ⟩ := hrel
          have hkj := HJ.out.1
          have HBJ := Lib.hid HJ.out.2
          clear HJ
          by_cases hjt : j < nn
          · have hjl : j < now.length := by rw [HNN.out]; exact hjt
            have hd3 : decide (j < nn) = true := by simpa using hjt
            go_wp2
            go_loopg [20] nc (fun kq v20 wr => ∃ (m : Nat), v20 = .int .i64 (m : Int) ∧ Aside0 (kq + m = nc ∧ Below w9.heap.size w9 wr))
            case atStart => exact ⟨0, rfl, by omega, HBJ.out⟩
            case round =>
              obtain ⟨m, rfl, HM⟩ := hrel
              have hkm := HM.out.1
              have HBM := Lib.hid HM.out.2
              clear HM
              by_cases hmt : m < nc
              · have hml : m < was.length := by rw [HWL.out]; exact hmt
                have hd4 : decide (m < nc) = true := by simpa using hmt
                obtain ⟨ad9, rfl, f0, f1⟩ := HNOW.out _ HBM.out j hjl
                obtain ⟨ad4, rfl, g0, g1⟩ := HWS.out _ HBM.out m hml
                have ho := HORD.out j m hjl hml
                generalize now[j] = x at f0 f1 ho
                generalize was[m] = y at g0 g1 ho
                obtain ⟨x0, x1⟩ := x
                obtain ⟨y0, y1⟩ := y
                simp only at f0 f1 g0 g1
                have hm0 : (0 : Int) ≤ (m : Int) := by omega
                have hm1 : (m : Int) < (nc : Int) := by omega
                have hj0 : (0 : Int) ≤ (j : Int) := by omega
                have hj1 : (j : Int) < (nn : Int) := by omega
                by_cases hq : (x0 == y0 && x1 == y1) = true
                · have he : (⟨x0, x1⟩ : S24) = ⟨y0, y1⟩ := (idq_iff ⟨x0, x1⟩ ⟨y0, y1⟩).1 hq
                  have ho := ho he
                  by_cases hmi : m < i
                  · have hd5 : decide (m < i) = true := by simpa using hmi
                    have hd6 : decide (j < pp) = true := by simpa using ho.1 hmi
                    clear ho he
                    go_wp2
                    go_quiet (fail)
                    go_wp2
                    go_roundg (nc - (m + 1))
                    case measure => omega
                    case rel => exact ⟨m + 1, by go_num, by omega, pw_below_drewN HBM.out _⟩
                  · have hd5 : decide (m < i) = false := by simp; omega
                    have hd6 : decide (j < pp) = false := by
                      have : ¬ j < pp := fun h => hmi (ho.2 h)
                      simp; omega
                    clear ho he
                    go_wp2
                    go_quiet (fail)
                    go_wp2
                    go_roundg (nc - (m + 1))
                    case measure => omega
                    case rel => exact ⟨m + 1, by go_num, by omega, pw_below_drewN HBM.out _⟩
                · have hq3 : (x0 == y0 && x1 == y1) = false := by simpa using hq
                  clear ho
                  go_wp2
                  go_quiet (fail)
                  go_wp2
                  go_roundg (nc - (m + 1))
                  case measure => omega
                  case rel => exact ⟨m + 1, by go_num, by omega, pw_below_drewN HBM.out _⟩
              · obtain rfl : m = nc := by omega
                have hd4 : decide (m < m) = false := by simp
                go_wp2
                go_roundg (nn - (j + 1))
                case measure => omega
                case rel => exact ⟨j + 1, by go_num, by omega, HBM.out⟩
          · obtain rfl : j = nn := by omega
            have hd3 : decide (j < j) = false := by simp
            cases ahd with
            | false =>
              by_cases hi0 : i = 0
              · subst hi0
                have hd4 : decide (0 < 0) = false := by decide
                go_wp2
                go_ret
                exact ⟨rfl, below_step HBL.out HBJ.out⟩
              · obtain ⟨m, hm⟩ : ∃ m, i = m + 1 := ⟨i - 1, by omega⟩
                have hml : m < was.length := by rw [HWL.out]; omega
                have hmn : m < nc := by omega
                have hd4 : decide (0 < i) = true := by simp; omega
                have hw3 : IntKind.i64.wrap ((i : Int) - 1) = (m : Int) := by rw [IntKind.wrap_i64]; omega
                have hm0 : (0 : Int) ≤ (m : Int) := by omega
                have hm1 : (m : Int) < (nc : Int) := by omega
                have hd5 : decide (m < nc) = true := by simpa using hmn
                obtain ⟨ad4, rfl, g0, g1⟩ := HWS.out _ HBJ.out m hml
                obtain ⟨al, hal⟩ : ∃ al, aliveS T'.l was[m] = al := ⟨_, rfl⟩
                have KA1 := Lib.hid (HAL.out _ HBJ.out was[m] al hal)
                have HB3 := Lib.hid (fun (h : al = true) => HBEH.out rfl m hml hm (hal.trans h))
                have HG := Lib.hid (fun W (hb : Below w9.heap.size w9 W) => show W.cell? (ad4.add (m * 2)) = some (.int .i64 (was[m]'hml).f0) ∧ W.cell? ⟨(ad4.add (m * 2)).block, (ad4.add (m * 2)).off + 1, none⟩ = some (.int .i64 (was[m]'hml).f1) from by
                  obtain ⟨ad5, e, k0, k1⟩ := HWS.out W hb m hml
                  injection e with e
                  subst e
                  exact And.intro k0 k1)
                generalize was[m] = y at g0 g1 KA1 HB3 HG
                obtain ⟨y0, y1⟩ := y
                simp only at g0 g1 HG
                clear hal hm
                cases al with
                | false =>
                  go_wp2_with (go_at_call 26; with_reducible refine KA1.out.mono ?_; rintro e w10 ⟨rfl, hb⟩; have HB10 := Lib.hid (below_step HBJ.out hb); clear hb)
                  go_ret
                  exact ⟨rfl, below_step HBL.out HB10.out⟩
                | true =>
                  obtain ⟨q', hq', hpq, hny⟩ := HB3.out rfl
                  have hd6 : decide (0 < pp) = true := by simp; omega
                  have hw4 : IntKind.i64.wrap ((pp : Int) - 1) = (q' : Int) := by rw [IntKind.wrap_i64]; omega
                  have hq0 : (0 : Int) ≤ (q' : Int) := by omega
                  have hqj : q' < j := by have := HNN.out; omega
                  have hq1 : (q' : Int) < (j : Int) := by omega
                  have hd7 : decide (q' < j) = true := by simpa using hqj
                  obtain ⟨ad9, rfl, -, -⟩ := HNOW.out _ HBJ.out q' hq'
                  have HF := Lib.hid (fun W (hb : Below w9.heap.size w9 W) => show W.cell? (ad9.add (q' * 2)) = some (.int .i64 y0) ∧ W.cell? ⟨(ad9.add (q' * 2)).block, (ad9.add (q' * 2)).off + 1, none⟩ = some (.int .i64 y1) from by
                    obtain ⟨ad5, e, k0, k1⟩ := HNOW.out W hb q' hq'
                    injection e with e
                    subst e
                    rw [hny] at k0 k1
                    exact And.intro k0 k1)
                  clear hny hpq
                  go_wp2_with (go_at_call 26; with_reducible refine KA1.out.mono ?_; rintro e w10 ⟨rfl, hb⟩; have HB10 := Lib.hid (below_step HBJ.out hb); clear hb g0 g1; obtain ⟨g0, g1⟩ := HG.out _ HB10.out; obtain ⟨f0, f1⟩ := HF.out _ HB10.out)
                  go_quiet (fail)
                  go_wp2
                  go_ret
                  exact ⟨rfl, below_step HBL.out (pw_below_drewN HB10.out _)⟩
            | true =>
              by_cases hin2 : i < nc
              · have hml : i < was.length := by rw [HWL.out]; omega
                have hm0 : (0 : Int) ≤ (i : Int) := by omega
                have hm1 : (i : Int) < (nc : Int) := by omega
                have hd5 : decide (i < nc) = true := by simpa using hin2
                obtain ⟨ad4, rfl, g0, g1⟩ := HWS.out _ HBJ.out i hml
                obtain ⟨al, hal⟩ : ∃ al, aliveS T'.l was[i] = al := ⟨_, rfl⟩
                have KA1 := Lib.hid (HAL.out _ HBJ.out was[i] al hal)
                have HB3 := Lib.hid (fun (h : al = true) => HAHD.out rfl hml (hal.trans h))
                have HG := Lib.hid (fun W (hb : Below w9.heap.size w9 W) => show W.cell? (ad4.add (i * 2)) = some (.int .i64 (was[i]'hml).f0) ∧ W.cell? ⟨(ad4.add (i * 2)).block, (ad4.add (i * 2)).off + 1, none⟩ = some (.int .i64 (was[i]'hml).f1) from by
                  obtain ⟨ad5, e, k0, k1⟩ := HWS.out W hb i hml
                  injection e with e
                  subst e
                  exact And.intro k0 k1)
                generalize was[i] = y at g0 g1 KA1 HB3 HG
                obtain ⟨y0, y1⟩ := y
                simp only at g0 g1 HG
                clear hal
                cases al with
                | false =>
                  go_wp2_with (go_at_call 26; with_reducible refine KA1.out.mono ?_; rintro e w10 ⟨rfl, hb⟩; have HB10 := Lib.hid (below_step HBJ.out hb); clear hb)
                  go_ret
                  exact ⟨rfl, below_step HBL.out HB10.out⟩
                | true =>
                  obtain ⟨hq', hny⟩ := HB3.out rfl
                  have hq0 : (0 : Int) ≤ (pp : Int) := by omega
                  have hqj : pp < j := by have := HNN.out; omega
                  have hq1' : (pp : Int) < (j : Int) := by omega
                  have hd7 : decide (pp < j) = true := by simpa using hqj
                  obtain ⟨ad9, rfl, -, -⟩ := HNOW.out _ HBJ.out pp hq'
                  have HF := Lib.hid (fun W (hb : Below w9.heap.size w9 W) => show W.cell? (ad9.add (pp * 2)) = some (.int .i64 y0) ∧ W.cell? ⟨(ad9.add (pp * 2)).block, (ad9.add (pp * 2)).off + 1, none⟩ = some (.int .i64 y1) from by
                    obtain ⟨ad5, e, k0, k1⟩ := HNOW.out W hb pp hq'
                    injection e with e
                    subst e
                    rw [hny] at k0 k1
                    exact And.intro k0 k1)
                  clear hny
                  go_wp2_with (go_at_call 26; with_reducible refine KA1.out.mono ?_; rintro e w10 ⟨rfl, hb⟩; have HB10 := Lib.hid (below_step HBJ.out hb); clear hb g0 g1; obtain ⟨g0, g1⟩ := HG.out _ HB10.out; obtain ⟨f0, f1⟩ := HF.out _ HB10.out)
                  go_quiet (fail)
                  go_wp2
                  go_ret
                  exact ⟨rfl, below_step HBL.out (pw_below_drewN HB10.out _)⟩
              · obtain rfl : i = nc := by omega
                have hd5 : decide (i < i) = false := by simp
                go_wp2
                go_ret
                exact ⟨rfl, below_step HBL.out HBJ.out⟩
end Go.Proofs.Ytefnpalkkhhkfaa.PC
