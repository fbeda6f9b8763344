/- A part of the proof of rgaKeeps_holds: its texts, one behind the other, as far as the proof stands on them. (Lines of its texts on the printed words and functions began as lines that a program of the kit had written for this statement.) -/
import Derived.ArgAppend
import Derived.Below
import Derived.BigQuiet
import Derived.BigRegion
import Derived.ChangeMaps4
import Derived.ChangeMaps5
import Derived.Deep.AppendLies
import Derived.Deep.CutBlock
import Derived.Deep.CutRange
import Derived.Deep.DeepCutAuto
import Derived.Deep.DrawnRows
import Derived.Deep.Draws
import Derived.Deep.LoopGhost
import Derived.Deep.OwnRows
import Derived.Deep.QuietTactic
import Derived.Deep.RegionHeld3
import Derived.Deep.RegionLaw
import Derived.Deep.RegionWith
import Derived.KernelRfl
import Derived.Laws.BitsLemmas
import Derived.Laws.BytesArg
import Derived.Laws.CopyRow
import Derived.Laws.Cover4
import Derived.Laws.Externs
import Derived.Laws.IdiomCopy
import Derived.Laws.MakeOwn
import Derived.Laws.NewBlocks
import Derived.Laws.OwnMore
import Derived.Laws.Rows
import Derived.Laws.Slices
import Derived.Laws.StructEq
import Derived.Lib.AppendStr
import Derived.Lib.AppendZeros
import Derived.Lib.AppendZerosOnto
import Derived.Lib.ConvBytes
import Derived.Lib.Hide
import Derived.Lib.JoinLaws
import Derived.Lib.Overlaps
import Derived.Lib.Walk
import Derived.MapKept
import Derived.Maps.AppendAt
import Derived.OrdersHeld
import Derived.OwnWalk
import Derived.RegionTactic
import Derived.RowKit
import Derived.RowKit3
import Derived.StillTail
import Derived.StillTailTactics
import Derived.Tactics
import Derived.Test.YtehdjdediobemaaProg
import Derived.WalkKit
import Derived.WalkSpells
import Derived.WideLaws
import Derived.Test.YtehdjdediobemaaBT0
namespace Go.Proofs.Ytehdjdediobemaa.PC
open Go.RowKit Go.Proofs.YtehdjdediobemaaW.PrintWords Go.Proofs.YtehdjdediobemaaW.PrintLast Go.Proofs.YtehdjdediobemaaW.PrintMore Go.Proofs.Ytehdjdediobemaa.K Go.Proofs.Ytehdjdediobemaa.IX
attribute [local go_sem] max2_int min2_int max_two min_two max_three min_three max_four min_four
attribute [local go_sem high] eqA31
set_option linter.unusedVariables false
set_option linter.unusedSimpArgs false
theorem cAll_calls (e : S75) (w : World) : Calls Try.prog 51 #[elV e] w fun e' w' => e' = .returned (.bool true) ∧ Below w.heap.size w w' := by
  unfold elV
  go_enter Try.func51, Try.ntmps51
  go_wp2
  go_ret
  exact ⟨rfl, (Below.refl _ w).alloc (Nat.le_refl _) _⟩
set_option maxHeartbeats 4000000 in
set_option maxRecDepth 100000 in
theorem ids_cAll (w : World) (F : List Nat) (p : Nat) (T : TS) (h : Tx w F p T) (hl : T.l.length ≤ 1000000) : Calls Try.prog 49 #[.pointer (some ⟨p, 0, none⟩), .func (Fn.func 51) #[] #[]] w fun e w' => ∃ v, e = .returned v ∧ Kd.R k31 31 w' w.heap.size (fun _ => True) v (idsS (fun _ : S75 => true) T.l) ∧ Below w.heap.size w w' := by
  obtain ⟨A1, c1, x, A2, c2, A3, c3, mb, FI, h0, h1, h2, h3, h4, h5, ⟨hc, hr⟩, _⟩ := h.read
  generalize T.l = l at *
  have HR := Lib.hid hr
  clear h h1 h2 h3 h4 h5 hr
  go_enter Try.func49, Try.ntmps49
  go_wp2
  go_loopw [5, 13] (fun v5 v13 w' => ∃ i : Nat, v13 = .int .i64 (i : Int) ∧ i ≤ l.length ∧ Aside0 (Kd.R k31 31 w' w.heap.size (fun _ => True) v5 (idsS (fun _ : S75 => true) (l.take i)) ∧ Below w.heap.size w w')) (fun _ v13 _ => l.length - (intOf v13).toNat)
  case atStart => exact ⟨0, rfl, by omega, ⟨Kd.R_nil _ _ _ _ _, Below.refl _ _⟩⟩
  case round =>
    obtain ⟨i, rfl, hi, HI⟩ := hrel
    by_cases hlt : i < l.length
    · obtain ⟨ad, eA, e0, e1, e2, e3⟩ := cell_el HR.out HI.out.2 i hlt
      subst eA
      have hta : idsS (fun _ : S75 => true) (l.take (i + 1)) = if ((fun _ : S75 => true)) l[i] = true then idsS (fun _ : S75 => true) (l.take i) ++ [(l[i]).f0] else idsS (fun _ : S75 => true) (l.take i) := by rw [show l.take (i + 1) = l.take i ++ [l[i]] from (List.take_append_getElem hlt).symm]; exact idsS_snoc _ _ _
      have hvl := idsS_len (fun _ : S75 => true) (l.take i)
      rw [List.length_take] at hvl
      obtain ⟨e, he⟩ : ∃ e, l[i] = e := ⟨_, rfl⟩
      rw [he] at e0 e1 e2 e3 hta
      obtain ⟨vs, hvs⟩ : ∃ vs, idsS (fun _ : S75 => true) (l.take i) = vs := ⟨_, rfl⟩
      rw [hvs] at hta hvl
      have HO := Lib.hid (show Kd.R k31 31 wr w.heap.size (fun _ => True) u5 vs from by rw [← hvs]; exact HI.out.1)
      have HB := Lib.hid HI.out.2
      have HT := Lib.hid hta
      have HVL := Lib.hid (show vs.length ≤ 1000000 by omega)
      clear hta he hvs hvl HI
      have K1 := Lib.hid (fun w2 => cAll_calls e w2)
      unfold elV at K1
      go_wp2_with (first | (go_at_call 51; refine (K1.out _).mono ?_; rintro e' w' ⟨rfl, hb⟩; have HC := Lib.hid (show Below wr.heap.size wr w' from below_step ((Below.refl _ wr).alloc (Nat.le_refl _) _) hb); have d0 : w'.cell? ⟨wr.heap.size, 0, none⟩ = some (.int .i64 e.f0.f0) := (hb.cell (by rw [alloc_sz]; exact Nat.lt_succ_self _)).trans ((cell_of (heap_new wr _) 0).trans rfl); have d1 : w'.cell? ⟨wr.heap.size, 1, none⟩ = some (.int .i64 e.f0.f1) := (hb.cell (by rw [alloc_sz]; exact Nat.lt_succ_self _)).trans ((cell_of (heap_new wr _) 1).trans rfl); clear hb) | ((with_reducible refine gate_builtin (b := .append) (xs := #[.tmp 20, .tmp 23]) rfl ?_); at_builtin; refine Kd.R_append k31 (w0 := w) w.heap.size rfl (.tmp 20) (.tmp 23) 45 31 (.agg #[(.int .i64 0), (.int .i64 0)]) 16 rfl Try.underlying45 info31 rfl (by decide) (by omega) u5 vs e.f0 [.int .i64 e.f0.f0, .int .i64 e.f0.f1] (fun _ => True) (fun _ => False) rfl ?aX ?aP (fun _ hk => hk.elim) ?aF ?aO ?aB ?aS ?aL ?_; (case aX => rfl); (case aP => exact k31_mkM _ _ _ _); (case aF => exact (fun _ _ => trivial)); (case aO => exact Kd.R_below HO.out HC.out); (case aB => exact below_step HB.out HC.out); (case aS => exact below_size (below_step HB.out HC.out)); (case aL => have := HVL.out; omega); intro v7 w7 ho7 hb hg hat; have HO7 := Lib.hid ho7; have HB7 := Lib.hid hb; clear ho7 hb hg hat))
      go_roundw
      case rel => exact ⟨i + 1, by go_num, by omega, ⟨by rw [HT.out, if_pos True.intro]; exact HO7.out, HB7.out⟩⟩
      case measure => simp [intOf]; omega
    · obtain rfl : i = l.length := by omega
      have HO := Lib.hid (show Kd.R k31 31 wr w.heap.size (fun _ => True) u5 (idsS (fun _ : S75 => true) l) from by have := HI.out.1; rw [List.take_length] at this; exact this)
      have HB := Lib.hid HI.out.2
      clear HI
      go_wp2
      go_ret
      exact ⟨_, rfl, HO.out, HB.out⟩
theorem all_calls_ids (w : World) (F : List Nat) (p : Nat) (T : TS) (h : Tx w F p T) (hl : T.l.length ≤ 1000000) : Calls Try.prog 24 #[.pointer (some ⟨p, 0, none⟩)] w fun e w' => ∃ v, e = .returned v ∧ Kd.R k31 31 w' w.heap.size (fun _ => True) v (idsS (fun _ : S75 => true) T.l) ∧ Below w.heap.size w w' := by
  have K1 := Lib.hid (ids_cAll w F p T h hl)
  clear h
  go_enter Try.func24, Try.ntmps24
  go_wp2_with (go_at_call 49; refine K1.out.mono ?_; rintro e w' ⟨v, rfl, hr, hb⟩; have HO := Lib.hid hr; have HB := Lib.hid hb; clear hr hb)
  go_ret
  exact ⟨_, rfl, HO.out, HB.out⟩
end Go.Proofs.Ytehdjdediobemaa.PC
namespace Go.Proofs.Ytehdjdediobemaa.PC
open Go.RowKit Go.Proofs.YtehdjdediobemaaW.PrintWords Go.Proofs.YtehdjdediobemaaW.PrintLast Go.Proofs.YtehdjdediobemaaW.PrintMore Go.Proofs.Ytehdjdediobemaa.K Go.Proofs.Ytehdjdediobemaa.IX Go.Proofs.Ytehdjdediobemaa.I
set_option linter.unusedVariables false
set_option linter.unusedSimpArgs false
theorem flat_ID : Flat k31 (fun x => [Value.int .i64 x.f0, .int .i64 x.f1]) := ⟨fun _ => rfl, fun h => k31_open h, fun h => k31_openM h, fun _ _ _ _ => k31_mkM _ _ _ _, fun x u hu => by simp at hu; rcases hu with rfl | rfl <;> rfl, (by decide), rfl⟩
end Go.Proofs.Ytehdjdediobemaa.PC
namespace Go.Proofs.Ytehdjdediobemaa.PC
open Go.RowKit Go.Proofs.YtehdjdediobemaaW.PrintWords Go.Proofs.YtehdjdediobemaaW.PrintLast Go.Proofs.YtehdjdediobemaaW.PrintMore Go.Proofs.Ytehdjdediobemaa.K Go.Proofs.Ytehdjdediobemaa.IX Go.Proofs.Ytehdjdediobemaa.I
set_option linter.unusedVariables false
set_option linter.unusedSimpArgs false
theorem sameIDs_self (l : List S31) (hl : l.length ≤ 1000000) : foolscapref14_SameIDs.f (l.length + 1) l l = some true := by
  unfold foolscapref14_SameIDs.f
  rw [if_pos rfl]
  have key : ∀ (m i : Nat), i + m = l.length → foolscapref14_SameIDs.l0 (m + 1) l l (i : Int) = some true := by
    intro m
    induction m with
    | zero =>
      intro i hi
      simp only [foolscapref14_SameIDs.l0]
      rw [if_neg (by omega)]
    | succ m ih =>
      intro i hi
      rw [foolscapref14_SameIDs.l0, if_pos (by omega), if_pos (by omega), if_pos (by omega), if_neg (by simp), wrap_n i (by omega)]
      exact ih (i + 1) (by omega)
  exact key l.length 0 (by omega)
theorem sameIDs_is {w : World} {A B : Option Addr} {c d : Nat} {l : List S31} (h1 : Kd.C k31 w A l.length l) (hc : l.length ≤ c) (h2 : Kd.C k31 w B l.length l) (hd : l.length ≤ d) (hl : l.length ≤ 1000000) : Calls Try.prog 23 #[.slice A l.length c, .slice B l.length d] w fun e w' => e = .returned (.bool true) ∧ ∃ n, w' = w.drewN n :=
  (foolscapref14_SameIDs.calls _ A c l B d l true w h1 hc h2 hd (sameIDs_self l hl)).mono fun _ _ h => ⟨h.1, h.2.out⟩
end Go.Proofs.Ytehdjdediobemaa.PC
namespace Go.Proofs.Ytehdjdediobemaa.PC
open Go.RowKit Go.Proofs.YtehdjdediobemaaW.PrintWords Go.Proofs.Ytehdjdediobemaa.K Go.Proofs.Ytehdjdediobemaa.IX Go.Proofs.Ytehdjdediobemaa.I
set_option linter.unusedVariables false
set_option linter.unusedSimpArgs false
/-- A row without an ID. -/
def withS (l : List S31) (x : S31) : List S31 := l.filter fun y => !idq y x
theorem with_no (l : List S31) (x : S31) (h : x ∉ l) : withS l x = l := by
  unfold withS
  rw [List.filter_eq_self]
  intro y hy
  have : idq y x = false := (idq_no y x).2 fun e => h (e ▸ hy)
  rw [this]; rfl
theorem with_app (a b : List S31) (x : S31) : withS (a ++ b) x = withS a x ++ withS b x := by
  unfold withS
  rw [List.filter_append]
theorem with_one (x : S31) : withS [x] x = [] := by
  unfold withS
  have : idq x x = true := (idq_iff x x).2 rfl
  simp [this]
theorem aliveIds_mem (l : List S75) (x : S31) (h : x ∈ aliveIds l) : x ∈ l.map (·.f0) := by
  unfold aliveIds idsS at h
  rw [List.mem_map] at h ⊢
  obtain ⟨e, he, rfl⟩ := h
  exact ⟨e, (List.mem_filter.1 he).1, rfl⟩
theorem aliveIds_app (a b : List S75) : aliveIds (a ++ b) = aliveIds a ++ aliveIds b := by
  unfold aliveIds idsS
  rw [List.filter_append, List.map_append]
theorem gone_split (l : List S75) (i : Nat) (h : i < l.length) : goneS l i = l.take i ++ [⟨l[i].f0, l[i].f1, false⟩] ++ l.drop (i + 1) := by
  unfold goneS
  induction l generalizing i with
  | nil => cases h
  | cons e l ih =>
    cases i with
    | zero => rfl
    | succ i =>
      have h2 : i < l.length := by simpa using h
      have := ih i h2
      simp only [List.modify_succ_cons, List.take_succ_cons, List.drop_succ_cons, List.getElem_cons_succ, List.cons_append]
      rw [this]
theorem take_drop_one (l : List S75) (i : Nat) (h : i < l.length) : l = l.take i ++ [l[i]] ++ l.drop (i + 1) := by
  rw [List.append_assoc, List.singleton_append, ← List.drop_eq_getElem_cons h, List.take_append_drop]
theorem gone_ids (l : List S75) (i : Nat) (h : i < l.length) : (goneS l i).map (·.f0) = l.map (·.f0) := by
  rw [gone_split l i h]
  conv => rhs; rw [take_drop_one l i h]
  simp only [List.map_append, List.map_cons, List.map_nil]
theorem gone_alive (l : List S75) (hn : (l.map (·.f0)).Nodup) (i : Nat) (h : i < l.length) : aliveIds (goneS l i) = withS (aliveIds l) l[i].f0 := by
  have e := take_drop_one l i h
  have hn2 : ((l.take i ++ [l[i]] ++ l.drop (i + 1)).map (·.f0)).Nodup := e ▸ hn
  rw [gone_split l i h]
  conv => rhs; arg 1; rw [e]
  rw [List.map_append, List.map_append, List.append_assoc, List.nodup_append] at hn2
  obtain ⟨_, n2, n3⟩ := hn2
  have n4 : l[i].f0 ∉ (l.take i).map (·.f0) := fun k => n3 _ k _ (by simp) rfl
  have n5 : l[i].f0 ∉ (l.drop (i + 1)).map (·.f0) := by
    have := (List.nodup_cons.1 (show (l[i].f0 :: (l.drop (i + 1)).map (·.f0)).Nodup from by simpa using n2)).1
    exact this
  rw [aliveIds_app, aliveIds_app, aliveIds_app, aliveIds_app, with_app, with_app, with_no _ _ fun k => n4 (aliveIds_mem _ _ k), with_no _ _ fun k => n5 (aliveIds_mem _ _ k)]
  have e1 : aliveIds [(⟨l[i].f0, l[i].f1, false⟩ : S75)] = [] := rfl
  have e2 : withS (aliveIds [l[i]]) l[i].f0 = [] := by
    cases hb : l[i].f2 with
    | true =>
      have : aliveIds [l[i]] = [l[i].f0] := by unfold aliveIds idsS; simp [hb]
      rw [this, with_one]
    | false =>
      have : aliveIds [l[i]] = [] := by unfold aliveIds idsS; simp [hb]
      rw [this]; rfl
  rw [e1, e2]
/-- One put in at a place. -/
theorem ins_all (l : List S75) (k : Nat) (o : S34) (h : o.f0 ∉ l.map (·.f0)) : withS ((insT l k o).map (·.f0)) o.f0 = l.map (·.f0) := by
  unfold insT
  rw [List.map_append, List.map_append, with_app, with_app]
  have e1 : withS (([elOf o] : List S75).map (·.f0)) o.f0 = [] := with_one o.f0
  rw [e1, with_no _ _ fun q => h (List.map_subset _ (List.take_subset k l) q), with_no _ _ fun q => h (List.map_subset _ (List.drop_subset k l) q), List.append_nil, ← List.map_append, List.take_append_drop]
theorem ins_alive (l : List S75) (k : Nat) (o : S34) (h : o.f0 ∉ l.map (·.f0)) : withS (aliveIds (insT l k o)) o.f0 = aliveIds l := by
  unfold insT
  rw [aliveIds_app, aliveIds_app, with_app, with_app]
  have e1 : withS (aliveIds ([elOf o] : List S75)) o.f0 = [] := with_one o.f0
  rw [e1, with_no _ _ fun q => h (List.map_subset _ (List.take_subset k l) (aliveIds_mem _ _ q)), with_no _ _ fun q => h (List.map_subset _ (List.drop_subset k l) (aliveIds_mem _ _ q)), List.append_nil, ← aliveIds_app, List.take_append_drop]
/-- Where an ID stands in a row. -/
def findS : List S31 → S31 → Int
  | [], _ => -1
  | e :: l, x => if idq e x = true then 0 else if findS l x < 0 then -1 else findS l x + 1
theorem find_place (l : List S75) (x : S31) : findS (l.map (·.f0)) x = placeS l x := by
  induction l with
  | nil => rfl
  | cons e l ih => simp only [List.map_cons, findS, placeS, ih]
theorem place_gone (l : List S75) (i : Nat) (h : i < l.length) (x : S31) : placeS (goneS l i) x = placeS l x := by
  rw [← find_place, ← find_place, gone_ids l i h]
theorem gone_dead (l : List S75) (hn : (l.map (·.f0)).Nodup) (i : Nat) (h : i < l.length) : aliveS (goneS l i) l[i].f0 = false := by
  have hl : i < (goneS l i).length := by
    have := congrArg List.length (gone_ids l i h)
    rw [List.length_map, List.length_map] at this
    omega
  have hrd : rd_T75 (goneS l i) (i : Int) = (goneS l i)[i] := by unfold rd_T75; simp [hl]
  have hx : (goneS l i)[i].f2 = false := by
    have h2 : (l.take i).length = i := by rw [List.length_take]; omega
    simp only [gone_split l i h, List.append_assoc]
    rw [List.getElem_append_right (by omega)]
    simp [h2]
  unfold aliveS
  rw [place_gone l i h, place_nth l hn i h, hrd, hx, Bool.and_false]
theorem place_ins (l : List S75) (k : Nat) (o : S34) (hk : k ≤ l.length) (h : o.f0 ∉ l.map (·.f0)) : placeS (insT l k o) o.f0 = k := by
  have e : insT l k o = l.take k ++ elOf o :: l.drop k := by unfold insT; rw [List.append_assoc]; rfl
  rw [e, placeS_at _ _ (elOf o) o.f0 ?_ (idq_self _), List.length_take]
  · omega
  · intro y hy
    rw [idq_no]
    intro he
    exact h (he ▸ List.mem_map.2 ⟨y, List.take_subset k l hy, rfl⟩)
theorem ins_live (l : List S75) (k : Nat) (o : S34) (hk : k ≤ l.length) (h : o.f0 ∉ l.map (·.f0)) : aliveS (insT l k o) o.f0 = true := by
  have e : insT l k o = l.take k ++ elOf o :: l.drop k := by unfold insT; rw [List.append_assoc]; rfl
  have hl : k < (insT l k o).length := by rw [e, List.length_append, List.length_take, List.length_cons]; omega
  have hx : (insT l k o)[k] = elOf o := by
    have h2 : (l.take k).length = k := by rw [List.length_take]; omega
    simp only [e]
    rw [List.getElem_append_right (by omega)]
    simp [h2]
  have hrd : rd_T75 (insT l k o) (k : Int) = (insT l k o)[k] := by unfold rd_T75; simp [hl]
  unfold aliveS
  rw [place_ins l k o hk h, hrd, hx]
  simp [elOf]
theorem skip_len (x : S31) (l : List S75) : skipS x l ≤ l.length := by
  induction l with
  | nil => exact Nat.le_refl _
  | cons e l ih =>
    simp only [skipS]
    split
    · rw [List.length_cons]; omega
    · exact Nat.zero_le _
theorem place_pre (a b c : List S75) (x : S31) (h : 0 ≤ placeS (a ++ c) x) (hp : placeS (a ++ c) x < a.length) : placeS (a ++ b) x = placeS (a ++ c) x := by
  induction a with
  | nil => simp only [List.nil_append, List.length_nil] at h hp; omega
  | cons e a ih =>
    simp only [List.cons_append, placeS] at h hp ⊢
    by_cases hq : idq e.f0 x = true
    · rw [if_pos hq, if_pos hq]
    · rw [if_neg hq] at h hp
      rw [if_neg hq, if_neg hq]
      by_cases hz : placeS (a ++ c) x < 0
      · rw [if_pos hz] at h; omega
      · rw [if_neg hz] at hp
        rw [List.length_cons] at hp
        rw [ih (by omega) (by omega)]
theorem keeps_ins {T : TS} {F : Fo} (h : Inv T F) {o : S34} (hn : refS T o = none) (hi : o.f2 = true) :
    withS ((takeS T o).l.map (·.f0)) o.f0 = T.l.map (·.f0) ∧ withS (aliveIds (takeS T o).l) o.f0 = aliveIds T.l ∧ aliveS (takeS T o).l o.f0 = true ∧
    0 ≤ findS ((takeS T o).l.map (·.f0)) o.f0 ∧ findS ((takeS T o).l.map (·.f0)) o.f3 < findS ((takeS T o).l.map (·.f0)) o.f0 := by
  obtain ⟨hr, _, hp, hl⟩ := refS_none hn
  have hf : o.f0 ∉ T.l.map (·.f0) := by
    have := (h.fresh hl).1
    rwa [← h.lids] at this
  have hrg := placeS_range T.l o.f3
  obtain ⟨n, hnn⟩ : ∃ n, (placeS T.l o.f3 + 1).toNat = n := ⟨_, rfl⟩
  have hk : skT T.l n o ≤ T.l.length := by
    unfold skT
    have := skip_len o.f0 (T.l.drop n)
    rw [List.length_drop] at this
    omega
  have hk2 : n ≤ skT T.l n o := by unfold skT; omega
  have e : (takeS T o).l = insT T.l (skT T.l n o) o := by
    unfold takeS
    rw [if_pos hi, hnn]
  rw [e]
  generalize skT T.l n o = k at hk hk2
  refine ⟨ins_all _ _ _ hf, ins_alive _ _ _ hf, ins_live _ _ _ hk hf, ?_, ?_⟩
  · rw [find_place, place_ins _ _ _ hk hf]; omega
  · rw [find_place, find_place, place_ins _ _ _ hk hf]
    by_cases hz : 0 ≤ placeS T.l o.f3
    · have h1 : T.l.take k ++ T.l.drop k = T.l := List.take_append_drop k T.l
      have h2 := place_pre (T.l.take k) ([elOf o] ++ T.l.drop k) (T.l.drop k) o.f3 (by rw [h1]; exact hz) (by rw [h1, List.length_take]; omega)
      have e2 : insT T.l k o = T.l.take k ++ ([elOf o] ++ T.l.drop k) := by unfold insT; rw [List.append_assoc]
      rw [e2, h2, h1]
      omega
    · have hz3 : o.f3 ∉ (insT T.l k o).map (·.f0) := by
        intro hm
        have hno : o.f3 ∉ T.l.map (·.f0) := fun q => hz ((place_iff _ _).2 q)
        unfold insT at hm
        rw [List.map_append, List.map_append, List.mem_append, List.mem_append] at hm
        rcases hm with (hm | hm) | hm
        · exact hno (List.map_subset _ (List.take_subset k T.l) hm)
        · have hm : o.f3 = o.f0 := by simpa [elOf] using hm
          exact absurd hm.symm (right_ne hr).ne.symm
        · exact hno (List.map_subset _ (List.drop_subset k T.l) hm)
      have : ¬ 0 ≤ placeS (insT T.l k o) o.f3 := fun q => hz3 ((place_iff _ _).1 q)
      omega
theorem keeps_gone {T : TS} {F : Fo} (h : Inv T F) {o : S34} (hn : refS T o = none) (hi : o.f2 = false) :
    (takeS T o).l.map (·.f0) = T.l.map (·.f0) ∧ withS (aliveIds T.l) o.f3 = aliveIds (takeS T o).l ∧ aliveS (takeS T o).l o.f3 = false := by
  obtain ⟨hr, _, hp, hl⟩ := refS_none hn
  have hp : 0 ≤ placeS T.l o.f3 := by
    rcases hp with hp | hp
    · exact hp
    · obtain ⟨_, _, _, _, k | k⟩ := hr
      · rw [hi] at k; cases k.1
      · have := k.2.1.1
        rw [hp] at this
        exact absurd this (by decide)
  have hnd : (T.l.map (·.f0)).Nodup := by rw [h.lids]; exact h.nodup
  obtain ⟨i, hi2, e3⟩ : ∃ i, ∃ hi : i < T.l.length, T.l[i].f0 = o.f3 := by
    have hm := (place_iff _ _).1 hp
    obtain ⟨i, hi, e⟩ := List.getElem_of_mem hm
    rw [List.length_map] at hi
    exact ⟨i, hi, by rw [← e, List.getElem_map]⟩
  have e : (takeS T o).l = goneS T.l i := by
    unfold takeS
    rw [if_neg (by rw [hi]; decide), ← e3, place_nth _ hnd i hi2]
    rfl
  rw [e, ← e3]
  exact ⟨gone_ids _ _ hi2, (gone_alive _ hnd i hi2).symm, gone_dead _ hnd i hi2⟩
end Go.Proofs.Ytehdjdediobemaa.PC
namespace Go.Proofs.Ytehdjdediobemaa.PC
open Go.RowKit Go.Proofs.YtehdjdediobemaaW.PrintWords Go.Proofs.YtehdjdediobemaaW.PrintLast Go.Proofs.YtehdjdediobemaaW.PrintMore
attribute [local go_sem] max2_int min2_int max_two min_two max_three min_three max_four min_four
set_option linter.unusedVariables false
set_option linter.unusedSimpArgs false
attribute [local go_sem high] eqA31 eqA34 eqA80
def foolscaplaw14_find.l0 : Nat → List (S31) → Int → Int → Int → Option (Int)
  | 0, _, _, _, _ => none
  | k + 1, x0, x5, x175000, x175001 => if x5 < (x0.length : Int) then (if 0 ≤ x5 then (if (((rd_T31 x0 x5).f0) == x175000 && (((rd_T31 x0 x5).f1) == x175001)) = true then (some x5) else (foolscaplaw14_find.l0 k x0 (wrap64 (x5 + 1)) x175000 x175001)) else (none)) else (some (-1))
def foolscaplaw14_find.f (k : Nat) (l0 : List (S31)) (a1_0 : Int) (a1_1 : Int) : Option (Int) := foolscaplaw14_find.l0 k l0 0 a1_0 a1_1
theorem foolscaplaw14_find.mono_l : ∀ k, (∀ y0 y1 y2 y3, LeO (foolscaplaw14_find.l0 k y0 y1 y2 y3) (foolscaplaw14_find.l0 (k + 1) y0 y1 y2 y3))
  | 0 => fun _ _ _ _ r h => by simp [foolscaplaw14_find.l0] at h
  | k + 1 => by
    have ih0 := foolscaplaw14_find.mono_l k
    · intro y0 y1 y2 y3
      unfold foolscaplaw14_find.l0
      repeat' first
      | (with_reducible exact ih0 _ _ _ _)
      | (with_reducible exact LeO.refl _)
      | (with_reducible exact LeO.none _)
      | (with_reducible refine LeO.ite ?_ ?_)
      | (with_reducible refine LeO.bind ?_ (fun _ => ?_))
      | exact ih0 _ _ _ _
      | exact LeO.none _
      | refine LeO.ite ?_ ?_
      | refine LeO.bind ?_ (fun _ => ?_)
theorem foolscaplaw14_find.mono : ∀ a0 a1 a2 k, LeO (foolscaplaw14_find.f k a0 a1 a2) (foolscaplaw14_find.f (k + 1) a0 a1 a2) := by
  intro a0 a1 a2 k
  have ih0 := foolscaplaw14_find.mono_l k
  unfold foolscaplaw14_find.f
  repeat' first
      | (with_reducible exact ih0 _ _ _ _)
      | (with_reducible exact LeO.refl _)
      | (with_reducible exact LeO.none _)
      | (with_reducible refine LeO.ite ?_ ?_)
      | (with_reducible refine LeO.bind ?_ (fun _ => ?_))
      | exact ih0 _ _ _ _
      | exact LeO.none _
      | refine LeO.ite ?_ ?_
      | refine LeO.bind ?_ (fun _ => ?_)
set_option maxHeartbeats 8000000 in
set_option maxRecDepth 100000 in
theorem foolscaplaw14_find.calls (k : Nat) (A0 : Option Addr) (c0 : Nat) (l0 : List (S31)) (a1_0 : Int) (a1_1 : Int) (r : Int) (w : World) (hr0 : Kd.C k31 w A0 l0.length l0) (hc0 : l0.length ≤ c0) (h : foolscaplaw14_find.f k l0 a1_0 a1_1 = some r) :
    Calls Try.prog 29 #[.slice A0 l0.length c0, .agg #[.int .i64 a1_0, .int .i64 a1_1]] w fun e w' => e = .returned (.int .i64 r) ∧ Below w.heap.size w w' := by
  have hu31 := Try.underlying31
  have HR0 := Aside0.mk hr0
  have HC0 := Aside0.mk hc0
  clear hr0 hc0
  have HB := Aside0.mk (Below.refl w.heap.size w)
  have H : (foolscaplaw14_find.l0 k l0 0 a1_0 a1_1) = some r := h
  clear h
  have H' := Aside0.mk H
  clear H
  go_enter Try.func29, Try.ntmps29
  go_wp2_with (first | ((with_reducible refine gate_dst (N := 3) rfl ?_); refine box_event ?hg (N := 3) ?hd (cs := #[.int .i64 a1_0, .int .i64 a1_1]) (t := 31) ?hr ?_; (case hd => rfl); (case hg => rfl); (case hr => first | (go_simp; done) | (go_simp; rfl)); intro gb174 hg w3 hbox hb; have n0_ := Aside0.mk (below_step (by repeat (first | (with_reducible first | exact HB.out | apply below_alloc | apply pw_below_drewN | apply below_drew1) | exact HB.out)) hb); have n1_ := Aside0.mk (hbox); have n2_ := Aside0.mk ((by rw [hg]; exact (below_size (by repeat (first | (with_reducible first | exact HB.out | apply below_alloc | apply pw_below_drewN | apply below_drew1) | exact HB.out))) : w.heap.size ≤ gb174)); have n3_ := Aside0.mk ((by rw [hg]; exact (below_size (by repeat (first | (with_reducible first | exact HB.out | apply below_alloc | apply pw_below_drewN | apply below_drew1) | exact HB.out))) : w.heap.size ≤ gb174)); clear HB; have HB := n0_; have BK174 := n1_; have GW174 := n2_; have GE174 := n3_; clear n0_ n1_ n2_ n3_; clear hb hbox hg))
  repeat (go_quiet (first | ((with_reducible refine gate_dst (N := 3) rfl ?_); refine box_event ?hg (N := 3) ?hd (cs := #[.int .i64 a1_0, .int .i64 a1_1]) (t := 31) ?hr ?_; (case hd => rfl); (case hg => rfl); (case hr => first | (go_simp; done) | (go_simp; rfl)); intro gb174 hg w3 hbox hb; have n0_ := Aside0.mk (below_step (by repeat (first | (with_reducible first | exact HB.out | apply below_alloc | apply pw_below_drewN | apply below_drew1) | exact HB.out)) hb); have n1_ := Aside0.mk (hbox); have n2_ := Aside0.mk ((by rw [hg]; exact (below_size (by repeat (first | (with_reducible first | exact HB.out | apply below_alloc | apply pw_below_drewN | apply below_drew1) | exact HB.out))) : w.heap.size ≤ gb174)); have n3_ := Aside0.mk ((by rw [hg]; exact (below_size (by repeat (first | (with_reducible first | exact HB.out | apply below_alloc | apply pw_below_drewN | apply below_drew1) | exact HB.out))) : w.heap.size ≤ gb174)); clear HB; have HB := n0_; have BK174 := n1_; have GW174 := n2_; have GE174 := n3_; clear n0_ n1_ n2_ n3_; clear hb hbox hg)); try go_wp2_with (first | ((with_reducible refine gate_dst (N := 3) rfl ?_); refine box_event ?hg (N := 3) ?hd (cs := #[.int .i64 a1_0, .int .i64 a1_1]) (t := 31) ?hr ?_; (case hd => rfl); (case hg => rfl); (case hr => first | (go_simp; done) | (go_simp; rfl)); intro gb174 hg w3 hbox hb; have n0_ := Aside0.mk (below_step (by repeat (first | (with_reducible first | exact HB.out | apply below_alloc | apply pw_below_drewN | apply below_drew1) | exact HB.out)) hb); have n1_ := Aside0.mk (hbox); have n2_ := Aside0.mk ((by rw [hg]; exact (below_size (by repeat (first | (with_reducible first | exact HB.out | apply below_alloc | apply pw_below_drewN | apply below_drew1) | exact HB.out))) : w.heap.size ≤ gb174)); have n3_ := Aside0.mk ((by rw [hg]; exact (below_size (by repeat (first | (with_reducible first | exact HB.out | apply below_alloc | apply pw_below_drewN | apply below_drew1) | exact HB.out))) : w.heap.size ≤ gb174)); clear HB; have HB := n0_; have BK174 := n1_; have GW174 := n2_; have GE174 := n3_; clear n0_ n1_ n2_ n3_; clear hb hbox hg)))
  go_loopg [5] k (fun kq v5 w' => ∃ (x5_1 : Int), v5 = .int .i64 x5_1 ∧ Aside0 (foolscaplaw14_find.l0 kq l0 x5_1 a1_0 a1_1 = some r) ∧ Aside0 (kq ≤ k) ∧ Aside0 (w'.heap[gb174]? = some (.cells #[.int .i64 a1_0, .int .i64 a1_1] 31 (0, 0))) ∧ Aside0 (Below w.heap.size w w'))
  case atStart => exact ⟨(0), (by first | rfl | (simp; done) | (simp [*]; done)), H', ⟨Nat.le_refl _⟩, ⟨by (with_reducible repeat (first | refine blk_drewN ?_ _ | refine blk_drew ?_ | refine blk_alloc ?_ _)); exact BK174.out⟩, ⟨by repeat (first | (with_reducible first | exact HB.out | apply below_alloc | apply pw_below_drewN | apply below_drew1 | refine below_set ?_ GE174.out) | exact HB.out)⟩⟩
  case round =>
    clear H'
    try clear c2
    try clear p2
    obtain ⟨x5_1, rfl, HA, HK1, BK174, HB⟩ := hrel
    cases gk with
    | zero => exact absurd HA.out (by simp [foolscaplaw14_find.l0])
    | succ k1 =>
      have H := HA.out
      clear HA
      simp only [foolscaplaw14_find.l0] at H
      by_cases c4 : x5_1 < (l0.length : Int)
      · rw [if_pos c4] at H
        have c4b0 : decide (x5_1 < (l0.length : Int)) = true := decide_eq_true c4
        clear c4
        by_cases c5 : 0 ≤ x5_1
        · rw [if_pos c5] at H
          have c5b0 : decide (0 ≤ x5_1) = true := decide_eq_true c5
          clear c5
          by_cases c6 : (((rd_T31 l0 x5_1).f0) == a1_0 && (((rd_T31 l0 x5_1).f1) == a1_1)) = true
          · rw [if_pos c6] at H
            have c6b0 : (((rd_T31 l0 x5_1).f0) == a1_0 && (((rd_T31 l0 x5_1).f1) == a1_1)) = true := c6
            (try (have c6b1 : decide (((rd_T31 l0 x5_1).f0) = a1_0 && (((rd_T31 l0 x5_1).f1) == a1_1)) = true := by simpa using c6))
            (try (have c6b2 : (((rd_T31 l0 x5_1).f0) == a1_0 && (((rd_T31 l0 x5_1).f1) == a1_1)) = true := by simpa using c6))
            clear c6
            obtain rfl := Option.some.inj H
            have p175 : 0 ≤ (x5_1 : Int) := of_decide_eq_true (by first | (with_reducible assumption) | assumption)
            have q175 : x5_1 < (l0.length : Int) := of_decide_eq_true (by first | (with_reducible assumption) | assumption)
            obtain ⟨ad175, e175, hx175_0, hx175_1⟩ := at_T31 HR0.out x5_1 p175 q175
            cases e175
            replace hx175_0 := (HB.out.cell (World.block_lt_of_cell? w _ hx175_0)).trans hx175_0
            replace hx175_1 := (HB.out.cell (World.block_lt_of_cell? w _ hx175_1)).trans hx175_1
            replace p175 := eq_true p175
            replace q175 := eq_true q175
            have hcz7_0 : wr.cell? ⟨gb174, 0, none⟩ = some (.int .i64 a1_0) := (blk_cell BK174.out 0).trans rfl
            have hcz7_1 : wr.cell? ⟨gb174, 1, none⟩ = some (.int .i64 a1_1) := (blk_cell BK174.out 1).trans rfl
            have hfz7_0 := blk_frozen BK174.out 0
            have hfz7_1 := blk_frozen BK174.out 1
            go_wp2
            repeat (go_quiet (fail); try go_wp2)
            go_ret
            exact ⟨by first | rfl | (simp [errW_none, errW_some] <;> rfl) | (simp [*, errW_none, errW_some] <;> rfl), by repeat (first | (with_reducible first | exact HB.out | apply below_alloc | apply pw_below_drewN | apply below_drew1 | refine below_set ?_ GE174.out) | exact HB.out)⟩
          · rw [if_neg c6] at H
            have c6b0 : (((rd_T31 l0 x5_1).f0) == a1_0 && (((rd_T31 l0 x5_1).f1) == a1_1)) = false := by simpa using c6
            (try (have c6b1 : decide (((rd_T31 l0 x5_1).f0) = a1_0 && (((rd_T31 l0 x5_1).f1) == a1_1)) = false := by simpa using c6))
            (try (have c6b2 : (((rd_T31 l0 x5_1).f0) == a1_0 && (((rd_T31 l0 x5_1).f1) == a1_1)) = false := by simpa using c6))
            (try (have c6b3 : ¬ (((rd_T31 l0 x5_1).f0) = a1_0 && (((rd_T31 l0 x5_1).f1) == a1_1)) := by simpa using c6))
            clear c6
            have H' := Aside0.mk H
            clear H
            have p175 : 0 ≤ (x5_1 : Int) := of_decide_eq_true (by first | (with_reducible assumption) | assumption)
            have q175 : x5_1 < (l0.length : Int) := of_decide_eq_true (by first | (with_reducible assumption) | assumption)
            obtain ⟨ad175, e175, hx175_0, hx175_1⟩ := at_T31 HR0.out x5_1 p175 q175
            cases e175
            replace hx175_0 := (HB.out.cell (World.block_lt_of_cell? w _ hx175_0)).trans hx175_0
            replace hx175_1 := (HB.out.cell (World.block_lt_of_cell? w _ hx175_1)).trans hx175_1
            replace p175 := eq_true p175
            replace q175 := eq_true q175
            have hcz8_0 : wr.cell? ⟨gb174, 0, none⟩ = some (.int .i64 a1_0) := (blk_cell BK174.out 0).trans rfl
            have hcz8_1 : wr.cell? ⟨gb174, 1, none⟩ = some (.int .i64 a1_1) := (blk_cell BK174.out 1).trans rfl
            have hfz8_0 := blk_frozen BK174.out 0
            have hfz8_1 := blk_frozen BK174.out 1
            go_wp2
            repeat (go_quiet (fail); try go_wp2)
            go_roundg k1
            case measure => have := HK1.out; omega
            case rel => exact ⟨(wrap64 (x5_1 + 1)), (by first | rfl | (simp; done) | (simp [*]; done)), H', ⟨by have := HK1.out; omega⟩, ⟨by (with_reducible repeat (first | refine blk_drewN ?_ _ | refine blk_drew ?_ | refine blk_alloc ?_ _)); exact BK174.out⟩, ⟨by repeat (first | (with_reducible first | exact HB.out | apply below_alloc | apply pw_below_drewN | apply below_drew1 | refine below_set ?_ GE174.out) | exact HB.out)⟩⟩
        · rw [if_neg c5] at H
          exact absurd H (by simp)
      · rw [if_neg c4] at H
        have c4b0 : decide (x5_1 < (l0.length : Int)) = false := decide_eq_false c4
        clear c4
        obtain rfl := Option.some.inj H
        go_wp2
        repeat (go_quiet (fail); try go_wp2)
        go_ret
        exact ⟨by first | rfl | (simp [errW_none, errW_some] <;> rfl) | (simp [*, errW_none, errW_some] <;> rfl), by repeat (first | (with_reducible first | exact HB.out | apply below_alloc | apply pw_below_drewN | apply below_drew1 | refine below_set ?_ GE174.out) | exact HB.out)⟩
end Go.Proofs.Ytehdjdediobemaa.PC
namespace Go.Proofs.Ytehdjdediobemaa.PC
open Go.RowKit Go.Proofs.YtehdjdediobemaaW.PrintWords Go.Proofs.YtehdjdediobemaaW.PrintLast Go.Proofs.YtehdjdediobemaaW.PrintMore Go.Proofs.Ytehdjdediobemaa.K Go.Proofs.Ytehdjdediobemaa.IX Go.Proofs.Ytehdjdediobemaa.I
set_option linter.unusedVariables false
set_option linter.unusedSimpArgs false
theorem find_law (l : List S31) (x : S31) (hl : l.length ≤ 1000000) : foolscaplaw14_find.f (l.length + 1) l x.f0 x.f1 = some (findS l x) := by
  unfold foolscaplaw14_find.f
  have key : ∀ (m i : Nat), i + m = l.length → foolscaplaw14_find.l0 (m + 1) l (i : Int) x.f0 x.f1 = some (if findS (l.drop i) x < 0 then -1 else (i : Int) + findS (l.drop i) x) := by
    intro m
    induction m with
    | zero =>
      intro i hi
      simp only [foolscaplaw14_find.l0]
      rw [if_neg (by omega), List.drop_of_length_le (by omega)]
      rfl
    | succ m ih =>
      intro i hi
      have hlt : i < l.length := by omega
      have hrd : rd_T31 l (i : Int) = l[i] := by unfold rd_T31; simp [hlt]
      rw [foolscaplaw14_find.l0, if_pos (by omega), if_pos (by omega), hrd, List.drop_eq_getElem_cons hlt]
      by_cases hq : idq l[i] x = true
      · have he := (idq_iff _ _).1 hq
        have e2 : findS (l[i] :: l.drop (i + 1)) x = 0 := by simp only [findS]; rw [if_pos hq]
        rw [if_pos (by rw [he]; simp), e2, if_neg (by decide), Int.add_zero]
      · have hq2 : ¬ ((l[i].f0 == x.f0 && (l[i].f1 == x.f1)) = true) := fun k => hq ((idq_iff _ _).2 (by simp at k; exact id_ext k.1 k.2))
        rw [if_neg hq2, wrap_n i (by omega), ih (i + 1) (by omega)]
        have e2 : findS (l[i] :: l.drop (i + 1)) x = if findS (l.drop (i + 1)) x < 0 then -1 else findS (l.drop (i + 1)) x + 1 := by
          conv => lhs; simp only [findS]
          rw [if_neg hq]
        rw [e2]
        congr 1
        generalize findS (l.drop (i + 1)) x = z
        by_cases hz : z < 0
        · rw [if_pos hz, if_pos hz, if_pos (by decide)]
        · rw [if_neg hz, if_neg hz, if_neg (by omega)]
          omega
  have := key l.length 0 (by omega)
  rw [show ((0 : Nat) : Int) = 0 from rfl, List.drop_zero] at this
  rw [this]
  congr 1
  have hr : -1 ≤ findS l x := by
    clear this key hl
    induction l with
    | nil => simp [findS]
    | cons e l ih => simp only [findS]; split <;> (try split) <;> omega
  split <;> omega
theorem find_is {w : World} {A : Option Addr} {c : Nat} {l : List S31} (h1 : Kd.C k31 w A l.length l) (hc : l.length ≤ c) (hl : l.length ≤ 1000000) (x : S31) : Calls Try.prog 29 #[.slice A l.length c, .agg #[.int .i64 x.f0, .int .i64 x.f1]] w fun e w' => e = .returned (.int .i64 (findS l x)) ∧ Below w.heap.size w w' :=
  foolscaplaw14_find.calls _ A c l x.f0 x.f1 _ w h1 hc (find_law l x hl)
end Go.Proofs.Ytehdjdediobemaa.PC
namespace Go.Proofs.Ytehdjdediobemaa.PC
open Go.RowKit Go.Proofs.YtehdjdediobemaaW.PrintWords Go.Proofs.YtehdjdediobemaaW.PrintLast Go.Proofs.YtehdjdediobemaaW.PrintMore Go.Proofs.Ytehdjdediobemaa.K Go.Proofs.Ytehdjdediobemaa.IX Go.Proofs.Ytehdjdediobemaa.I
attribute [local go_sem] max2_int min2_int max_two min_two max_three min_three max_four min_four
attribute [local go_sem high] eqA31
set_option linter.unusedVariables false
set_option linter.unusedSimpArgs false
theorem with_snoc (l : List S31) (x : S31) (i : Nat) (h : i < l.length) : withS (l.take (i + 1)) x = if idq l[i] x = true then withS (l.take i) x else withS (l.take i) x ++ [l[i]] := by
  have e : l.take (i + 1) = l.take i ++ [l[i]] := take_snoc l i h
  rw [e, with_app]
  by_cases hq : idq l[i] x = true
  · rw [if_pos hq]; unfold withS; simp [hq]
  · rw [if_neg hq]; have : idq l[i] x = false := by simpa using hq
    unfold withS; simp [this]
theorem with_len (l : List S31) (x : S31) : (withS l x).length ≤ l.length := List.length_filter_le _ _
set_option maxHeartbeats 4000000 in
set_option maxRecDepth 100000 in
theorem without_calls (w : World) (A : Option Addr) (cap : Nat) (l : List S31) (x : S31) (hr : Kd.C k31 w A l.length l) (hc : l.length ≤ cap) (hl : l.length ≤ 100000) :
    Calls Try.prog 28 #[.slice A l.length cap, .agg #[.int .i64 x.f0, .int .i64 x.f1]] w fun e w' => ∃ A' n c', e = .returned (.slice A' n c') ∧ (withS l x).length = n ∧ St w w' (sep (isRow k31 31 (.slice A' n c') (withS l x)) emp) := by
  have HRD := Lib.hid hr
  obtain ⟨len, hlen⟩ : ∃ len, l.length = len := ⟨_, rfl⟩
  have HLEN := Lib.hid hlen
  rw [hlen] at hc hl
  rw [hlen]
  have HQ := Lib.hid (fun y : S31 => idq_iff y x)
  have HX := Lib.hid (rfl : x = x)
  obtain ⟨x0, x1⟩ := x
  have HS := Lib.hid (((St.nil k31 31 asn_emp (St.emp w)).mkblk (asn_sep (asn_row k31 31 (.slice none 0 0) []) asn_emp) (.cells #[.int .i64 x0, .int .i64 x1] 31 (0, 0))).turn)
  clear hr hlen
  go_enter Try.func28, Try.ntmps28
  go_wp2
  go_loopg [5, 6] len (fun kq v5 v6 wr => ∃ (i n c : Nat) (A1 : Option Addr), v5 = .slice A1 n c ∧ v6 = .int .i64 (i : Int) ∧ Aside0 (kq + i = len ∧ (withS (l.take i) ⟨x0, x1⟩).length = n ∧ St w wr (sep (isRow k31 31 (.slice A1 n c) (withS (l.take i) ⟨x0, x1⟩)) (sep (isBlk w.heap.size (.cells #[.int .i64 x0, .int .i64 x1] 31 (0, 0))) emp))))
  case atStart => exact ⟨0, 0, 0, none, rfl, rfl, by omega, rfl, HS.out⟩
  case round =>
    obtain ⟨i, n, c, A1, rfl, rfl, HI⟩ := hrel
    have hki := HI.out.1
    have hS := HI.out.2.2
    have hn := HI.out.2.1
    by_cases hlt : i < len
    · have hil : i < l.length := by rw [HLEN.out]; omega
      obtain ⟨ad, rfl, -⟩ := cell_id HRD.out hS.bel i hil
      have HCI := Lib.hid (fun W (hb : Below w.heap.size w W) => show W.cell? (ad.add (i * 2)) = some (.int .i64 l[i].f0) ∧ W.cell? ⟨(ad.add (i * 2)).block, (ad.add (i * 2)).off + 1, none⟩ = some (.int .i64 l[i].f1) from by
        obtain ⟨ad2, e2, c0, c1⟩ := cell_id HRD.out hb i hil
        injection e2 with e2
        subst e2
        exact ⟨c0, c1⟩)
      have hsn := with_snoc l ⟨x0, x1⟩ i hil
      have hwl := with_len (l.take i) ⟨x0, x1⟩
      have hwt : (l.take i).length ≤ i := List.length_take_le _ _
      have hq2 := HQ.out l[i]
      have hd1 : decide (i < len) = true := by simpa using hlt
      obtain ⟨y, hy⟩ : ∃ y, l[i] = y := ⟨_, rfl⟩
      rw [hy] at hsn hq2 HCI
      clear hy
      obtain ⟨y0, y1⟩ := y
      simp only at HCI
      have hn9 : n ≤ 100000 := by omega
      have HYS := Lib.hid hsn
      have HSS := Lib.hid hS
      have HNN := Lib.hid hn
      obtain ⟨c0, c1⟩ := HCI.out _ hS.bel
      have hb := hS.snd.blk
      have x0c : wr.cell? ⟨w.heap.size, 0, none⟩ = some (.int .i64 x0) := (cell_of hb 0).trans rfl
      have x1c : wr.cell? ⟨w.heap.size, 1, none⟩ = some (.int .i64 x1) := (cell_of hb 1).trans rfl
      have AX := Lib.hid (fun A1 c1 => asn_sep (asn_row k31 31 (.slice A1 n c1) (withS (l.take i) ⟨x0, x1⟩)) (asn_sep (asn_blk w.heap.size (.cells #[.int .i64 x0, .int .i64 x1] 31 (0, 0))) asn_emp))
      by_cases hq : idq ⟨y0, y1⟩ ⟨x0, x1⟩ = true
      · have HE := Lib.hid (show withS (l.take (i + 1)) ⟨x0, x1⟩ = withS (l.take i) ⟨x0, x1⟩ by rw [HYS.out, if_pos hq])
        have he := hq2.1 hq
        injection he with e0 e1
        subst e0 e1
        clear hS hn hsn hwl hwt hq2 HI hb hq HYS HQ
        go_wp2
        go_quiet (fail)
        go_wp2
        go_roundg (len - (i + 1))
        case measure => omega
        case rel => exact ⟨i + 1, n, c, A1, rfl, by go_num, by omega, by rw [HE.out]; exact HNN.out, by rw [HE.out]; exact HSS.out.drewN (AX.out _ _) _⟩
      · have HE := Lib.hid (show withS (l.take (i + 1)) ⟨x0, x1⟩ = withS (l.take i) ⟨x0, x1⟩ ++ [⟨y0, y1⟩] by rw [HYS.out, if_neg hq])
        have hq3 : (y0 == x0 && y1 == x1) = false := by simpa [idq] using hq
        clear hS hn hsn hwl hwt hq2 HI hb hq HYS HQ
        go_wp2
        go_quiet (fail)
        have HSQ := Lib.hid (HSS.out.drewN (AX.out _ _) nq)
        generalize wr.drewN nq = wq at HSQ ⊢
        obtain ⟨d0, d1⟩ := HCI.out _ HSQ.out.bel
        have HL6 := Lib.hid (lit_st flat_ID 31 (AX.out _ _) HSQ.out ⟨y0, y1⟩)
        obtain ⟨B5, c55, e5, hc5', hr5'⟩ := HL6.out.reads
        injection e5 with e5 e54 e55
        subst e5 e55
        clear e54
        obtain ⟨B6, n6, c6, w7, e7, hn7, hS7⟩ := app_st flat_ID (t := 45) (e := 31) (bytes := 16) Try.underlying45 info31 rfl (by decide) (asn_sep (asn_blk w.heap.size (.cells #[.int .i64 x0, .int .i64 x1] 31 (0, 0))) asn_emp) HL6.out.snd hr5' hc5' (by rw [HNN.out]; simp only [List.length_singleton]; omega) 45
        have HE7 := Lib.hid e7
        have HS7 := Lib.hid hS7
        have HN7 := Lib.hid hn7
        clear e7 hS7 hr5' hc5' hn7
        go_wp2_with (at_builtin; refine Lib.wpList_append_run _ rfl _ _ _ _ rfl _ _ rfl rfl _ _ HE7.out ?_)
        go_roundg (len - (i + 1))
        case measure => omega
        case rel => exact ⟨i + 1, n6, c6, B6, rfl, by go_num, by omega, by rw [HE.out]; exact HN7.out.symm, by rw [HE.out]; exact HS7.out⟩
    · obtain rfl : i = len := by omega
      have hti : l.take i = l := List.take_of_length_le (by rw [HLEN.out]; exact Nat.le_refl _)
      rw [hti] at hS hn
      have hd1 : decide (i < i) = false := by simp
      have HSS := Lib.hid hS.swap.snd.with_emp
      have HNN := Lib.hid hn
      clear hS hn HI hti
      go_wp2
      go_ret
      exact ⟨_, _, _, rfl, HNN.out, HSS.out⟩
end Go.Proofs.Ytehdjdediobemaa.PC
namespace Go.Proofs.Ytehdjdediobemaa.PC
open Go.RowKit Go.Proofs.YtehdjdediobemaaW.PrintWords Go.Proofs.YtehdjdediobemaaW.PrintLast Go.Proofs.YtehdjdediobemaaW.PrintMore Go.Proofs.Ytehdjdediobemaa.K Go.Proofs.Ytehdjdediobemaa.IX Go.Proofs.Ytehdjdediobemaa.I
set_option linter.unusedVariables false
set_option linter.unusedSimpArgs false
theorem ids_all (l : List S75) : idsS (fun _ : S75 => true) l = l.map (·.f0) := by
  unfold idsS
  rw [List.filter_eq_self.2 (fun _ _ => rfl)]
theorem all_nm {w0 w : World} {p n : Nat} {T : TS} {B : As} {a : List S31} (b : Asn B) (h : St w0 w (sep (isTx p T) B)) (hl : T.l.length ≤ 100000) (ha : T.l.map (·.f0) = a) (hn : a.length = n) : Calls Try.prog 24 #[.pointer (some ⟨p, 0, none⟩)] w fun e w' => ∃ A c, e = .returned (.slice A n c) ∧ Below w.heap.size w w' ∧ St w0 w' (sep (isRow k31 31 (.slice A n c) a) (sep (isTx p T) B)) := by
  obtain ⟨F, ⟨FA, FB, h1, h2, rfl, hd⟩, hb, hn2⟩ := id h
  refine (all_calls_ids w FA p T h1 (by omega)).mono ?_
  rintro e w' ⟨v, rfl, hr, hb2⟩
  rw [ids_all, ha] at hr
  obtain ⟨A, c, rfl⟩ := Kd.R_slice hr
  rw [hn] at hr ⊢
  exact ⟨A, c, rfl, hb2, St.row rfl h (asn_sep (asn_tx p T) b) hb2 hr⟩
theorem ids_nm {w0 w : World} {p n : Nat} {T : TS} {B : As} {a : List S31} (b : Asn B) (h : St w0 w (sep (isTx p T) B)) (hl : T.l.length ≤ 100000) (ha : aliveIds T.l = a) (hn : a.length = n) : Calls Try.prog 22 #[.pointer (some ⟨p, 0, none⟩)] w fun e w' => ∃ A c, e = .returned (.slice A n c) ∧ Below w.heap.size w w' ∧ St w0 w' (sep (isRow k31 31 (.slice A n c) a) (sep (isTx p T) B)) := by
  obtain ⟨F, ⟨FA, FB, h1, h2, rfl, hd⟩, hb, hn2⟩ := id h
  refine (alive_calls_ids w FA p T h1 (by omega)).mono ?_
  rintro e w' ⟨v, rfl, hr, hb2⟩
  unfold aliveIds at ha
  rw [ha] at hr
  obtain ⟨A, c, rfl⟩ := Kd.R_slice hr
  rw [hn] at hr ⊢
  exact ⟨A, c, rfl, hb2, St.row rfl h (asn_sep (asn_tx p T) b) hb2 hr⟩
/-- A row as it is read in a later world. -/
theorem St.later {α : Type} {d : Kd α} {e : Nat} {w0 w W : World} {B : As} {A : Option Addr} {n c : Nat} {xs : List α} (h : St w0 w (sep (isRow d e (.slice A n c) xs) B)) (hb : Below w.heap.size w W) : xs.length = n ∧ n ≤ c ∧ Kd.C d W A xs.length xs := by
  obtain ⟨A2, c2, e2, h1, h2⟩ := (h.fst.below (asn_row _ _ _ _) hb).with_emp.reads
  injection e2 with e3 e4 e5
  subst e3 e5
  exact ⟨e4.symm, by omega, h2⟩
theorem same_nm {w0 w1 w0' w2 W : World} {B B' : As} {A A' : Option Addr} {n c c' : Nat} {xs : List S31} (h1 : St w0 w1 (sep (isRow k31 31 (.slice A n c) xs) B)) (b1 : Below w1.heap.size w1 W) (h2 : St w0' w2 (sep (isRow k31 31 (.slice A' n c') xs) B')) (b2 : Below w2.heap.size w2 W) (hl : n ≤ 100000) : Calls Try.prog 23 #[.slice A n c, .slice A' n c'] W fun e w' => e = .returned (.bool true) ∧ Below W.heap.size W w' := by
  obtain ⟨e1, k1, r1⟩ := h1.later b1
  obtain ⟨e2, k2, r2⟩ := h2.later b2
  have := sameIDs_is r1 (c := c) (by omega) r2 (d := c') (by omega) (by omega)
  rw [e1] at this
  refine this.mono ?_
  rintro e w' ⟨he, m, rfl⟩
  exact ⟨he, pw_below_drewN (Below.refl _ _) m⟩
theorem without_nm {w0 w1 W : World} {B : As} {A : Option Addr} {n m c : Nat} {xs ys : List S31} {x : S31} (h1 : St w0 w1 (sep (isRow k31 31 (.slice A n c) xs) B)) (b1 : Below w1.heap.size w1 W) (hl : n ≤ 100000) (hy : withS xs x = ys) (hm : ys.length = m) : Calls Try.prog 28 #[.slice A n c, .agg #[.int .i64 x.f0, .int .i64 x.f1]] W fun e w' => ∃ A' c', e = .returned (.slice A' m c') ∧ Below W.heap.size W w' ∧ St W w' (sep (isRow k31 31 (.slice A' m c') ys) emp) := by
  obtain ⟨e1, k1, r1⟩ := h1.later b1
  have := without_calls W A c xs x r1 (by omega) (by omega)
  rw [e1, hy, hm] at this
  refine this.mono ?_
  rintro e w' ⟨A', n', c', he, rfl, hS⟩
  exact ⟨A', c', he, hS.bel, hS⟩
theorem find_nm {w0 w1 W : World} {B : As} {A : Option Addr} {n c : Nat} {xs : List S31} {x : S31} {z : Int} (h1 : St w0 w1 (sep (isRow k31 31 (.slice A n c) xs) B)) (b1 : Below w1.heap.size w1 W) (hl : n ≤ 100000) (hz : findS xs x = z) : Calls Try.prog 29 #[.slice A n c, .agg #[.int .i64 x.f0, .int .i64 x.f1]] W fun e w' => e = .returned (.int .i64 z) ∧ Below W.heap.size W w' := by
  obtain ⟨e1, k1, r1⟩ := h1.later b1
  have := find_is r1 (c := c) (by omega) (by omega) x
  rw [e1, hz] at this
  exact this
theorem alive_nm {w0 w1 W : World} {p : Nat} {T : TS} {B : As} {r : Bool} {x : S31} (b : Asn B) (h : St w0 w1 (sep (isTx p T) B)) (b1 : Below w1.heap.size w1 W) (hl : T.l.length ≤ 100000) (hr : aliveS T.l x = r) : Calls Try.prog 27 #[.pointer (some ⟨p, 0, none⟩), .agg #[.int .i64 x.f0, .int .i64 x.f1]] W fun e w' => e = .returned (.bool r) ∧ Below W.heap.size W w' := by
  obtain ⟨F, ⟨FA, FB, h2, h3, rfl, hd⟩, hb, hn⟩ := h.below (asn_sep (asn_tx p T) b) b1
  have := alive_calls W FA p T x h2 (by omega)
  rw [hr] at this
  exact this
end Go.Proofs.Ytehdjdediobemaa.PC
namespace Go.Proofs.Ytehdjdediobemaa.PC
open Go.RowKit Go.Proofs.YtehdjdediobemaaW.PrintWords Go.Proofs.YtehdjdediobemaaW.PrintLast Go.Proofs.YtehdjdediobemaaW.PrintMore Go.Proofs.Ytehdjdediobemaa.K Go.Proofs.Ytehdjdediobemaa.IX Go.Proofs.Ytehdjdediobemaa.I
attribute [local go_sem] max2_int min2_int max_two min_two max_three min_three max_four min_four
attribute [local go_sem high] eqA31
set_option linter.unusedVariables false
set_option linter.unusedSimpArgs false
theorem ref_cases (T : TS) (o : S34) : (∃ e, putT T o = ((false, e), T)) ∨ (refS T o = none ∧ putT T o = ((true, 0), takeS T o)) := by
  unfold putT
  cases h : refS T o with
  | some e => exact .inl ⟨e, rfl⟩
  | none => exact .inr ⟨rfl, rfl⟩
set_option maxHeartbeats 8000000 in
set_option maxRecDepth 100000 in
theorem keeps_row (A : Option Addr) (cap : Nat) (l : List S34) (w : World) (hr : Kd.C k34 w A l.length l) (hc : l.length ≤ cap) (hy : l.length * 56 ≤ 140737488351232) (hg : ∀ y ∈ l, True) :
    Calls Try.prog 8 #[.slice A l.length cap] w fun e w' => e = .returned (.bool true) ∧ Below w.heap.size w w' := by
  have HRD := Lib.hid hr
  obtain ⟨len, hlen⟩ : ∃ len, l.length = len := ⟨_, rfl⟩
  have HLEN := Lib.hid hlen
  rw [hlen] at hc hy
  obtain ⟨N, hN⟩ : ∃ N, min len 30 = N := ⟨_, rfl⟩
  have hN1 : N ≤ len := by omega
  have hN2 : N ≤ 30 := by omega
  have HN3 := Lib.hid (show len ≤ N ∨ N = 30 by omega)
  have hl2 : len ≤ 140737488351232 := by omega
  have HSH := Lib.hid (shown14_calls w)
  rw [hlen]
  clear hr hg hy hN hlen
  go_enter Try.func8, Try.ntmps8
  go_wp2_with (first
    | (go_at_call 11; refine HSH.out.mono ?_; rintro e w1 ⟨rfl, hb⟩; have HS := Lib.hid ((St.emp w).below asn_emp hb); clear hb)
    | (go_at_call 12; refine (new_st asn_emp HS.out).mono ?_; rintro e w2 ⟨p, rfl, hS⟩; have HS := Lib.hid (show PutS w w2 p 0 from ⟨T0, _, inv0, Nat.le_refl _, hS⟩); clear hS))
  go_loopg [5] N (fun kq v5 wr => ∃ (i : Nat), v5 = .int .i64 (i : Int) ∧ Aside0 (kq + i = N ∧ PutS w wr p i))
  case atStart => exact ⟨0, rfl, by omega, HS.out⟩
  case round =>
    obtain ⟨i, rfl, HI⟩ := hrel
    have hki := HI.out.1
    obtain ⟨T, Fo', hI, hol, hS⟩ := HI.out.2
    by_cases hlt : i < N
    · have hil : i < l.length := by rw [HLEN.out]; omega
      obtain ⟨ad, rfl, -⟩ := cell_op HRD.out hS.bel i hil
      have HC := Lib.hid (fun W (hb : Below w.heap.size w W) => show W.cell? (ad.add (i * 7)) = some (.int .i64 l[i].f0.f0) ∧ W.cell? ⟨(ad.add (i * 7)).block, (ad.add (i * 7)).off + 1, none⟩ = some (.int .i64 l[i].f0.f1) ∧ W.cell? ⟨(ad.add (i * 7)).block, (ad.add (i * 7)).off + 2, none⟩ = some (.int .i64 l[i].f1) ∧ W.cell? ⟨(ad.add (i * 7)).block, (ad.add (i * 7)).off + 3, none⟩ = some (.bool l[i].f2) ∧ W.cell? ⟨(ad.add (i * 7)).block, (ad.add (i * 7)).off + 4, none⟩ = some (.int .i64 l[i].f3.f0) ∧ W.cell? ⟨(ad.add (i * 7)).block, (ad.add (i * 7)).off + 5, none⟩ = some (.int .i64 l[i].f3.f1) ∧ W.cell? ⟨(ad.add (i * 7)).block, (ad.add (i * 7)).off + 6, none⟩ = some (.int .i32 l[i].f4) from by
        obtain ⟨ad2, e2, c⟩ := cell_op HRD.out hb i hil
        injection e2 with e2
        subst e2
        exact c)
      generalize l[i] = o at HC
      have hd1 : decide (i < len) = true := by simp; omega
      have hd2 : decide ((i : Int) < 30) = true := by simp; omega
      have hll := hI.ll
      have hll2 : T.l.length ≤ 1000 := by omega
      obtain ⟨na, hna⟩ : ∃ na, (T.l.map (·.f0)).length = na := ⟨_, rfl⟩
      obtain ⟨nb, hnb⟩ : ∃ nb, (aliveIds T.l).length = nb := ⟨_, rfl⟩
      have hna2 : na ≤ 1000 := by rw [List.length_map] at hna; omega
      have hnb2 : nb ≤ 1000 := by have := idsS_len (fun e : S75 => e.f2) T.l; unfold aliveIds at hnb; omega
      have KA := Lib.hid (fun W B (b : Asn B) (h : St w W (sep (isTx p T) B)) => all_nm b h (by omega) rfl hna)
      have KI := Lib.hid (fun W B (b : Asn B) (h : St w W (sep (isTx p T) B)) => ids_nm b h (by omega) rfl hnb)
      have AA := Lib.hid (fun A1 c1 A2 c2 => asn_sep (asn_row k31 31 (.slice A1 nb c1) (aliveIds T.l)) (asn_sep (asn_row k31 31 (.slice A2 na c2) (T.l.map (·.f0))) asn_emp))
      rcases ref_cases T o with ⟨ec, hp⟩ | ⟨hno, hp⟩
      · have KP := Lib.hid (fun W B (b : Asn B) (h : St w W (sep (isTx p T) B)) => put_named hp hI (by omega) b h)
        have HNX := Lib.hid (show ∀ W, St w W (sep (isTx p T) emp) → PutS w W p (i + 1) from fun W h => ⟨T, Fo', hI, by omega, h⟩)
        have HS0 := Lib.hid hS
        have HC1 := Lib.hid (fun W B (h : St w W B) => HC.out W h.bel)
        unfold opV at KP
        obtain ⟨⟨o0, o1⟩, o2, o3, ⟨o4, o5⟩, o6⟩ := o
        simp only at HC HC1 KP
        clear hS hI hol hll hp HI
        go_wp2_with (first
          | (go_at_call 24; with_reducible refine (KA.out _ _ asn_emp HS0.out).mono ?_; rintro e w3 ⟨A1, c1, rfl, hb3, hS3⟩; have HS3 := Lib.hid hS3.turn; clear hS3 hb3)
          | (go_at_call 22; with_reducible refine (KI.out _ _ (asn_sep (asn_row _ _ _ _) asn_emp) HS3.out).mono ?_; rintro e w4 ⟨A2, c2, rfl, hb4, hS4⟩; have HS4 := Lib.hid hS4.turn; clear hS4 hb4; obtain ⟨c0, c1', c2', c3, c4, c5, c6⟩ := HC1.out _ _ HS4.out)
          | (go_at_call 14; with_reducible refine (KP.out _ _ (AA.out _ _ _ _) HS4.out).mono ?_; rintro e w5 ⟨rfl, hS5⟩; have HS5 := Lib.hid hS5; clear hS5 c0 c1' c2' c3 c4 c5 c6)
          | (go_at_call 24; with_reducible refine (KA.out _ _ (AA.out _ _ _ _) HS5.out).mono ?_; rintro e w6 ⟨A3, c3, rfl, hb6, hS6⟩; have HS6 := Lib.hid hS6; have HB6 := Lib.hid hb6; clear hS6 hb6)
          | (go_at_call 23; with_reducible refine (same_nm HS6.out.snd.snd.snd (Below.refl _ _) HS6.out (Below.refl _ _) (by omega)).mono ?_; rintro e w7 ⟨rfl, hb7⟩; have HS7 := Lib.hid (HS6.out.below (asn_sep (asn_row _ _ _ _) (asn_sep (asn_tx _ _) (AA.out _ _ _ _))) hb7); clear hb7)
          | (go_at_call 22; with_reducible refine (KI.out _ _ (AA.out _ _ _ _) HS7.out.snd).mono ?_; rintro e w8 ⟨A4, c4, rfl, hb8, hS8⟩; have HS8 := Lib.hid hS8; clear hS8 hb8)
          | (go_at_call 23; with_reducible refine (same_nm HS8.out.snd.snd (Below.refl _ _) HS8.out (Below.refl _ _) (by omega)).mono ?_; rintro e w9 ⟨rfl, hb9⟩; have HS9 := Lib.hid (HS8.out.snd.fst.with_emp.below (asn_sep (asn_tx _ _) asn_emp) hb9); clear hb9))
        go_roundg (N - (i + 1))
        case measure => omega
        case rel => exact ⟨i + 1, by go_num, by omega, HNX.out _ HS9.out⟩
      · obtain ⟨Fo2, hI2⟩ := inv_take hI hno
        have hol2 : (takeS T o).ops.length ≤ i + 1 := by
          have : (takeS T o).ops.length = T.ops.length + 1 := by
            show (T.ops ++ [o]).length = _
            rw [List.length_append]; rfl
          omega
        have hll3 := hI2.ll
        have hll4 : (takeS T o).l.length ≤ 1000 := by omega
        have KP := Lib.hid (fun W B (b : Asn B) (h : St w W (sep (isTx p T) B)) => put_named hp hI (by omega) b h)
        have HNX := Lib.hid (show ∀ W, St w W (sep (isTx p (takeS T o)) emp) → PutS w W p (i + 1) from fun W h => ⟨takeS T o, Fo2, hI2, hol2, h⟩)
        have HS0 := Lib.hid hS
        have HC1 := Lib.hid (fun W B (h : St w W B) => HC.out W h.bel)
        obtain ⟨nb2, hnb3⟩ : ∃ n, (aliveIds (takeS T o).l).length = n := ⟨_, rfl⟩
        have hnb4 : nb2 ≤ 1000 := by have := idsS_len (fun e : S75 => e.f2) (takeS T o).l; unfold aliveIds at hnb3; omega
        have KI2 := Lib.hid (fun W B (b : Asn B) (h : St w W (sep (isTx p (takeS T o)) B)) => ids_nm b h (by omega) rfl hnb3)
        have HLL := Lib.hid (show (takeS T o).l.length ≤ 100000 by omega)
        cases hins : o.f2 with
        | false =>
          obtain ⟨e1, e2, e3⟩ := keeps_gone hI hno hins
          have KA2 := Lib.hid (fun W B (b : Asn B) (h : St w W (sep (isTx p (takeS T o)) B)) => all_nm b h (by omega) e1 hna)
          have E2 := Lib.hid e2
          have E3 := Lib.hid e3
          have HNB := Lib.hid hnb3
          unfold opV at KP
          obtain ⟨⟨o0, o1⟩, o2, o3, ⟨o4, o5⟩, o6⟩ := o
          simp only at HC HC1 KP E2 E3 hins
          subst hins
          generalize takeS T ⟨⟨o0, o1⟩, o2, false, ⟨o4, o5⟩, o6⟩ = T' at *
          clear hS hI hol hll hp HI hno hI2 hol2 hll3 hll4 e1 e2 e3 hnb3
          go_wp2_with (first
            | (go_at_call 24; with_reducible refine (KA.out _ _ asn_emp HS0.out).mono ?_; rintro e w3 ⟨A1, c1, rfl, hb3, hS3⟩; have HS3 := Lib.hid hS3.turn; clear hS3 hb3)
            | (go_at_call 22; with_reducible refine (KI.out _ _ (asn_sep (asn_row _ _ _ _) asn_emp) HS3.out).mono ?_; rintro e w4 ⟨A2, c2, rfl, hb4, hS4⟩; have HS4 := Lib.hid hS4.turn; clear hS4 hb4; obtain ⟨c0, c1', c2', c3, c4, c5, c6⟩ := HC1.out _ _ HS4.out)
            | (go_at_call 14; with_reducible refine (KP.out _ _ (AA.out _ _ _ _) HS4.out).mono ?_; rintro e w5 ⟨rfl, hS5⟩; have HS5 := Lib.hid hS5; clear hS5 c0 c1' c2' c3 c4 c5 c6)
            | (go_at_call 24; with_reducible refine (KA2.out _ _ (AA.out _ _ _ _) HS5.out).mono ?_; rintro e w6 ⟨A3, c3, rfl, hb6, hS6⟩; have HS6 := Lib.hid hS6; obtain ⟨_, _, _, c4q, _⟩ := HC1.out _ _ HS6.out; clear hS6 hb6)
            | (go_at_call 23; with_reducible refine (same_nm HS6.out.snd.snd.snd (Below.refl _ _) HS6.out (Below.refl _ _) (by omega)).mono ?_; rintro e w7 ⟨rfl, hb7⟩; have HS7 := Lib.hid (HS6.out.below (asn_sep (asn_row _ _ _ _) (asn_sep (asn_tx _ _) (AA.out _ _ _ _))) hb7); obtain ⟨_, _, _, _, c5q, c6q, _⟩ := HC1.out _ _ HS7.out; clear hb7 c4q)
            | (go_at_call 28; with_reducible refine (without_nm (x := ⟨o4, o5⟩) HS7.out.snd.snd (Below.refl _ _) (by omega) E2.out HNB.out).mono ?_; rintro e w8 ⟨A4, c4, rfl, hb8, hS8⟩; have HSW := Lib.hid hS8; have HS8 := Lib.hid (HS7.out.snd.below (asn_sep (asn_tx _ _) (AA.out _ _ _ _)) hb8); clear hS8 hb8 c5q c6q)
            | (go_at_call 22; with_reducible refine (KI2.out _ _ (AA.out _ _ _ _) HS8.out).mono ?_; rintro e w9 ⟨A5, c5, rfl, hb9, hS9⟩; have HS9 := Lib.hid hS9; have HB9 := Lib.hid hb9; clear hS9 hb9)
            | (go_at_call 23; with_reducible refine (same_nm HSW.out HB9.out HS9.out (Below.refl _ _) (by omega)).mono ?_; rintro e w10 ⟨rfl, hb10⟩; have HS10 := Lib.hid (HS9.out.snd.fst.with_emp.below (asn_sep (asn_tx _ _) asn_emp) hb10); obtain ⟨_, _, _, _, d5, d6, _⟩ := HC1.out _ _ HS10.out; clear hb10)
            | (go_at_call 27; with_reducible refine (alive_nm (x := ⟨o4, o5⟩) asn_emp HS10.out (Below.refl _ _) HLL.out E3.out).mono ?_; rintro e w11 ⟨rfl, hb11⟩; have HS11 := Lib.hid (HS10.out.below (asn_sep (asn_tx _ _) asn_emp) hb11); clear hb11 d5 d6))
          go_roundg (N - (i + 1))
          case measure => omega
          case rel => exact ⟨i + 1, by go_num, by omega, HNX.out _ HS11.out⟩
        | true =>
          obtain ⟨e1, e2, e3, e4, e5⟩ := keeps_ins hI hno hins
          obtain ⟨na2, hna3⟩ : ∃ n, ((takeS T o).l.map (·.f0)).length = n := ⟨_, rfl⟩
          have hna4 : na2 ≤ 1000 := by rw [List.length_map] at hna3; omega
          have KA2 := Lib.hid (fun W B (b : Asn B) (h : St w W (sep (isTx p (takeS T o)) B)) => all_nm b h (by omega) rfl hna3)
          have E1 := Lib.hid e1
          have E2 := Lib.hid e2
          have E3 := Lib.hid e3
          have HNA := Lib.hid hna
          have HNB := Lib.hid hnb
          obtain ⟨z1, hz1⟩ : ∃ z, findS ((takeS T o).l.map (·.f0)) o.f0 = z := ⟨_, rfl⟩
          obtain ⟨z2, hz2⟩ : ∃ z, findS ((takeS T o).l.map (·.f0)) o.f3 = z := ⟨_, rfl⟩
          rw [hz1] at e4 e5
          rw [hz2] at e5
          have HZ1 := Lib.hid hz1
          have HZ2 := Lib.hid hz2
          have hd3 : decide (z1 < 0) = false := by simp; omega
          have hd4 : decide (z1 ≤ z2) = false := by simp; omega
          unfold opV at KP
          obtain ⟨⟨o0, o1⟩, o2, o3, ⟨o4, o5⟩, o6⟩ := o
          simp only at HC HC1 KP E1 E2 E3 hins HZ1 HZ2
          subst hins
          generalize takeS T ⟨⟨o0, o1⟩, o2, true, ⟨o4, o5⟩, o6⟩ = T' at *
          have AT := Lib.hid (fun A1 c1 A2 c2 A3 c3 => asn_sep (asn_row k31 31 (.slice A3 na2 c3) (T'.l.map (·.f0))) (asn_sep (asn_tx p T') (asn_sep (asn_row k31 31 (.slice A1 nb c1) (aliveIds T.l)) (asn_sep (asn_row k31 31 (.slice A2 na c2) (T.l.map (·.f0))) asn_emp))))
          clear hS hI hol hll hp HI hno hI2 hol2 hll3 hll4 e1 e2 e3 e4 e5 hnb3 hz1 hz2 hna3
          go_wp2_with (first
            | (go_at_call 24; with_reducible refine (KA.out _ _ asn_emp HS0.out).mono ?_; rintro e w3 ⟨A1, c1, rfl, hb3, hS3⟩; have HS3 := Lib.hid hS3.turn; clear hS3 hb3)
            | (go_at_call 22; with_reducible refine (KI.out _ _ (asn_sep (asn_row _ _ _ _) asn_emp) HS3.out).mono ?_; rintro e w4 ⟨A2, c2, rfl, hb4, hS4⟩; have HS4 := Lib.hid hS4.turn; clear hS4 hb4; obtain ⟨c0, c1', c2', c3, c4, c5, c6⟩ := HC1.out _ _ HS4.out)
            | (go_at_call 14; with_reducible refine (KP.out _ _ (AA.out _ _ _ _) HS4.out).mono ?_; rintro e w5 ⟨rfl, hS5⟩; have HS5 := Lib.hid hS5; clear hS5 c0 c1' c2' c3 c4 c5 c6)
            | (go_at_call 24; with_reducible refine (KA2.out _ _ (AA.out _ _ _ _) HS5.out).mono ?_; rintro e w6 ⟨A3, c3, rfl, hb6, hS6⟩; have HS6 := Lib.hid hS6; obtain ⟨d0, d1, _, c4q, d4, d5, _⟩ := HC1.out _ _ HS6.out; clear hS6 hb6)
            | (go_at_call 29; with_reducible refine (find_nm (x := ⟨o0, o1⟩) HS6.out (Below.refl _ _) (by omega) HZ1.out).mono ?_; rintro e w7 ⟨rfl, hb7⟩; have HS7 := Lib.hid (HS6.out.below (AT.out _ _ _ _ _ _) hb7); clear d0 d1 d4 d5; obtain ⟨d0, d1, _, c4q, d4, d5, _⟩ := HC1.out _ _ HS7.out; clear hb7)
            | (go_at_call 29; with_reducible refine (find_nm (x := ⟨o4, o5⟩) HS7.out (Below.refl _ _) (by omega) HZ2.out).mono ?_; rintro e w8 ⟨rfl, hb8⟩; have HS8 := Lib.hid ((HS7.out.below (AT.out _ _ _ _ _ _) hb8).drew (AT.out _ _ _ _ _ _)); clear d0 d1 d4 d5 hb8))
          obtain ⟨y0, y1, _⟩ := HC1.out _ _ HS8.out
          try clear c4q
          have hj0 : (0 : Int) ≤ (i : Int) := by omega
          have hj1 : (i : Int) < (len : Int) := by omega
          have hj2 : (i : Int) ≤ (len : Int) := by omega
          go_region_held3 (fun W => W.cell? (ad.add (i * 7)) = some (.int .i64 o0) ∧ W.cell? ⟨(ad.add (i * 7)).block, (ad.add (i * 7)).off + 1, none⟩ = some (.int .i64 o1)) ((first | exact ⟨(HC1.out _ _ HS8.out).1, (HC1.out _ _ HS8.out).2.1⟩ | exact ⟨(HC1.out _ _ HS9.out).1, (HC1.out _ _ HS9.out).2.1⟩ | exact ⟨(HC1.out _ _ HS10.out).1, (HC1.out _ _ HS10.out).2.1⟩ | exact ⟨(HC1.out _ _ HS11.out).1, (HC1.out _ _ HS11.out).2.1⟩ | exact ⟨(HC1.out _ _ HS12.out).1, (HC1.out _ _ HS12.out).2.1⟩ | exact ⟨(HC1.out _ _ HS13.out).1, (HC1.out _ _ HS13.out).2.1⟩ | exact ⟨(HC1.out _ _ HS14.out).1, (HC1.out _ _ HS14.out).2.1⟩)) (first
            | (go_at_call 28; with_reducible refine (without_nm (x := ⟨o0, o1⟩) HS8.out (Below.refl _ _) (by omega) E1.out HNA.out).mono ?_; rintro e w9 ⟨A4, c4, rfl, hb9, hS9⟩; have HSW := Lib.hid hS9; have HS9 := Lib.hid (HS8.out.below (AT.out _ _ _ _ _ _) hb9); clear hS9 hb9)
            | (go_at_call 23; with_reducible refine (same_nm HSW.out (Below.refl _ _) HS9.out.snd.snd.snd (Below.refl _ _) (by omega)).mono ?_; rintro e w10 ⟨rfl, hb10⟩; have HS10 := Lib.hid (HS9.out.below (AT.out _ _ _ _ _ _) hb10); clear hb10)
            | (go_at_call 22; with_reducible refine (KI2.out _ _ (AA.out _ _ _ _) HS10.out.snd).mono ?_; rintro e w11 ⟨A5, c5, rfl, hb11, hS11⟩; have HSV := Lib.hid hS11; have HS11 := Lib.hid (HS10.out.below (AT.out _ _ _ _ _ _) hb11); clear hS11 hb11)
            | (go_at_call 28; with_reducible refine (without_nm (x := ⟨o0, o1⟩) HSV.out (Below.refl _ _) (by omega) E2.out HNB.out).mono ?_; rintro e w12 ⟨A6, c6, rfl, hb12, hS12⟩; have HSU := Lib.hid hS12; have HS12 := Lib.hid (HS11.out.below (AT.out _ _ _ _ _ _) hb12); clear hS12 hb12)
            | (go_at_call 23; with_reducible refine (same_nm HSU.out (Below.refl _ _) HS12.out.snd.snd (Below.refl _ _) (by omega)).mono ?_; rintro e w13 ⟨rfl, hb13⟩; have HS13 := Lib.hid (HS12.out.below (AT.out _ _ _ _ _ _) hb13); clear hb13)
            | (go_at_call 27; with_reducible refine (alive_nm (x := ⟨o0, o1⟩) (AA.out _ _ _ _) HS13.out.snd (Below.refl _ _) HLL.out E3.out).mono ?_; rintro e w14 ⟨rfl, hb14⟩; have HS14 := Lib.hid (HS13.out.below (AT.out _ _ _ _ _ _) hb14); clear hb14))
          go_wp2
          go_roundg (N - (i + 1))
          case measure => omega
          case rel => exact ⟨i + 1, by go_num, by omega, HNX.out _ HS14.out.snd.fst.with_emp⟩
    · obtain rfl : i = N := by omega
      have hex : (decide (i < len) = true ∧ decide ((i : Int) < 30) = false) ∨ decide (i < len) = false := by
        by_cases h3 : i < len
        · rcases HN3.out with k | k
          · omega
          · exact .inl ⟨by simpa using h3, by simp; omega⟩
        · exact .inr (by simpa using h3)
      have HB := Lib.hid hS.bel
      clear hI hS hol HI
      rcases hex with ⟨hd1, hd2⟩ | hd1
      all_goals
        go_wp2
        go_ret
        exact ⟨rfl, HB.out⟩
end Go.Proofs.Ytehdjdediobemaa.PC
