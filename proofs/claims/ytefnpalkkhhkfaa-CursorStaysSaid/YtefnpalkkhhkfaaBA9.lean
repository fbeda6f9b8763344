/- A part of the proof of cursorBounds_holds: its texts, one behind the other, as far as the proof stands on them. (Lines of its texts on the printed words and functions began as lines that a program of the kit had written for this statement.) -/
import Derived.ArgAppend
import Derived.Below
import Derived.BigQuiet
import Derived.BigRegion
import Derived.ChangeMaps4
import Derived.ChangeMaps5
import Derived.Deep.AppendLies
import Derived.Deep.CutBlock
import Derived.Deep.CutRange
import Derived.Deep.DeepCutAuto
import Derived.Deep.DrawnRows
import Derived.Deep.Draws
import Derived.Deep.LoopGhost
import Derived.Deep.OwnRows
import Derived.Deep.QuietTactic
import Derived.Deep.RegionHeld3
import Derived.Deep.RegionLaw
import Derived.Deep.RegionWith
import Derived.KernelRfl
import Derived.Laws.BitsLemmas
import Derived.Laws.BytesArg
import Derived.Laws.CopyRow
import Derived.Laws.Cover4
import Derived.Laws.Externs
import Derived.Laws.IdiomCopy
import Derived.Laws.MakeOwn
import Derived.Laws.NewBlocks
import Derived.Laws.OwnMore
import Derived.Laws.Rows
import Derived.Laws.Slices
import Derived.Laws.StructEq
import Derived.Lib.AppendStr
import Derived.Lib.AppendZeros
import Derived.Lib.AppendZerosOnto
import Derived.Lib.ConvBytes
import Derived.Lib.Hide
import Derived.Lib.JoinLaws
import Derived.Lib.Overlaps
import Derived.Lib.Walk
import Derived.MapKept
import Derived.Maps.AppendAt
import Derived.OrdersHeld
import Derived.OwnWalk
import Derived.RegionTactic
import Derived.RowKit
import Derived.RowKit3
import Derived.StillTail
import Derived.StillTailTactics
import Derived.Tactics
import Derived.Test.YtefnpalkkhhkfaaProg
import Derived.WalkKit
import Derived.WalkSpells
import Derived.WideLaws
import Derived.Test.YtefnpalkkhhkfaaBA8
namespace Go.Proofs.Ytefnpalkkhhkfaa.PC
open Go.RowKit Go.Proofs.YtefnpalkkhhkfaaW.PrintWords Go.Proofs.YtefnpalkkhhkfaaW.PrintLast Go.Proofs.YtefnpalkkhhkfaaW.PrintMore Go.Proofs.Ytefnpalkkhhkfaa.K Go.Proofs.Ytefnpalkkhhkfaa.IX Go.Proofs.Ytefnpalkkhhkfaa.I
set_option linter.unusedVariables false
set_option linter.unusedSimpArgs false
theorem flX_gone (l : List S83) (n : Nat) (h : n < l.length) : (goneS l n).flatMap flX = (l.flatMap flX).set (n * 4 + 3) (.bool false) := by
  induction l generalizing n with
  | nil => simp at h
  | cons x xs ih =>
    cases n with
    | zero => rfl
    | succ n =>
      show (x :: goneS xs n).flatMap flX = _
      rw [List.flatMap_cons, ih n (by simpa using h), List.flatMap_cons, List.set_append_right _ _ (by rw [show (flX x).length = 4 from rfl]; omega)]
      rw [show (flX x).length = 4 from rfl, show (n + 1) * 4 + 3 - 4 = n * 4 + 3 by omega]
theorem rw_gone {w : World} {lv : Value} {l : List S83} (h : Rw k83 83 w lv l) (n : Nat) (hn : n < l.length) :
    ∃ g cap cur, lv = .slice (some ⟨g, 0, none⟩) l.length cap ∧ w.heap[g]? = some (.cells cur 83 (0, 0)) ∧ w.cell? ⟨g, n * 4 + 3, none⟩ = some (.bool l[n].f2) ∧
      Rw k83 83 (w.setCell ⟨g, n * 4 + 3, none⟩ (.bool false)) lv (goneS l n) := by
  have how := ownsX h
  obtain ⟨g, cap, cur, rfl, hg0, hg, hnc, hm, hs, ht⟩ : ∃ g cap cur, lv = .slice (some ⟨g, 0, none⟩) l.length cap ∧ 0 ≤ g ∧ w.heap[g]? = some (.cells cur 83 (0, 0)) ∧ l.length ≤ cap ∧ cap ≤ maxLen ∧ cur.size = cap * 4 ∧ cur.toList.take (l.length * 4) = l.flatMap flX := by
    rcases how.2 with ⟨_, h0⟩ | h
    · exfalso; omega
    · exact h
  obtain ⟨A, c, eA, hc, hr⟩ := Kd.R_reads h
  injection eA with eA _ eC
  subst eA eC
  obtain ⟨ad, eA, _, _, _, e3⟩ := cell_el hr (Below.refl _ w) n hn
  injection eA with eA
  subst eA
  have e3 : w.cell? ⟨g, n * 4 + 3, none⟩ = some (.bool l[n].f2) := by simpa only [Addr.add_lit, Nat.zero_add] using e3
  refine ⟨g, cap, cur, rfl, hg, e3, Rw.of (base := 0) rfl (RX ?_)⟩
  rw [flX_gone l n hn, goneS_len]
  refine ⟨by rw [List.length_set]; exact how.1, .inr ⟨g, cap, _, rfl, Nat.zero_le _, blk_set hg _ _, hnc, hm, by simpa using hs, ?_⟩⟩
  rw [Array.toList_setIfInBounds, List.take_set, ht]
theorem del_state {w : World} {F : List Nat} {p : Nat} {T : TS} (h : Tx w F p T) (n : Nat) (hn : n < T.l.length) (hl : T.l.length ≤ 500000) :
    ∃ g cap x, w.cell? ⟨p, 0, none⟩ = some (.slice (some ⟨g, 0, none⟩) T.l.length cap) ∧ w.cell? ⟨p, 1, none⟩ = some (.pointer (some ⟨x, 0, none⟩)) ∧ (∃ u, w.cell? ⟨g, n * 4 + 3, none⟩ = some (.bool u)) ∧ w.frozen? ⟨g, n * 4 + 3, none⟩ = false ∧ g < w.heap.size ∧ g ≠ p ∧
      (w.setCell ⟨g, n * 4 + 3, none⟩ (.bool false)).cell? ⟨p, 1, none⟩ = some (.pointer (some ⟨x, 0, none⟩)) ∧
      Calls Try.prog 40 #[.pointer (some ⟨x, 0, none⟩), .int .i64 (n : Int), .bool false] (w.setCell ⟨g, n * 4 + 3, none⟩ (.bool false)) fun e w' => e = .returned (.bool true) ∧ TakeFin w F p { T with l := goneS T.l n } w' := by
  obtain ⟨lv, x, ov, vv, mb, FI, h1, h2, h3, h4, h5, h6, rfl⟩ := h
  have ha := apart_of h1 h2 h3 h4 h5 h6
  obtain ⟨g, cap, cur, rfl, hg, e3, hRw⟩ := rw_gone h2 n hn
  have hgm : g ∈ ob (.slice (some ⟨g, 0, none⟩) T.l.length cap) := mem_ob.2 rfl
  have hgp : g ≠ p := fun e => ha.pl (e ▸ hgm)
  obtain ⟨Ws, hWs⟩ : ∃ Ws, w.setCell ⟨g, n * 4 + 3, none⟩ (.bool false) = Ws := ⟨_, rfl⟩
  have far : ∀ k, k ≠ g → Ws.heap[k]? = w.heap[k]? := fun k hk => by rw [← hWs]; exact heap_far _ _ _ hk
  have hsz : Ws.heap.size = w.heap.size := by rw [← hWs]; simp [World.setCell]
  have frS : Fr (p :: mb :: (ob (.slice (some ⟨g, 0, none⟩) T.l.length cap) ++ (FI ++ (ob ov ++ ob vv)))) w Ws := by
    rw [← hWs]
    refine Fr.of_set w ⟨g, n * 4 + 3, none⟩ (.bool false) ?_
    simp only [List.mem_cons, List.mem_append]
    exact .inr (.inr (.inl hgm))
  have hp1 : Ws.heap[p]? = some (.cells #[.slice (some ⟨g, 0, none⟩) T.l.length cap, .pointer (some ⟨x, 0, none⟩), ov, vv, .map (some mb), .int .i64 T.top] 74 (0, 0)) := (far p (fun e => hgp e.symm)).trans h1
  rw [hWs] at hRw
  have ne : ∀ {k}, k ∉ ob (.slice (some ⟨g, 0, none⟩) T.l.length cap) → k ≠ g := fun hk e => hk (e ▸ hgm)
  have hix : Ix Ws FI x (T.l.map (·.f2)) := h3.keep fun k hk => far k (ne fun hm => ha.li k hm hk)
  have hset : setS (T.l.map (·.f2)) (n : Int) false = (true, (goneS T.l n).map (·.f2)) := by
    unfold setS
    rw [if_pos ⟨by omega, by rw [List.length_map]; omega⟩, goneS_ms, Int.toNat_natCast]
  refine ⟨g, cap, x, (cell_of h1 0).trans rfl, (cell_of h1 1).trans rfl, ⟨_, e3⟩, free_of hg _, lt_of hg, hgp, by rw [hWs]; exact (cell_of hp1 1).trans rfl, ?_⟩
  rw [hWs]
  have hc := set_calls Ws FI x (T.l.map (·.f2)) (n : Int) false hix (by rw [List.length_map]; omega)
  rw [hset] at hc
  refine hc.mono ?_
  rintro e w' ⟨rfl, i1, i2⟩
  have old : ∀ k, k < w.heap.size → k ∉ ob (.slice (some ⟨g, 0, none⟩) T.l.length cap) → k ∉ FI → w'.heap[k]? = w.heap[k]? := fun k hk q1 q2 => (i2.block k (by omega) q2).trans (far k (ne q1))
  refine ⟨rfl, _, ⟨.slice (some ⟨g, 0, none⟩) T.l.length cap, x, ov, vv, mb, FI, (i2.block p (by have := lt_of h1; omega) ha.pi).trans hp1, ?_, i1, ?_, ?_, ?_, rfl⟩, frS.trans i2 (fun k hk => .inl (by simp [hk])), fun k hk => .inl hk⟩
  · exact hRw.keep fun k hk => i2.block k (hRw.lt k hk) (ha.li k hk)
  · exact h4.keep fun k hk => old k (h4.lt k hk) (fun hm => ha.lo k hm hk) (ha.oi k hk)
  · exact h5.keep fun k hk => old k (h5.lt k hk) (fun hm => ha.lw k hm hk) (ha.vi k hk)
  · exact h6.keep (old mb h6.lt ha.ml ha.mi)
end Go.Proofs.Ytefnpalkkhhkfaa.PC
namespace Go.Proofs.Ytefnpalkkhhkfaa.PC
open Go.RowKit Go.Proofs.YtefnpalkkhhkfaaW.PrintWords Go.Proofs.YtefnpalkkhhkfaaW.PrintLast Go.Proofs.YtefnpalkkhhkfaaW.PrintMore Go.Proofs.Ytefnpalkkhhkfaa.K Go.Proofs.Ytefnpalkkhhkfaa.IX Go.Proofs.Ytefnpalkkhhkfaa.I
attribute [local go_sem] max2_int min2_int max_two min_two max_three min_three max_four min_four
attribute [local go_sem high] eqA24
set_option linter.unusedVariables false
set_option linter.unusedSimpArgs false
set_option maxHeartbeats 4000000 in
set_option maxRecDepth 100000 in
theorem put_del (w : World) (F : List Nat) (p : Nat) (T : TS) (o : S49) (h : Tx w F p T) (hr : rightS o) (hv : upS T.v) (hvl : T.v.length ≤ 1000000) (hl : T.l.length ≤ 500000) (hol : T.ops.length ≤ 1000000) (hk0 : 0 ≤ knownS T o) (ho : o.f1 = knownS T o + 1) (hn : 0 ≤ placeS T.l o.f3) (hlast : T.last o.f0.f1 < o.f0.f0) (hins : o.f2 = false) : Calls Try.prog 24 #[.pointer (some ⟨p, 0, none⟩), opV o] w fun e w' => e = .returned (.tuple #[.bool true, .int .i64 0]) ∧ TakeFin w F p ⟨goneS T.l (placeS T.l o.f3).toNat, T.ops ++ [o], wtS T.v o.f0.f1 o.f1, upd T.last o.f0.f1 o.f0.f0, max T.top o.f0.f0⟩ w' := by
  obtain ⟨TT, hTT⟩ : ∃ TT, (⟨goneS T.l (placeS T.l o.f3).toNat, T.ops ++ [o], wtS T.v o.f0.f1 o.f1, upd T.last o.f0.f1 o.f0.f0, max T.top o.f0.f0⟩ : TS) = TT := ⟨_, rfl⟩
  rw [hTT]
  have HTT := Lib.hid hTT
  clear hTT
  have HOL := Lib.hid hol
  have KD := Lib.hid (fun W (hb : Below w.heap.size w W) n hn => del_state (h.below hb) n hn hl)
  have hpl := placeS_range T.l o.f3
  have K1 := right_is o
  rw [decide_eq_true hr] at K1
  have HK := Lib.hid K1
  obtain ⟨A1, c1, x, A2, c2, A3, c3, mb, FI, h0, h1, h2, h3, h4, h5, _, _, _, ⟨hc, hrv⟩, him⟩ := h.read
  have K2 := Lib.hid (fun W (hb : Below w.heap.size w W) a => seq_calls T.v a A3 c3 W (Kd.C_below hrv hb) hc hv hvl)
  have K3 := Lib.hid (fun W (hb : Below w.heap.size w W) => tplace_calls W F p T o.f3 (h.below hb) (by omega))
  obtain ⟨kn, hkn⟩ : ∃ kn, knownS T o = kn := ⟨_, rfl⟩
  obtain ⟨at_, hat⟩ : ∃ at_, placeS T.l o.f3 = at_ := ⟨_, rfl⟩
  rw [hat] at K3 hn hpl
  have HAT := Lib.hid hat
  rw [hkn] at ho hk0
  have ho2 : o.f1 ≤ 4294967295 := hr.2.2.1
  unfold knownS at hkn
  obtain ⟨⟨o0, o1⟩, o2, o3, ⟨o4, o5⟩, o6⟩ := o
  have hins2 : o3 = false := hins
  subst hins2
  unfold opV at *
  have K2b := Lib.hid (fun W (hb : Below w.heap.size w W) => (hkn ▸ K2.out W hb o1 : Calls Try.prog 37 #[.slice A3 T.v.length c3, .int .i64 o1] W fun e w' => e = .returned (.int .i64 kn) ∧ Below W.heap.size W w'))
  obtain ⟨W1, hW1⟩ : ∃ W1, w.alloc (.cells #[.int .i64 o0, .int .i64 o1, .int .i64 o2, .bool false, .int .i64 o4, .int .i64 o5, .int .i32 o6] 49) = W1 := ⟨_, rfl⟩
  have hb : Below w.heap.size w W1 := by rw [← hW1]; exact (Below.refl _ w).alloc (Nat.le_refl _) _
  have hnew : W1.heap[w.heap.size]? = some (.cells #[.int .i64 o0, .int .i64 o1, .int .i64 o2, .bool false, .int .i64 o4, .int .i64 o5, .int .i32 o6] 49 (0, 0)) := by rw [← hW1]; exact heap_new w _
  have HB := Lib.hid hb
  have HS : Aside0 (∀ W, Below W1.heap.size W1 W → W.cell? ⟨p, 3, none⟩ = some (.slice A3 T.v.length c3) ∧ W.cell? ⟨w.heap.size, 1, none⟩ = some (.int .i64 o1)) :=
    ⟨fun W hb2 => ⟨((below_step hb hb2).cell (World.block_lt_of_cell? w _ h3)).trans h3, (hb2.cell (lt_of hnew)).trans ((cell_of hnew 1).trans rfl)⟩⟩
  have HO : Aside0 (∀ W, Below W1.heap.size W1 W → W.cell? ⟨w.heap.size, 2, none⟩ = some (.int .i64 o2) ∧ W.cell? ⟨w.heap.size, 4, none⟩ = some (.int .i64 o4) ∧ W.cell? ⟨w.heap.size, 5, none⟩ = some (.int .i64 o5)) :=
    ⟨fun W hb2 => ⟨(hb2.cell (lt_of hnew)).trans ((cell_of hnew 2).trans rfl), (hb2.cell (lt_of hnew)).trans ((cell_of hnew 4).trans rfl), (hb2.cell (lt_of hnew)).trans ((cell_of hnew 5).trans rfl)⟩⟩
  have HM : Aside0 (∀ W, Below w.heap.size w W → (Instr.lookup 72 (.map (some mb)) (.int .i64 o1) false).run Try.prog W = .ok (.int .i64 (T.last o1)) W) := ⟨fun W hb2 => (him.keep (hb2.block mb him.lt)).look_ Try.underlying72 Try.underlying3 (zero_int W) o1⟩
  have HC : Aside0 (∀ W, Below W1.heap.size W1 W → W.cell? ⟨p, 4, none⟩ = some (.map (some mb)) ∧ W.cell? ⟨w.heap.size, 0, none⟩ = some (.int .i64 o0)) := ⟨fun W hb2 => ⟨((below_step hb hb2).cell (World.block_lt_of_cell? w _ h4)).trans h4, (hb2.cell (lt_of hnew)).trans ((cell_of hnew 0).trans rfl)⟩⟩
  have HBLK : Aside0 (∀ W, Below W1.heap.size W1 W → W.heap[w.heap.size]? = some (.cells #[.int .i64 o0, .int .i64 o1, .int .i64 o2, .bool false, .int .i64 o4, .int .i64 o5, .int .i32 o6] 49 (0, 0))) := ⟨fun W hb2 => (hb2.block _ (lt_of hnew)).trans hnew⟩
  have HFLT := Lib.hid h.lt
  have HUP := Lib.hid hv
  have HVL := Lib.hid (show ∀ vs, vs = T.v → vs.length ≤ 1000000 from fun vs e => by rw [e]; exact hvl)
  have HO2 : Aside0 (∀ W, Below W1.heap.size W1 W → W.cell? ⟨w.heap.size, 3, none⟩ = some (.bool false) ∧ W.cell? ⟨w.heap.size, 6, none⟩ = some (.int .i32 o6)) :=
    ⟨fun W hb2 => ⟨(hb2.cell (lt_of hnew)).trans ((cell_of hnew 3).trans rfl), (hb2.cell (lt_of hnew)).trans ((cell_of hnew 6).trans rfl)⟩⟩
  have hlast2 : ¬ o0 ≤ T.last o1 := by simp only at hlast; omega
  generalize T.last o1 = la at HM hlast2
  clear him hlast
  generalize T.v.length = vl at *
  have HL := Lib.hid hl
  clear h hr hb K1 hnew hkn hat hrv hv hvl hl hol h0 h1 h2 h3 h4 h5
  subst hW1
  have hw1 : IntKind.i64.wrap (kn + 1) = kn + 1 := by rw [IntKind.wrap_i64]; simp only at ho ho2; omega
  have hno : ¬ o2 ≤ kn := by simp only at ho; omega
  have hye : ¬ kn + 1 < o2 := by simp only at ho; omega
  have hn2 : ¬ at_ < 0 := by omega
  have hd : decide (at_ < 0) = false := by simpa using hn
  clear ho ho2
  go_enter Try.func24, Try.ntmps24
  go_wp2_with (go_at_call 36; refine (HK.out _).mono ?_; rintro e w2 ⟨rfl, hb⟩; have HB2 := Lib.hid hb; have HBW := Lib.hid (below_step HB.out hb); obtain ⟨s0, s1⟩ := HS.out _ hb; clear hb)
  have HB3 := Lib.hid HB2.out.drew
  go_region_held3 (fun W => W.cell? ⟨p, 3, none⟩ = some (.slice A3 vl c3) ∧ W.cell? ⟨w.heap.size, 1, none⟩ = some (.int .i64 o1)) ((first | exact HS.out _ HB2.out | exact HS.out _ HB3.out | exact HS.out _ HB4.out)) (first
    | (go_at_call 37; refine (K2b.out _ (below_step HB.out HB3.out)).mono ?_; rintro e w4 ⟨rfl, hb⟩; have HB4 := Lib.hid (below_step HB3.out hb); obtain ⟨t2, t4, t5⟩ := HO.out _ HB4.out; clear hb))
  go_wp2_with (go_at_call 38; refine (K3.out _ (below_step HB.out HB4.out)).mono ?_; rintro e w5 ⟨rfl, hb⟩; have HB5 := Lib.hid (below_step HB4.out hb); obtain ⟨u2, u4, u5⟩ := HO.out _ HB5.out; obtain ⟨x4, x0⟩ := HC.out _ HB5.out; obtain ⟨_, x1⟩ := HS.out _ HB5.out; have hlk := HM.out _ (below_step HB.out HB5.out); have hlk2 := HM.out _ (below_step HB.out HB5.out).drew; clear hb)
  obtain ⟨u3, u6⟩ := HO2.out _ HB5.out
  go_region
  obtain ⟨m, rfl⟩ : ∃ m : Nat, at_ = (m : Int) := ⟨at_.toNat, by omega⟩
  have HM2 := Lib.hid (show (placeS T.l ⟨o4, o5⟩).toNat = m by rw [HAT.out]; rfl)
  have hml : m < T.l.length := by omega
  obtain ⟨g, cap, x', c0', c1', ⟨u, cg'⟩, fg', hgs, hgp, cs1', KS'⟩ := KD.out w5.drew (below_step HB.out HB5.out).drew m hml
  have c0 : w5.cell? ⟨p, 0, none⟩ = some (.slice (some ⟨g, 0, none⟩) T.l.length cap) := c0'
  have cg : w5.cell? ⟨g, m * 4 + 3, none⟩ = some (.bool u) := cg'
  have fg : w5.frozen? ⟨g, m * 4 + 3, none⟩ = false := fg'
  have cs1 : (w5.setCell ⟨g, m * 4 + 3, none⟩ (.bool false)).cell? ⟨p, 1, none⟩ = some (.pointer (some ⟨x', 0, none⟩)) := cs1'
  have KS := Lib.hid KS'
  have hm0 : (0 : Int) ≤ (m : Int) := by omega
  generalize T.l.length = nL at *
  clear c0' c1' cg' fg' cs1' KS' hgs
  go_upto_region 16 with (go_at_call 40; refine KS.out.mono ?_; rintro e w6 ⟨rfl, hfin⟩; have HFIN := Lib.hid hfin; clear hfin)
  obtain ⟨F6, hT6, hF6, hsub⟩ := HFIN.out
  obtain ⟨lv, x6, ov, vv, mb6, FI6, hP, hFe⟩ := hT6.parts
  have hblk : w6.heap[w.heap.size]? = some (opCells ⟨⟨o0, o1⟩, o2, false, ⟨o4, o5⟩, o6⟩) := (hF6.block w.heap.size (show w.heap.size < w5.drew.heap.size from lt_of (w := w5) (HBLK.out w5 HB5.out)) (fun hm => by have := HFLT.out _ hm; omega)).trans (show w5.drew.heap[w.heap.size]? = _ from HBLK.out w5 HB5.out)
  have hb6 : w.heap.size ∉ F6 := fun hk => by
    rcases hsub _ hk with q | q
    · have := HFLT.out _ q; omega
    · have h5 := lt_of (HBLK.out w5 HB5.out); have q2 : w5.heap.size ≤ w.heap.size := q; omega
  have hfr := (Fr.of_below (F := F) (below_step HB.out HB5.out).drew).trans hF6 (fun _ h => .inl h)
  have hsub2 : ∀ k ∈ F6, k ∈ F ∨ w.heap.size ≤ k := fun k hk => by
    rcases hsub _ hk with q | q
    · exact .inl q
    · have := (below_step HB.out HB5.out).drew.size; exact .inr (by omega)
  have hpb : p ≠ w.heap.size := fun e => hb6 (by rw [hFe, ← e]; simp)
  have hnb : w.heap.size ∉ ob ov := fun hk => hb6 (by rw [hFe]; simp [hk])
  obtain ⟨A4, c4, rfl⟩ := Kd.R_slice hP.ops
  obtain ⟨A5, c5, rfl⟩ := Kd.R_slice hP.vec
  have hwa : Below w6.heap.size w6 ((w6.alloc (.cells #[.int .i64 o0, .int .i64 o1, .int .i64 o2, .bool false, .int .i64 o4, .int .i64 o5, .int .i32 o6] 49)).drew) := ((Below.refl _ w6).alloc (Nat.le_refl _) _).drew
  obtain ⟨A7, n7, c7, w7, e7, hp7, hb7, k7⟩ := mid_state hP ⟨⟨o0, o1⟩, o2, false, ⟨o4, o5⟩, o6⟩ hblk hnb hpb HUP.out HOL.out (HVL.out T.v rfl) hwa (heap_new w6 _) 22
  have HK7 := Lib.hid k7
  have HE7 := Lib.hid e7
  have HSG := Lib.hid (fun (W : World) (h : W.heap[w.heap.size]? = some (opCells ⟨⟨o0, o1⟩, o2, false, ⟨o4, o5⟩, o6⟩)) => show (W.cell? ⟨w.heap.size, 0, none⟩ = some (.int .i64 o0) ∧ W.cell? ⟨w.heap.size, 1, none⟩ = some (.int .i64 o1) ∧ W.cell? ⟨w.heap.size, 2, none⟩ = some (.int .i64 o2) ∧ W.cell? ⟨w.heap.size, 3, none⟩ = some (.bool false) ∧ W.cell? ⟨w.heap.size, 4, none⟩ = some (.int .i64 o4) ∧ W.cell? ⟨w.heap.size, 5, none⟩ = some (.int .i64 o5) ∧ W.cell? ⟨w.heap.size, 6, none⟩ = some (.int .i32 o6)) from
    ⟨(cell_of h 0).trans rfl, (cell_of h 1).trans rfl, (cell_of h 2).trans rfl, (cell_of h 3).trans rfl, (cell_of h 4).trans rfl, (cell_of h 5).trans rfl, (cell_of h 6).trans rfl⟩)
  have HX6 := Lib.hid hblk
  have HXa := Lib.hid ((hwa.block _ (lt_of hblk)).trans hblk)
  have HX7 := Lib.hid hb7
  have HPB := Lib.hid hpb
  have p2 : w6.cell? ⟨p, 2, none⟩ = some (.slice A4 T.ops.length c4) := (cell_of hP.head 2).trans rfl
  have p3 : w6.cell? ⟨p, 3, none⟩ = some (.slice A5 T.v.length c5) := (cell_of hP.head 3).trans rfl
  have pa2 : (w6.alloc (.cells #[.int .i64 o0, .int .i64 o1, .int .i64 o2, .bool false, .int .i64 o4, .int .i64 o5, .int .i32 o6] 49)).cell? ⟨p, 2, none⟩ = some (.slice A4 T.ops.length c4) := (((Below.refl _ w6).alloc (Nat.le_refl _) _).cell (World.block_lt_of_cell? w6 _ p2)).trans p2
  have pa3 : (w6.alloc (.cells #[.int .i64 o0, .int .i64 o1, .int .i64 o2, .bool false, .int .i64 o4, .int .i64 o5, .int .i32 o6] 49)).cell? ⟨p, 3, none⟩ = some (.slice A5 T.v.length c5) := (((Below.refl _ w6).alloc (Nat.le_refl _) _).cell (World.block_lt_of_cell? w6 _ p3)).trans p3
  have q72 : w7.cell? ⟨p, 2, none⟩ = some (.slice A4 T.ops.length c4) := (cell_of hp7 2).trans rfl
  have q73 : w7.cell? ⟨p, 3, none⟩ = some (.slice A5 T.v.length c5) := (cell_of hp7 3).trans rfl
  have HFI := Lib.hid (show Fr F w w6 ∧ (∀ k ∈ F6, k ∈ F ∨ w.heap.size ≤ k) ∧ F6 = p :: mb6 :: (ob lv ++ (FI6 ++ (ob (.slice A4 T.ops.length c4) ++ ob (.slice A5 T.v.length c5)))) from ⟨hfr, hsub2, hFe⟩)
  generalize T.ops.length = nO at *
  generalize T.v.length = nV at *
  clear hP k7 e7 hblk hwa hb7 hp7 hfr hsub2 hFe hpb hnb hT6 hF6 hsub hb6
  go_cut [] from 75 to 97 (fun wx => Aside0 (Mid w6 w.heap.size p lv x6 (.slice A4 nO c4) mb6 FI6 T.top (goneS T.l m) (T.ops ++ [⟨⟨o0, o1⟩, o2, false, ⟨o4, o5⟩, o6⟩]) (wtS T.v o1 o2) T.last (opCells ⟨⟨o0, o1⟩, o2, false, ⟨o4, o5⟩, o6⟩) wx))
  case first =>
    have HZ0 := Lib.hid (And.intro (HSG.out w6 HX6.out) (And.intro p2 p3))
    have HZa := Lib.hid (And.intro (HSG.out _ HXa.out) (And.intro pa2 pa3))
    have HZ7 := Lib.hid (And.intro (HSG.out w7 HX7.out) (And.intro q72 q73))
    clear p2 p3 pa2 pa3 q72 q73
    refine startZ (z := 18) (S := (fun W => (W.cell? ⟨w.heap.size, 0, none⟩ = some (.int .i64 o0) ∧ W.cell? ⟨w.heap.size, 1, none⟩ = some (.int .i64 o1) ∧ W.cell? ⟨w.heap.size, 2, none⟩ = some (.int .i64 o2) ∧ W.cell? ⟨w.heap.size, 3, none⟩ = some (.bool false) ∧ W.cell? ⟨w.heap.size, 4, none⟩ = some (.int .i64 o4) ∧ W.cell? ⟨w.heap.size, 5, none⟩ = some (.int .i64 o5) ∧ W.cell? ⟨w.heap.size, 6, none⟩ = some (.int .i32 o6)) ∧ W.cell? ⟨p, 2, none⟩ = some (.slice A4 nO c4) ∧ W.cell? ⟨p, 3, none⟩ = some (.slice A5 nV c5))) (by kernel_rfl) ?_
    show ZG _ _ _ _ _ _ 25 _ _ _
    refine takeW (i := 0) (v := ?_) rfl (by kernel_rfl) (by kernel_rfl) (by kernel_rfl) (by decide) (fun _ _ _ h => h) rfl (by exact HZ0.out) ?_ ?_
    rotate_left
    · intro wq; go_simp; try (with_reducible rfl)
    try simp only [Act.put, List.setIfInBounds_toArray, List.set_cons_zero, List.set_cons_succ]
    refine takeW (i := 1) (v := ?_) rfl (by kernel_rfl) (by kernel_rfl) (by kernel_rfl) (by decide) (fun _ _ _ h => h) rfl (by exact HZ0.out) ?_ ?_
    rotate_left
    · intro wq; go_simp; try (with_reducible rfl)
    try simp only [Act.put, List.setIfInBounds_toArray, List.set_cons_zero, List.set_cons_succ]
    refine takeW (i := 2) (v := ?_) rfl (by kernel_rfl) (by kernel_rfl) (by kernel_rfl) (by decide) (fun _ _ _ h => h) rfl (by exact HZ0.out) ?_ ?_
    rotate_left
    · intro wq; go_simp; try (with_reducible rfl)
    try simp only [Act.put, List.setIfInBounds_toArray, List.set_cons_zero, List.set_cons_succ]
    refine takeW (i := 3) (v := ?_) rfl (by kernel_rfl) (by kernel_rfl) (by kernel_rfl) (by decide) (fun _ _ _ h => h) rfl (by exact HZ0.out) ?_ ?_
    rotate_left
    · intro wq; go_simp; try (with_reducible rfl)
    try simp only [Act.put, List.setIfInBounds_toArray, List.set_cons_zero, List.set_cons_succ]
    refine takeW (i := 4) (v := ?_) rfl (by kernel_rfl) (by kernel_rfl) (by kernel_rfl) (by decide) (fun _ _ _ h => h) rfl (by exact HZ0.out) ?_ ?_
    rotate_left
    · intro wq; go_simp; try (with_reducible rfl)
    try simp only [Act.put, List.setIfInBounds_toArray, List.set_cons_zero, List.set_cons_succ]
    refine takeZ (i := 5) (f0 := 6) (v := ?_) rfl (by kernel_rfl) (by kernel_rfl) (by kernel_rfl) (by decide) (by kernel_rfl) (fun _ _ _ h => h) rfl (by exact HZ0.out) ?_ ?_
    rotate_left
    · intro wq hSw; (try dsimp only at hSw); go_split_ands; go_simp; try (with_reducible rfl)
    try simp only [Act.put, List.setIfInBounds_toArray, List.set_cons_zero, List.set_cons_succ]
    refine takeZ (i := 6) (f0 := 6) (v := ?_) rfl (by kernel_rfl) (by kernel_rfl) (by kernel_rfl) (by decide) (by kernel_rfl) (fun _ _ _ h => h) rfl (by exact HZ0.out) ?_ ?_
    rotate_left
    · intro wq hSw; (try dsimp only at hSw); go_split_ands; go_simp; try (with_reducible rfl)
    try simp only [Act.put, List.setIfInBounds_toArray, List.set_cons_zero, List.set_cons_succ]
    refine takeW (i := 9) (v := ?_) rfl (by kernel_rfl) (by kernel_rfl) (by kernel_rfl) (by decide) (fun _ _ _ h => h) rfl (by exact HZ0.out) ?_ ?_
    rotate_left
    · intro wq; go_simp; try (with_reducible rfl)
    try simp only [Act.put, List.setIfInBounds_toArray, List.set_cons_zero, List.set_cons_succ]
    refine takeW (i := 10) (v := ?_) rfl (by kernel_rfl) (by kernel_rfl) (by kernel_rfl) (by decide) (fun _ _ _ h => h) rfl (by exact HZ0.out) ?_ ?_
    rotate_left
    · intro wq; go_simp; try (with_reducible rfl)
    try simp only [Act.put, List.setIfInBounds_toArray, List.set_cons_zero, List.set_cons_succ]
    refine takeW (i := 11) (v := ?_) rfl (by kernel_rfl) (by kernel_rfl) (by kernel_rfl) (by decide) (fun _ _ _ h => h) rfl (by exact HZ0.out) ?_ ?_
    rotate_left
    · intro wq; go_simp; try (with_reducible rfl)
    try simp only [Act.put, List.setIfInBounds_toArray, List.set_cons_zero, List.set_cons_succ]
    refine takeZ (i := 12) (f0 := 6) (v := ?_) rfl (by kernel_rfl) (by kernel_rfl) (by kernel_rfl) (by decide) (by kernel_rfl) (fun _ _ _ h => h) rfl (by exact HZ0.out) ?_ ?_
    rotate_left
    · intro wq hSw; (try dsimp only at hSw); go_split_ands; go_simp; try (with_reducible rfl)
    try simp only [Act.put, List.setIfInBounds_toArray, List.set_cons_zero, List.set_cons_succ]
    refine takeW (i := 13) (v := ?_) rfl (by kernel_rfl) (by kernel_rfl) (by kernel_rfl) (by decide) (fun _ _ _ h => h) rfl (by exact HZ0.out) ?_ ?_
    rotate_left
    · intro wq; go_simp; try (with_reducible rfl)
    try simp only [Act.put, List.setIfInBounds_toArray, List.set_cons_zero, List.set_cons_succ]
    refine takeW (i := 14) (v := ?_) rfl (by kernel_rfl) (by kernel_rfl) (by kernel_rfl) (by decide) (fun _ _ _ h => h) rfl (by exact HZ0.out) ?_ ?_
    rotate_left
    · intro wq; go_simp; try (with_reducible rfl)
    try simp only [Act.put, List.setIfInBounds_toArray, List.set_cons_zero, List.set_cons_succ]
    refine takeZ (i := 15) (f0 := 6) (v := ?_) rfl (by kernel_rfl) (by kernel_rfl) (by kernel_rfl) (by decide) (by kernel_rfl) (fun _ _ _ h => h) rfl (by exact HZ0.out) ?_ ?_
    rotate_left
    · intro wq hSw; (try dsimp only at hSw); go_split_ands; go_simp; try (with_reducible rfl)
    try simp only [Act.put, List.setIfInBounds_toArray, List.set_cons_zero, List.set_cons_succ]
    refine takeW (i := 16) (v := ?_) rfl (by kernel_rfl) (by kernel_rfl) (by kernel_rfl) (by decide) (fun _ _ _ h => h) rfl (by exact HZ0.out) ?_ ?_
    rotate_left
    · intro wq; go_simp; try (with_reducible rfl)
    try simp only [Act.put, List.setIfInBounds_toArray, List.set_cons_zero, List.set_cons_succ]
    refine takeZ (i := 17) (f0 := 6) (v := ?_) rfl (by kernel_rfl) (by kernel_rfl) (by kernel_rfl) (by decide) (by kernel_rfl) (fun _ _ _ h => h) rfl (by exact HZ0.out) ?_ ?_
    rotate_left
    · intro wq hSw; (try dsimp only at hSw); go_split_ands; go_simp; try (with_reducible rfl)
    try simp only [Act.put, List.setIfInBounds_toArray, List.set_cons_zero, List.set_cons_succ]
    refine oneZ (i := 7) rfl (by kernel_rfl) rfl (fun K hK => ?_)
    go_simp
    refine hK _ _ (by exact HZa.out) ?_
    clear hK K
    refine oneZ (i := 8) rfl (by kernel_rfl) rfl (fun K hK => ?_)
    refine Lib.wp_append_run _ _ _ _ _ (by rfl) _ _ (by rfl) (by rfl) _ _ HE7.out ?_
    refine hK _ _ (by exact HZ7.out) ?_
    clear hK K
    try simp only [Act.put, List.setIfInBounds_toArray, List.set_cons_zero, List.set_cons_succ]
    refine seqZ rfl rfl (by kernel_rfl) (by decide) ?_
    go_wp2_with (go_at_call 41; with_reducible refine HK7.out.mono ?_; rintro e w8 ⟨A8, n8, c8, rfl, hp8, hb8, hM⟩; have HM8 := Lib.hid hM; have HX8 := Lib.hid hb8; have q82 : w8.cell? ⟨p, 2, none⟩ = some (.slice A4 nO c4) := (cell_of hp8 2).trans rfl; have q83 : w8.cell? ⟨p, 3, none⟩ = some (.slice A5 nV c5) := (cell_of hp8 3).trans rfl; have qf := free_of hp8; clear hp8 hb8 hM)
    go_meet
    exact ⟨HM8.out⟩
  case rest =>
    obtain ⟨W9, rfl⟩ : ∃ W9 : World, W9 = wc := ⟨_, rfl⟩
    obtain ⟨ov9, vv9, hP9, hb9, hf9, ho9, hv9⟩ := hcut.out
    have hP9d := hP9.keep (w' := W9.drew) (fun _ _ => rfl)
    have hb9d : W9.drew.heap[w.heap.size]? = some (opCells ⟨⟨o0, o1⟩, o2, false, ⟨o4, o5⟩, o6⟩) := hb9
    obtain ⟨st, w1, e1, hp1, hb1, w2, e2, hp2, hb2, hfin⟩ := top_state hP9d ⟨⟨o0, o1⟩, o2, false, ⟨o4, o5⟩, o6⟩ hb9d HPB.out
    have HSG2 := Lib.hid (fun (W : World) (h4 : W.cell? ⟨p, 4, none⟩ = some (.map (some mb6))) (h : W.heap[w.heap.size]? = some (opCells ⟨⟨o0, o1⟩, o2, false, ⟨o4, o5⟩, o6⟩)) => show (W.cell? ⟨w.heap.size, 0, none⟩ = some (.int .i64 o0) ∧ W.cell? ⟨w.heap.size, 1, none⟩ = some (.int .i64 o1) ∧ W.cell? ⟨p, 4, none⟩ = some (.map (some mb6))) from ⟨(cell_of h 0).trans rfl, (cell_of h 1).trans rfl, h4⟩)
    have HS0 := Lib.hid (And.intro (HSG2.out W9 ((cell_of hP9.head 4).trans rfl) hb9) (show W9.cell? ⟨p, 5, none⟩ = some (.int .i64 T.top) from (cell_of hP9.head 5).trans rfl))
    have HS1 := Lib.hid (And.intro (HSG2.out w1 ((cell_of hp1 4).trans rfl) hb1) (show w1.cell? ⟨p, 5, none⟩ = some (.int .i64 T.top) from (cell_of hp1 5).trans rfl))
    have HS2 := Lib.hid (And.intro (HSG2.out w2 ((cell_of hp2 4).trans rfl) hb2) (show w2.cell? ⟨p, 5, none⟩ = some (.int .i64 T.top) from (cell_of hp2 5).trans rfl))
    have g52 : w2.cell? ⟨p, 5, none⟩ = some (.int .i64 T.top) := (cell_of hp2 5).trans rfl
    have gf := free_of hp2
    have HFIN9 := Lib.hid hfin
    have H9 := Lib.hid (show Fr (p :: ob (.slice A4 nO c4)) w6 W9 ∧ _ ∧ _ from ⟨hf9, ho9, hv9⟩)
    generalize T.top = tp at *
    generalize T.last o1 = lo at e1
    obtain ⟨mm, hmm⟩ : ∃ mm, (if tp < o0 then o0 else tp) = mm := ⟨_, rfl⟩
    have HMM := Lib.hid (show max tp o0 = mm by rw [← hmm]; split <;> omega)
    clear hP9 hP9d hb9 hb9d hp1 hb1 hp2 hb2 hfin hf9 ho9 hv9 hcut
    go_wp2
    refine startZ (z := 22) (S := (fun W => (W.cell? ⟨w.heap.size, 0, none⟩ = some (.int .i64 o0) ∧ W.cell? ⟨w.heap.size, 1, none⟩ = some (.int .i64 o1) ∧ W.cell? ⟨p, 4, none⟩ = some (.map (some mb6))) ∧ W.cell? ⟨p, 5, none⟩ = some (.int .i64 tp))) (by kernel_rfl) ?_
    show ZG _ _ _ _ _ _ 25 _ _ _
    refine takeW (i := 0) (v := ?_) rfl (by kernel_rfl) (by kernel_rfl) (by kernel_rfl) (by decide) (fun _ _ _ h => h) rfl (by exact HS0.out) ?_ ?_
    rotate_left
    · intro wq; go_simp; try (with_reducible rfl)
    try simp only [Act.put, List.setIfInBounds_toArray, List.set_cons_zero, List.set_cons_succ]
    refine takeW (i := 1) (v := ?_) rfl (by kernel_rfl) (by kernel_rfl) (by kernel_rfl) (by decide) (fun _ _ _ h => h) rfl (by exact HS0.out) ?_ ?_
    rotate_left
    · intro wq; go_simp; try (with_reducible rfl)
    try simp only [Act.put, List.setIfInBounds_toArray, List.set_cons_zero, List.set_cons_succ]
    refine takeW (i := 2) (v := ?_) rfl (by kernel_rfl) (by kernel_rfl) (by kernel_rfl) (by decide) (fun _ _ _ h => h) rfl (by exact HS0.out) ?_ ?_
    rotate_left
    · intro wq; go_simp; try (with_reducible rfl)
    try simp only [Act.put, List.setIfInBounds_toArray, List.set_cons_zero, List.set_cons_succ]
    refine takeZ (i := 3) (f0 := 6) (v := ?_) rfl (by kernel_rfl) (by kernel_rfl) (by kernel_rfl) (by decide) (by kernel_rfl) (fun _ _ _ h => h) rfl (by exact HS0.out) ?_ ?_
    rotate_left
    · intro wq hSw; (try dsimp only at hSw); go_split_ands; go_simp; try (with_reducible rfl)
    try simp only [Act.put, List.setIfInBounds_toArray, List.set_cons_zero, List.set_cons_succ]
    refine takeW (i := 4) (v := ?_) rfl (by kernel_rfl) (by kernel_rfl) (by kernel_rfl) (by decide) (fun _ _ _ h => h) rfl (by exact HS0.out) ?_ ?_
    rotate_left
    · intro wq; go_simp; try (with_reducible rfl)
    try simp only [Act.put, List.setIfInBounds_toArray, List.set_cons_zero, List.set_cons_succ]
    refine takeW (i := 5) (v := ?_) rfl (by kernel_rfl) (by kernel_rfl) (by kernel_rfl) (by decide) (fun _ _ _ h => h) rfl (by exact HS0.out) ?_ ?_
    rotate_left
    · intro wq; go_simp; try (with_reducible rfl)
    try simp only [Act.put, List.setIfInBounds_toArray, List.set_cons_zero, List.set_cons_succ]
    refine takeZ (i := 6) (f0 := 6) (v := ?_) rfl (by kernel_rfl) (by kernel_rfl) (by kernel_rfl) (by decide) (by kernel_rfl) (fun _ _ _ h => h) rfl (by exact HS0.out) ?_ ?_
    rotate_left
    · intro wq hSw; (try dsimp only at hSw); go_split_ands; go_simp; try (with_reducible rfl)
    try simp only [Act.put, List.setIfInBounds_toArray, List.set_cons_zero, List.set_cons_succ]
    refine takeW (i := 7) (v := ?_) rfl (by kernel_rfl) (by kernel_rfl) (by kernel_rfl) (by decide) (fun _ _ _ h => h) rfl (by exact HS0.out) ?_ ?_
    rotate_left
    · intro wq; go_simp; try (with_reducible rfl)
    try simp only [Act.put, List.setIfInBounds_toArray, List.set_cons_zero, List.set_cons_succ]
    refine takeW (i := 8) (v := ?_) rfl (by kernel_rfl) (by kernel_rfl) (by kernel_rfl) (by decide) (fun _ _ _ h => h) rfl (by exact HS0.out) ?_ ?_
    rotate_left
    · intro wq; go_simp; try (with_reducible rfl)
    try simp only [Act.put, List.setIfInBounds_toArray, List.set_cons_zero, List.set_cons_succ]
    refine takeW (i := 9) (v := ?_) rfl (by kernel_rfl) (by kernel_rfl) (by kernel_rfl) (by decide) (fun _ _ _ h => h) rfl (by exact HS0.out) ?_ ?_
    rotate_left
    · intro wq; go_simp; try (with_reducible rfl)
    try simp only [Act.put, List.setIfInBounds_toArray, List.set_cons_zero, List.set_cons_succ]
    refine takeZ (i := 10) (f0 := 6) (v := ?_) rfl (by kernel_rfl) (by kernel_rfl) (by kernel_rfl) (by decide) (by kernel_rfl) (fun _ _ _ h => h) rfl (by exact HS0.out) ?_ ?_
    rotate_left
    · intro wq hSw; (try dsimp only at hSw); go_split_ands; go_simp; try (with_reducible rfl)
    try simp only [Act.put, List.setIfInBounds_toArray, List.set_cons_zero, List.set_cons_succ]
    refine takeW (i := 11) (v := ?_) rfl (by kernel_rfl) (by kernel_rfl) (by kernel_rfl) (by decide) (fun _ _ _ h => h) rfl (by exact HS0.out) ?_ ?_
    rotate_left
    · intro wq; go_simp; try (with_reducible rfl)
    try simp only [Act.put, List.setIfInBounds_toArray, List.set_cons_zero, List.set_cons_succ]
    refine takeW (i := 12) (v := ?_) rfl (by kernel_rfl) (by kernel_rfl) (by kernel_rfl) (by decide) (fun _ _ _ h => h) rfl (by exact HS0.out) ?_ ?_
    rotate_left
    · intro wq; go_simp; try (with_reducible rfl)
    try simp only [Act.put, List.setIfInBounds_toArray, List.set_cons_zero, List.set_cons_succ]
    refine takeW (i := 13) (v := ?_) rfl (by kernel_rfl) (by kernel_rfl) (by kernel_rfl) (by decide) (fun _ _ _ h => h) rfl (by exact HS0.out) ?_ ?_
    rotate_left
    · intro wq; go_simp; try (with_reducible rfl)
    try simp only [Act.put, List.setIfInBounds_toArray, List.set_cons_zero, List.set_cons_succ]
    refine takeZ (i := 14) (f0 := 6) (v := ?_) rfl (by kernel_rfl) (by kernel_rfl) (by kernel_rfl) (by decide) (by kernel_rfl) (fun _ _ _ h => h) rfl (by exact HS0.out) ?_ ?_
    rotate_left
    · intro wq hSw; (try dsimp only at hSw); go_split_ands; go_simp; try (with_reducible rfl)
    try simp only [Act.put, List.setIfInBounds_toArray, List.set_cons_zero, List.set_cons_succ]
    refine takeW (i := 15) (v := ?_) rfl (by kernel_rfl) (by kernel_rfl) (by kernel_rfl) (by decide) (fun _ _ _ h => h) rfl (by exact HS0.out) ?_ ?_
    rotate_left
    · intro wq; go_simp; try (with_reducible rfl)
    try simp only [Act.put, List.setIfInBounds_toArray, List.set_cons_zero, List.set_cons_succ]
    refine takeW (i := 16) (v := ?_) rfl (by kernel_rfl) (by kernel_rfl) (by kernel_rfl) (by decide) (fun _ _ _ h => h) rfl (by exact HS0.out) ?_ ?_
    rotate_left
    · intro wq; go_simp; try (with_reducible rfl)
    try simp only [Act.put, List.setIfInBounds_toArray, List.set_cons_zero, List.set_cons_succ]
    refine takeZ (i := 17) (f0 := 6) (v := ?_) rfl (by kernel_rfl) (by kernel_rfl) (by kernel_rfl) (by decide) (by kernel_rfl) (fun _ _ _ h => h) rfl (by exact HS0.out) ?_ ?_
    rotate_left
    · intro wq hSw; (try dsimp only at hSw); go_split_ands; go_simp; try (with_reducible rfl)
    try simp only [Act.put, List.setIfInBounds_toArray, List.set_cons_zero, List.set_cons_succ]
    refine takeW (i := 18) (v := ?_) rfl (by kernel_rfl) (by kernel_rfl) (by kernel_rfl) (by decide) (fun _ _ _ h => h) rfl (by exact HS0.out) ?_ ?_
    rotate_left
    · intro wq; go_simp; try (with_reducible rfl)
    try simp only [Act.put, List.setIfInBounds_toArray, List.set_cons_zero, List.set_cons_succ]
    refine oneZ (i := 19) rfl (by kernel_rfl) rfl (fun K hK => ?_)
    go_simp
    refine hK _ _ (by exact HS1.out) ?_
    clear hK K
    try simp only [Act.put, List.setIfInBounds_toArray, List.set_cons_zero, List.set_cons_succ]
    refine oneZ (i := 20) rfl (by kernel_rfl) rfl (fun K hK => ?_)
    go_simp
    refine hK _ _ (by exact HS1.out) ?_
    clear hK K
    try simp only [Act.put, List.setIfInBounds_toArray, List.set_cons_zero, List.set_cons_succ]
    refine oneZ (i := 21) rfl (by kernel_rfl) rfl (fun K hK => ?_)
    go_simp
    refine hK _ _ (by exact HS2.out) ?_
    clear hK K
    try simp only [Act.put, List.setIfInBounds_toArray, List.set_cons_zero, List.set_cons_succ]
    refine seqZ rfl rfl (by kernel_rfl) (by decide) ?_
    go_wp2
    go_ret2
    refine ⟨rfl, ?_⟩
    rw [← HTT.out, HM2.out, HMM.out]
    exact take_fin HFI.out.2.2 HFI.out.1 HFI.out.2.1 H9.out.1 H9.out.2.1 H9.out.2.2 (HFIN9.out mm).1 ((Fr.of_drew (F := [p, mb6]) W9).trans (HFIN9.out mm).2 (fun _ h => .inl h))
end Go.Proofs.Ytefnpalkkhhkfaa.PC
namespace Go.Proofs.Ytefnpalkkhhkfaa.PC
open Go.RowKit Go.Proofs.YtefnpalkkhhkfaaW.PrintWords Go.Proofs.YtefnpalkkhhkfaaW.PrintLast Go.Proofs.YtefnpalkkhhkfaaW.PrintMore Go.Proofs.Ytefnpalkkhhkfaa.K Go.Proofs.Ytefnpalkkhhkfaa.IX Go.Proofs.Ytefnpalkkhhkfaa.I
set_option linter.unusedVariables false
set_option linter.unusedSimpArgs false
theorem takeFin_same {w w' : World} {F : List Nat} {p : Nat} {T : TS} (h : Tx w F p T) (hb : Below w.heap.size w w') : TakeFin w F p T w' := ⟨F, h.below hb, Fr.of_below hb, fun _ h => .inl h⟩
theorem putT_no {T : TS} {o : S49} {e : Int} (h : refS T o = some e) : putT T o = ((false, e), T) := by unfold putT; rw [h]
theorem putT_yes {T : TS} {o : S49} (h : refS T o = none) : putT T o = ((true, 0), takeS T o) := by unfold putT; rw [h]
theorem put_calls (w : World) (F : List Nat) (p : Nat) (T : TS) (o : S49) (h : Tx w F p T) (hv : upS T.v) (hvl : T.v.length ≤ 1000000) (hl : T.l.length ≤ 500000) (hol : T.ops.length ≤ 1000000) (hk0 : 0 ≤ knownS T o) :
    Calls Try.prog 24 #[.pointer (some ⟨p, 0, none⟩), opV o] w fun e w' => e = .returned (.tuple #[.bool (putT T o).1.1, .int .i64 (putT T o).1.2]) ∧ TakeFin w F p (putT T o).2 w' := by
  by_cases hr : rightS o
  · by_cases h1 : o.f1 ≤ knownS T o
    · have e : refS T o = some 0 := by unfold refS; rw [if_neg (by simpa using hr), if_pos h1]
      rw [putT_no e]
      exact (put_old w F p T o h hr hv hvl hl h1).mono fun e w' ⟨he, hb⟩ => ⟨he, takeFin_same h hb⟩
    · by_cases h2 : knownS T o + 1 < o.f1
      · have e : refS T o = some 6 := by unfold refS; rw [if_neg (by simpa using hr), if_neg h1, if_pos (.inl h2)]
        rw [putT_no e]
        exact (put_gap w F p T o h hr hv hvl hl hk0 h2).mono fun e w' ⟨he, hb⟩ => ⟨he, takeFin_same h hb⟩
      · have ho : o.f1 = knownS T o + 1 := by omega
        by_cases h3 : placeS T.l o.f3 < 0
        · by_cases h4 : idq o.f3 zid = true
          · have h6 : ¬ (knownS T o + 1 < o.f1 ∨ (placeS T.l o.f3 < 0 ∧ idq o.f3 zid = false)) := by rintro (k | ⟨_, k⟩) <;> simp_all
            by_cases h5 : o.f0.f0 ≤ T.last o.f0.f1
            · have e : refS T o = some 1 := by unfold refS; rw [if_neg (by simpa using hr), if_neg h1, if_neg h6, if_pos h5]
              rw [putT_no e]
              exact (put_ctr0 w F p T o h hr hv hvl hl hk0 ho h3 h4 h5).mono fun e w' ⟨he, hb⟩ => ⟨he, takeFin_same h hb⟩
            · have e : refS T o = none := by unfold refS; rw [if_neg (by simpa using hr), if_neg h1, if_neg h6, if_neg h5]
              rw [putT_yes e]
              have hi : o.f2 = true := by
                have hz := (idq_iff _ _).1 h4
                cases hb : o.f2 with
                | true => rfl
                | false =>
                  exfalso
                  obtain ⟨_, _, _, _, k⟩ := hr
                  rw [hb] at k
                  rcases k with ⟨k, _⟩ | ⟨_, k, _⟩
                  · cases k
                  · rw [hz] at k
                    have := k.1
                    simp [zid] at this
              refine (put_ins0 w F p T o h hr hv hvl hl hol hk0 ho h3 h4 (by omega) hi).mono fun e w' ⟨he, hb⟩ => ⟨he, ?_⟩
              have e2 : takeS T o = ⟨insT T.l (skT T.l (placeS T.l o.f3 + 1).toNat o) o, T.ops ++ [o], wtS T.v o.f0.f1 o.f1, upd T.last o.f0.f1 o.f0.f0, max T.top o.f0.f0⟩ := by unfold takeS; rw [if_pos hi]
              show TakeFin w F p (takeS T o) w'
              rw [e2]; exact hb
          · have h4 : idq o.f3 zid = false := by simpa using h4
            have e : refS T o = some 6 := by unfold refS; rw [if_neg (by simpa using hr), if_neg h1, if_pos (.inr ⟨h3, h4⟩)]
            rw [putT_no e]
            exact (put_noref w F p T o h hr hv hvl hl hk0 ho h3 h4).mono fun e w' ⟨he, hb⟩ => ⟨he, takeFin_same h hb⟩
        · have h6 : ¬ (knownS T o + 1 < o.f1 ∨ (placeS T.l o.f3 < 0 ∧ idq o.f3 zid = false)) := by rintro (k | ⟨k, _⟩) <;> omega
          have h3 : 0 ≤ placeS T.l o.f3 := by omega
          by_cases h5 : o.f0.f0 ≤ T.last o.f0.f1
          · have e : refS T o = some 1 := by unfold refS; rw [if_neg (by simpa using hr), if_neg h1, if_neg h6, if_pos h5]
            rw [putT_no e]
            exact (put_ctr w F p T o h hr hv hvl hl hk0 ho h3 h5).mono fun e w' ⟨he, hb⟩ => ⟨he, takeFin_same h hb⟩
          · have e : refS T o = none := by unfold refS; rw [if_neg (by simpa using hr), if_neg h1, if_neg h6, if_neg h5]
            rw [putT_yes e]
            cases hi : o.f2 with
            | true =>
              refine (put_ins w F p T o h hr hv hvl hl hol hk0 ho h3 (by omega) hi).mono fun e w' ⟨he, hb⟩ => ⟨he, ?_⟩
              have e2 : takeS T o = ⟨insT T.l (skT T.l (placeS T.l o.f3 + 1).toNat o) o, T.ops ++ [o], wtS T.v o.f0.f1 o.f1, upd T.last o.f0.f1 o.f0.f0, max T.top o.f0.f0⟩ := by unfold takeS; rw [if_pos hi]
              show TakeFin w F p (takeS T o) w'
              rw [e2]; exact hb
            | false =>
              refine (put_del w F p T o h hr hv hvl hl hol hk0 ho h3 (by omega) hi).mono fun e w' ⟨he, hb⟩ => ⟨he, ?_⟩
              have e2 : takeS T o = ⟨goneS T.l (placeS T.l o.f3).toNat, T.ops ++ [o], wtS T.v o.f0.f1 o.f1, upd T.last o.f0.f1 o.f0.f0, max T.top o.f0.f0⟩ := by unfold takeS; rw [if_neg (by rw [hi]; decide)]
              show TakeFin w F p (takeS T o) w'
              rw [e2]; exact hb
  · have e : refS T o = some 1 := by unfold refS; rw [if_pos hr]
    rw [putT_no e]
    exact (put_wrong w F p T o h hr).mono fun e w' ⟨he, hb⟩ => ⟨he, takeFin_same h hb⟩
end Go.Proofs.Ytefnpalkkhhkfaa.PC
namespace Go.Proofs.Ytefnpalkkhhkfaa.PC
open Go.RowKit Go.Proofs.YtefnpalkkhhkfaaW.PrintWords Go.Proofs.YtefnpalkkhhkfaaW.PrintLast Go.Proofs.YtefnpalkkhhkfaaW.PrintMore Go.Proofs.Ytefnpalkkhhkfaa.K Go.Proofs.Ytefnpalkkhhkfaa.IX Go.Proofs.Ytefnpalkkhhkfaa.I
attribute [local go_sem] max2_int min2_int max_two min_two max_three min_three max_four min_four
attribute [local go_sem high] eqA24
set_option linter.unusedVariables false
set_option linter.unusedSimpArgs false
/-- Of an author the last Seq and its counter. -/
def knStep (a : Int) (k : Int × Int) (x : S49) : Int × Int := if x.f0.f1 = a ∧ k.1 < x.f1 then (x.f1, x.f0.f0) else k
def knownR (L : List S49) (a : Int) : Int × Int := L.foldl (knStep a) (0, 0)
theorem knownR_snoc (L : List S49) (x : S49) (a : Int) : knownR (L ++ [x]) a = knStep a (knownR L a) x := by
  unfold knownR
  rw [List.foldl_append]
  rfl
def hasR (L : List S49) (q : S24) : Bool := L.any fun x => x.f2 && idq x.f0 q
def deadR (L : List S49) (q : S24) : Bool := L.any fun x => !x.f2 && idq x.f3 q
def topR (L : List S49) : Int := L.foldl (fun n x => max n x.f0.f0) 0
theorem topR_snoc (L : List S49) (x : S49) : topR (L ++ [x]) = max (topR L) x.f0.f0 := by
  unfold topR
  rw [List.foldl_append]
  rfl
end Go.Proofs.Ytefnpalkkhhkfaa.PC
namespace Go.Proofs.Ytefnpalkkhhkfaa.PC
open Go.RowKit Go.Proofs.YtefnpalkkhhkfaaW.PrintWords Go.Proofs.Ytefnpalkkhhkfaa.K Go.Proofs.Ytefnpalkkhhkfaa.IX Go.Proofs.Ytefnpalkkhhkfaa.I
set_option linter.unusedVariables false
set_option linter.unusedSimpArgs false
def LTi (a b : S24) : Prop := a.f0 < b.f0 ∨ a.f0 = b.f0 ∧ a.f1 < b.f1
theorem lessI_iff (a b : S24) : lessI a b = true ↔ LTi a b := by simp [lessI, lessB, LTi]
theorem lessI_no (a b : S24) : lessI a b = false ↔ ¬ LTi a b := by rw [← lessI_iff]; simp
theorem LTi.tr {a b c : S24} (h : LTi a b) (k : LTi b c) : LTi a c := by unfold LTi at *; omega
theorem LTi.irr (a : S24) : ¬ LTi a a := by unfold LTi; omega
theorem LTi.asy {a b : S24} (h : LTi a b) : ¬ LTi b a := by unfold LTi at *; omega
theorem id_ext {a b : S24} (h : a.f0 = b.f0) (k : a.f1 = b.f1) : a = b := by cases a; cases b; simp_all
theorem LTi.tri (a b : S24) : LTi a b ∨ a = b ∨ LTi b a := by
  by_cases h : a = b
  · exact .inr (.inl h)
  · have : ¬ (a.f0 = b.f0 ∧ a.f1 = b.f1) := fun k => h (id_ext k.1 k.2)
    unfold LTi; omega
theorem LTi.ne {a b : S24} (h : LTi a b) : a ≠ b := fun e => LTi.irr b (e ▸ h)
theorem idq_no (a b : S24) : idq a b = false ↔ a ≠ b := by rw [Ne, ← idq_iff]; simp
/-- Put into a row, behind all at its head that have greater IDs. -/
def insK (x : S49) : List S49 → List S49
  | [] => [x]
  | y :: l => if lessI x.f0 y.f0 = true then y :: insK x l else x :: y :: l
/-- Put behind one, and behind all that stand there with greater IDs. -/
def insA (x : S49) : List S49 → List S49
  | [] => []
  | y :: l => if idq y.f0 x.f3 = true then y :: insK x l else y :: insA x l
def headLT (x : S24) : List S49 → Prop
  | [] => True
  | y :: _ => ¬ LTi x y.f0
theorem insK_app (x : S49) (a b : List S49) (h : headLT x.f0 b) : insK x (a ++ b) = insK x a ++ b := by
  induction a with
  | nil =>
    cases b with
    | nil => rfl
    | cons y b =>
      have : lessI x.f0 y.f0 = false := (lessI_no _ _).2 h
      simp [insK, this]
  | cons y a ih =>
    simp only [List.cons_append, insK]
    split
    · rw [ih]; rfl
    · rfl
theorem insK_gt (x : S49) (a b : List S49) (h : ∀ y ∈ a, LTi x.f0 y.f0) : insK x (a ++ b) = a ++ insK x b := by
  induction a with
  | nil => rfl
  | cons y a ih =>
    have : lessI x.f0 y.f0 = true := (lessI_iff _ _).2 (h y (by simp))
    simp only [List.cons_append, insK, this, if_true]
    rw [ih (fun z hz => h z (by simp [hz]))]
theorem insA_app (x : S49) (a b : List S49) (hm : x.f3 ∈ a.map (·.f0)) (h : headLT x.f0 b) : insA x (a ++ b) = insA x a ++ b := by
  induction a with
  | nil => simp at hm
  | cons y a ih =>
    simp only [List.cons_append, insA]
    by_cases hq : idq y.f0 x.f3 = true
    · simp only [hq, if_true, List.cons_append]
      rw [insK_app x a b h]
    · simp only [hq, Bool.false_eq_true, if_false, List.cons_append]
      have hne : y.f0 ≠ x.f3 := fun e => hq ((idq_iff _ _).2 e)
      have hm2 : x.f3 ∈ a.map (·.f0) := by
        rw [List.map_cons, List.mem_cons] at hm
        rcases hm with k | k
        · exact absurd k.symm hne
        · exact k
      rw [ih hm2]
theorem insA_skip (x : S49) (a b : List S49) (hm : x.f3 ∉ a.map (·.f0)) : insA x (a ++ b) = a ++ insA x b := by
  induction a with
  | nil => rfl
  | cons y a ih =>
    simp only [List.map_cons, List.mem_cons, not_or] at hm
    have hq : idq y.f0 x.f3 = false := (idq_no _ _).2 (fun e => hm.1 e.symm)
    simp only [List.cons_append, insA, hq, Bool.false_eq_true, if_false]
    rw [ih hm.2]
theorem insK_mem (x z : S49) (l : List S49) : z ∈ insK x l ↔ z = x ∨ z ∈ l := by
  induction l with
  | nil => simp [insK]
  | cons y l ih =>
    simp only [insK]
    split
    · simp only [List.mem_cons, ih]
      constructor
      · rintro (h | h | h) <;> simp [h]
      · rintro (h | h | h) <;> simp [h]
    · simp only [List.mem_cons]
inductive Fo where
  | nil : Fo
  | cons : S49 → Fo → Fo → Fo
namespace Fo
/-- All, each ahead of what hangs on it. -/
def flat : Fo → List S49
  | nil => []
  | cons e s n => e :: (flat s ++ flat n)
def tops : Fo → List S49
  | nil => []
  | cons e _ n => e :: tops n
def ids (F : Fo) : List S24 := F.flat.map (·.f0)
/-- Siblings fall; whoever hangs on one is greater. -/
def ok : Fo → Prop
  | nil => True
  | cons e s n => (∀ x ∈ flat s, LTi e.f0 x.f0) ∧ ok s ∧ ok n ∧ ∀ x ∈ tops n, LTi x.f0 e.f0
def add (x : S49) : Fo → Fo
  | nil => cons x nil nil
  | cons e s n => if lessI x.f0 e.f0 = true then cons e s (add x n) else cons x nil (cons e s n)
/-- Hung on its Ref. -/
def put (x : S49) : Fo → Fo
  | nil => nil
  | cons e s n => if idq e.f0 x.f3 = true then cons e (add x s) n else cons e (put x s) (put x n)
theorem head_tops (F : Fo) (x : S24) (h : ∀ y ∈ tops F, ¬ LTi x y.f0) : headLT x (flat F) := by
  cases F with
  | nil => trivial
  | cons e s n => exact h e (by simp [tops])
theorem tops_add (x : S49) (F : Fo) : tops (add x F) = insK x (tops F) := by
  induction F with
  | nil => rfl
  | cons e s n _ ih =>
    simp only [add, tops, insK]
    split
    · simp only [tops, ih]
    · rfl
theorem flat_add (x : S49) (F : Fo) (h : ok F) : flat (add x F) = insK x (flat F) := by
  induction F with
  | nil => rfl
  | cons e s n _ ih =>
    obtain ⟨h1, _, h3, _⟩ := h
    simp only [add, flat, insK]
    split
    · rename_i hq
      have hx := (lessI_iff _ _).1 hq
      simp only [flat]
      rw [ih h3, insK_gt x _ _ (fun y hy => hx.tr (h1 y hy))]
    · simp [flat]
theorem put_no (x : S49) (F : Fo) (h : x.f3 ∉ ids F) : put x F = F := by
  induction F with
  | nil => rfl
  | cons e s n ihs ihn =>
    simp only [ids, flat, List.map_cons, List.map_append, List.mem_cons, List.mem_append, not_or] at h
    have hq : idq e.f0 x.f3 = false := (idq_no _ _).2 (fun e => h.1 e.symm)
    simp only [put, hq, Bool.false_eq_true, if_false]
    rw [ihs h.2.1, ihn h.2.2]
theorem tops_put (x : S49) (F : Fo) : tops (put x F) = tops F := by
  induction F with
  | nil => rfl
  | cons e s n _ ih =>
    simp only [put]
    split
    · rfl
    · simp only [tops, ih]
theorem flat_put (x : S49) (F : Fo) (h : ok F) (hn : (ids F).Nodup) (hm : x.f3 ∈ ids F) (hlt : LTi x.f3 x.f0) : flat (put x F) = insA x (flat F) := by
  induction F with
  | nil => simp [ids, flat] at hm
  | cons e s n ihs ihn =>
    obtain ⟨h1, h2, h3, h4⟩ := h
    simp only [ids, flat, List.map_cons, List.map_append, List.nodup_cons, List.nodup_append, List.mem_append, not_or] at hn
    obtain ⟨⟨n1, n2⟩, n3, n4, n5⟩ := hn
    simp only [put, flat, insA]
    by_cases hq : idq e.f0 x.f3 = true
    · have he := (idq_iff _ _).1 hq
      simp only [hq, if_true, flat]
      rw [flat_add x s h2, insK_app]
      refine head_tops n _ fun y hy => ?_
      have := h4 y hy
      rw [he] at this
      exact (this.tr hlt).asy
    · have hne : e.f0 ≠ x.f3 := fun k => hq ((idq_iff _ _).2 k)
      simp only [hq, Bool.false_eq_true, if_false, flat]
      simp only [ids, flat, List.map_cons, List.map_append, List.mem_cons, List.mem_append] at hm
      rcases hm with hm | hm | hm
      · exact absurd hm.symm hne
      · have hnn : x.f3 ∉ ids n := fun k => n5 _ hm _ k rfl
        rw [put_no x n hnn, ihs h2 n3 hm, insA_app x _ _ hm]
        refine head_tops n _ fun y hy => ?_
        obtain ⟨z, hz, hz2⟩ := List.mem_map.1 hm
        have := (h4 y hy).tr (h1 z hz)
        rw [hz2] at this
        exact (this.tr hlt).asy
      · have hns : x.f3 ∉ ids s := fun k => n5 _ k _ hm rfl
        rw [put_no x s hns, ihn h3 n4 hm, insA_skip x _ _ hns]
theorem mem_add (x z : S49) (F : Fo) : z ∈ flat (add x F) ↔ z = x ∨ z ∈ flat F := by
  induction F with
  | nil => simp [add, flat]
  | cons e s n _ ih =>
    simp only [add]
    split
    · simp only [flat, List.mem_cons, List.mem_append, ih]
      constructor
      · rintro (h | h | h | h) <;> simp [h]
      · rintro (h | h | h | h) <;> simp [h]
    · simp [flat]
theorem mem_put (x z : S49) (F : Fo) (h : z ∈ flat (put x F)) : z = x ∨ z ∈ flat F := by
  induction F with
  | nil => simp [put, flat] at h
  | cons e s n ihs ihn =>
    simp only [put] at h
    split at h
    · simp only [flat, List.mem_cons, List.mem_append, mem_add] at h ⊢
      rcases h with h | (h | h) | h <;> simp [h]
    · simp only [flat, List.mem_cons, List.mem_append] at h ⊢
      rcases h with h | h | h
      · simp [h]
      · rcases ihs h with h | h <;> simp [h]
      · rcases ihn h with h | h <;> simp [h]
theorem ok_add (x : S49) (F : Fo) (h : ok F) (hn : x.f0 ∉ ids F) : ok (add x F) := by
  induction F with
  | nil => exact ⟨fun _ h => (by cases h), trivial, trivial, fun _ h => (by cases h)⟩
  | cons e s n _ ih =>
    obtain ⟨h1, h2, h3, h4⟩ := h
    simp only [ids, flat, List.map_cons, List.map_append, List.mem_cons, List.mem_append, not_or] at hn
    simp only [add]
    split
    · rename_i hq
      have hx := (lessI_iff _ _).1 hq
      refine ⟨h1, h2, ih h3 hn.2.2, fun y hy => ?_⟩
      rw [tops_add, insK_mem] at hy
      rcases hy with rfl | hy
      · exact hx
      · exact h4 y hy
    · rename_i hq
      have hx : ¬ LTi x.f0 e.f0 := fun k => hq ((lessI_iff _ _).2 k)
      have hex : LTi e.f0 x.f0 := by
        rcases LTi.tri x.f0 e.f0 with k | k | k
        · exact absurd k hx
        · exact absurd k hn.1
        · exact k
      refine ⟨fun _ h => (by cases h), trivial, ⟨h1, h2, h3, h4⟩, fun y hy => ?_⟩
      simp only [tops, List.mem_cons] at hy
      rcases hy with rfl | hy
      · exact hex
      · exact (h4 y hy).tr hex
theorem ok_put (x : S49) (F : Fo) (h : ok F) (hn : x.f0 ∉ ids F) (hlt : LTi x.f3 x.f0) : ok (put x F) ∧ ∀ b, (∀ y ∈ flat F, LTi b y.f0) → ∀ y ∈ flat (put x F), LTi b y.f0 := by
  induction F with
  | nil => exact ⟨trivial, fun b h => h⟩
  | cons e s n ihs ihn =>
    obtain ⟨h1, h2, h3, h4⟩ := h
    simp only [ids, flat, List.map_cons, List.map_append, List.mem_cons, List.mem_append, not_or] at hn
    simp only [put]
    by_cases hq : idq e.f0 x.f3 = true
    · have he := (idq_iff _ _).1 hq
      simp only [hq, if_true]
      have hex : LTi e.f0 x.f0 := he ▸ hlt
      refine ⟨⟨fun y hy => ?_, ok_add x s h2 hn.2.1, h3, h4⟩, fun b hb y hy => ?_⟩
      · rcases (mem_add x y s).1 hy with rfl | hy
        · exact hex
        · exact h1 y hy
      · simp only [flat, List.mem_cons, List.mem_append, mem_add] at hy
        have hbe := hb e (by simp [flat])
        rcases hy with rfl | (rfl | hy) | hy
        · exact hbe
        · exact hbe.tr hex
        · exact hb y (by simp [flat, hy])
        · exact hb y (by simp [flat, hy])
    · simp only [hq, Bool.false_eq_true, if_false]
      obtain ⟨a1, a2⟩ := ihs h2 hn.2.1
      obtain ⟨b1, b2⟩ := ihn h3 hn.2.2
      refine ⟨⟨a2 e.f0 h1, a1, b1, by rw [tops_put]; exact h4⟩, fun b hb y hy => ?_⟩
      simp only [flat, List.mem_cons, List.mem_append] at hy
      rcases hy with rfl | hy | hy
      · exact hb y (by simp [flat])
      · exact a2 b (fun z hz => hb z (by simp [flat, hz])) y hy
      · exact b2 b (fun z hz => hb z (by simp [flat, hz])) y hy
end Fo
theorem snoc_ind {α : Type} {P : List α → Prop} (h0 : P []) (h1 : ∀ l x, P l → P (l ++ [x])) : ∀ l, P l := by
  intro l
  have h : ∀ r : List α, P r.reverse := by
    intro r
    induction r with
    | nil => exact h0
    | cons x r ih => rw [List.reverse_cons]; exact h1 _ _ ih
  have := h l.reverse
  rwa [List.reverse_reverse] at this
def kids (q : S24) (L : List S49) : List S49 := L.foldl (fun out x => if (x.f2 && idq x.f3 q) = true then insK x out else out) []
theorem kids_snoc (q : S24) (L : List S49) (x : S49) : kids q (L ++ [x]) = if (x.f2 && idq x.f3 q) = true then insK x (kids q L) else kids q L := by
  unfold kids
  rw [List.foldl_append]
  rfl
theorem kids_mem (q : S24) (L : List S49) (z : S49) (h : z ∈ kids q L) : z ∈ L ∧ z.f2 = true ∧ z.f3 = q := by
  induction L using snoc_ind with
  | h0 => cases h
  | h1 L x ih =>
    rw [kids_snoc] at h
    split at h
    · rename_i hq
      simp only [Bool.and_eq_true, idq_iff] at hq
      rw [insK_mem] at h
      rcases h with rfl | h
      · exact ⟨by simp, hq.1, hq.2⟩
      · have := ih h; exact ⟨by simp [this.1], this.2⟩
    · have := ih h; exact ⟨by simp [this.1], this.2⟩
/-- Each one's kids are what hangs on it. -/
def rep (L : List S49) : Fo → Prop
  | .nil => True
  | .cons e s n => s.tops = kids e.f0 L ∧ rep L s ∧ rep L n
theorem rep_same {L L' : List S49} (F : Fo) (h : rep L F) (hk : ∀ q ∈ F.ids, kids q L' = kids q L) : rep L' F := by
  induction F with
  | nil => trivial
  | cons e s n ihs ihn =>
    obtain ⟨h1, h2, h3⟩ := h
    simp only [Fo.ids, Fo.flat, List.map_cons, List.map_append, List.mem_cons, List.mem_append] at hk
    exact ⟨by rw [h1, hk _ (.inl rfl)], ihs h2 (fun q hq => hk q (.inr (.inl hq))), ihn h3 (fun q hq => hk q (.inr (.inr hq)))⟩
theorem rep_add {L : List S49} (x : S49) (F : Fo) (h : rep L F) (hx : kids x.f0 L = []) : rep L (F.add x) := by
  induction F with
  | nil => exact ⟨hx.symm, trivial, trivial⟩
  | cons e s n _ ih =>
    obtain ⟨h1, h2, h3⟩ := h
    simp only [Fo.add]
    split
    · exact ⟨h1, h2, ih h3⟩
    · exact ⟨hx.symm, trivial, h1, h2, h3⟩
theorem rep_put {L : List S49} (x : S49) (F : Fo) (h : rep L F) (hi : x.f2 = true) (hn : F.ids.Nodup) (hx : kids x.f0 (L ++ [x]) = []) : rep (L ++ [x]) (F.put x) := by
  induction F with
  | nil => trivial
  | cons e s n ihs ihn =>
    obtain ⟨h1, h2, h3⟩ := h
    simp only [Fo.ids, Fo.flat, List.map_cons, List.map_append, List.nodup_cons, List.nodup_append, List.mem_append, not_or] at hn
    obtain ⟨⟨n1, n2⟩, n3, n4, n5⟩ := hn
    simp only [Fo.put]
    have other : ∀ q, q ≠ x.f3 → kids q (L ++ [x]) = kids q L := fun q hq => by
      rw [kids_snoc, (idq_no _ _).2 (fun k => hq k.symm)]
      simp
    split
    · rename_i hq
      have he := (idq_iff _ _).1 hq
      refine ⟨?_, ?_, ?_⟩
      · rw [Fo.tops_add, h1, kids_snoc, he, hi, idq_self]
        simp
      · exact rep_add x s (rep_same s h2 fun q hq => other q (fun k => n1 (by rw [he, ← k]; exact hq))) hx
      · exact rep_same n h3 fun q hq => other q (fun k => n2 (by rw [he, ← k]; exact hq))
    · rename_i hq
      have hne : e.f0 ≠ x.f3 := fun k => hq ((idq_iff _ _).2 k)
      exact ⟨by rw [Fo.tops_put, h1, other _ hne], ihs h2 n3, ihn h3 n4⟩
end Go.Proofs.Ytefnpalkkhhkfaa.PC
namespace Go.Proofs.Ytefnpalkkhhkfaa.PC
open Go.RowKit Go.Proofs.YtefnpalkkhhkfaaW.PrintWords Go.Proofs.Ytefnpalkkhhkfaa.K Go.Proofs.Ytefnpalkkhhkfaa.IX Go.Proofs.Ytefnpalkkhhkfaa.I
set_option linter.unusedVariables false
set_option linter.unusedSimpArgs false
def toX (L : List S49) (e : S49) : S83 := ⟨e.f0, e.f4, !deadR L e.f0⟩
structure Inv (T : TS) (F : Fo) : Prop where
  right : ∀ x ∈ T.ops, rightS x
  tops : F.tops = kids zid T.ops
  rep : rep T.ops F
  ok : F.ok
  nodup : F.ids.Nodup
  mem : ∀ x, x ∈ F.flat ↔ x ∈ T.ops ∧ x.f2 = true
  l : T.l = F.flat.map (toX T.ops)
  refs : ∀ x ∈ T.ops, x.f3 = zid ∨ x.f3 ∈ F.ids
  vec : vec (ens T.v)
  sq : ∀ a, sq (ens T.v) a = (knownR T.ops a).1
  last : ∀ a, T.last a = (knownR T.ops a).2
  le : ∀ x ∈ T.ops, x.f1 ≤ (knownR T.ops x.f0.f1).1 ∧ x.f0.f0 ≤ (knownR T.ops x.f0.f1).2
  top : T.top = topR T.ops
  ll : T.l.length ≤ T.ops.length
  vl : T.v.length ≤ T.ops.length
theorem inv0 : Inv T0 .nil :=
  ⟨fun _ h => (by simp [T0] at h), rfl, trivial, trivial, List.nodup_nil, fun x => (by simp [Fo.flat, T0]), rfl, fun _ h => (by simp [T0] at h), vec_nil, fun _ => rfl, fun _ => rfl, fun _ h => (by simp [T0] at h), rfl, Nat.le_refl _, Nat.le_refl _⟩
theorem Inv.zid_no {T : TS} {F : Fo} (h : Inv T F) : zid ∉ F.ids := fun hm => by
  obtain ⟨x, hx, hz⟩ := List.mem_map.1 hm
  have := (h.right x ((h.mem x).1 hx).1).1.1
  rw [hz] at this
  simp [zid] at this
theorem Inv.lids {T : TS} {F : Fo} (h : Inv T F) : T.l.map (·.f0) = F.ids := by
  rw [h.l, List.map_map]
  rfl
theorem place_iff (l : List S83) (x : S24) : 0 ≤ placeS l x ↔ x ∈ l.map (·.f0) := by
  constructor
  · intro h
    obtain ⟨e, h1, h2⟩ := placeS_some l x h
    exact List.mem_map.2 ⟨e, List.mem_of_getElem? h1, h2⟩
  · intro h
    apply Decidable.byContradiction
    intro hn
    obtain ⟨e, he, hx⟩ := List.mem_map.1 h
    have key : ∀ l : List S83, e ∈ l → 0 ≤ placeS l x := by
      intro l
      induction l with
      | nil => intro h; cases h
      | cons y l ih =>
        intro h
        simp only [placeS]
        split
        · omega
        · rename_i hq
          rcases List.mem_cons.1 h with rfl | h
          · exact absurd ((idq_iff _ _).2 hx) hq
          · have := ih h
            split <;> omega
    exact hn (key l he)
theorem Inv.place {T : TS} {F : Fo} (h : Inv T F) (x : S24) : 0 ≤ placeS T.l x ↔ x ∈ F.ids := by rw [place_iff, h.lids]
theorem Inv.has {T : TS} {F : Fo} (h : Inv T F) (x : S24) : hasR T.ops x = true ↔ x ∈ F.ids := by
  unfold hasR Fo.ids
  rw [List.any_eq_true, List.mem_map]
  constructor
  · rintro ⟨e, he, hq⟩
    simp only [Bool.and_eq_true, idq_iff] at hq
    exact ⟨e, (h.mem e).2 ⟨he, hq.1⟩, hq.2⟩
  · rintro ⟨e, he, hq⟩
    have := (h.mem e).1 he
    exact ⟨e, this.1, by simp [this.2, (idq_iff _ _).2 hq]⟩
theorem Inv.upS {T : TS} {F : Fo} (h : Inv T F) : upS T.v := up_upS h.vec.1
theorem Inv.kn {T : TS} {F : Fo} (h : Inv T F) (o : S49) : 0 ≤ knownS T o := (sq_pos h.vec _).1
/-- What the reference's Put does. -/
def refR (L : List S49) (o : S49) : Option Int :=
  if ¬ rightS o then some 1
  else if o.f1 ≤ (knownR L o.f0.f1).1 then some 0
  else if (knownR L o.f0.f1).1 ≠ o.f1 - 1 ∨ (hasR L o.f3 = false ∧ idq o.f3 zid = false) then some 6
  else if o.f0.f0 ≤ (knownR L o.f0.f1).2 then some 1
  else none
theorem Inv.ref {T : TS} {F : Fo} (h : Inv T F) (o : S49) : refS T o = refR T.ops o := by
  unfold refS refR knownS
  rw [h.sq, h.last]
  by_cases hr : rightS o
  · have hnn : ¬ ¬ rightS o := fun k => k hr
    rw [if_neg hnn, if_neg hnn]
    by_cases h1 : o.f1 ≤ (knownR T.ops o.f0.f1).1
    · rw [if_pos h1, if_pos h1]
    · rw [if_neg h1, if_neg h1]
      have e : (((knownR T.ops o.f0.f1).1 + 1 < o.f1 ∨ (placeS T.l o.f3 < 0 ∧ idq o.f3 zid = false)) ↔ ((knownR T.ops o.f0.f1).1 ≠ o.f1 - 1 ∨ (hasR T.ops o.f3 = false ∧ idq o.f3 zid = false))) := by
        have e1 : placeS T.l o.f3 < 0 ↔ hasR T.ops o.f3 = false := by
          have a := h.place o.f3
          have b := h.has o.f3
          constructor
          · intro k
            cases hh : hasR T.ops o.f3 with
            | false => rfl
            | true => have := a.2 (b.1 hh); omega
          · intro k
            apply Decidable.byContradiction
            intro k2
            have := b.2 (a.1 (by omega))
            rw [k] at this
            cases this
        rw [e1]
        constructor
        · rintro (k | k)
          · left; omega
          · exact .inr k
        · rintro (k | k)
          · left; omega
          · exact .inr k
      by_cases h2 : (knownR T.ops o.f0.f1).1 + 1 < o.f1 ∨ (placeS T.l o.f3 < 0 ∧ idq o.f3 zid = false)
      · rw [if_pos h2, if_pos (e.1 h2)]
      · rw [if_neg h2, if_neg (fun k => h2 (e.2 k))]
  · rw [if_pos hr, if_pos hr]
theorem insK_take (o : S49) (A : List S49) (g : S49 → S83) (hg : ∀ e, (g e).f0 = e.f0) : insK o A = A.take (skipS o.f0 (A.map g)) ++ o :: A.drop (skipS o.f0 (A.map g)) := by
  induction A with
  | nil => rfl
  | cons y A ih =>
    simp only [insK, List.map_cons, skipS, hg]
    split
    · rw [ih]; rfl
    · rfl
theorem insA_take (o : S49) (A : List S49) (g : S49 → S83) (hg : ∀ e, (g e).f0 = e.f0) (hm : o.f3 ∈ A.map (·.f0)) : insA o A = A.take (placeS (A.map g) o.f3 + 1).toNat ++ insK o (A.drop (placeS (A.map g) o.f3 + 1).toNat) := by
  induction A with
  | nil => simp at hm
  | cons y A ih =>
    simp only [insA, List.map_cons, placeS, hg]
    by_cases hq : idq y.f0 o.f3 = true
    · simp only [hq, if_true]
      rfl
    · have hm2 : o.f3 ∈ A.map (·.f0) := by
        rw [List.map_cons, List.mem_cons] at hm
        rcases hm with k | k
        · exact absurd ((idq_iff _ _).2 k.symm) hq
        · exact k
      have hp : 0 ≤ placeS (A.map g) o.f3 := by
        rw [place_iff, List.map_map]
        have e : A.map ((fun x : S83 => x.f0) ∘ g) = A.map (·.f0) := List.map_congr_left fun e _ => hg e
        rw [e]
        exact hm2
      simp only [hq, Bool.false_eq_true, if_false, if_neg (show ¬ placeS (A.map g) o.f3 < 0 by omega)]
      rw [show (placeS (A.map g) o.f3 + 1 + 1).toNat = (placeS (A.map g) o.f3 + 1).toNat + 1 by omega, List.take_succ_cons, List.drop_succ_cons, ih hm2]
      rfl
theorem insT_map (o : S49) (A : List S49) (g : S49 → S83) (hg : ∀ e, (g e).f0 = e.f0) (m : Nat) (hm : m ≤ A.length) : insT (A.map g) (skT (A.map g) m o) o = (A.take m).map g ++ ((A.drop m).take (skipS o.f0 ((A.drop m).map g))).map g ++ [elOf o] ++ ((A.drop m).drop (skipS o.f0 ((A.drop m).map g))).map g := by
  unfold insT skT
  rw [← List.map_drop, ← List.map_take, ← List.map_drop, List.take_add, List.map_append, ← List.drop_drop]
theorem ins_row (o : S49) (A : List S49) (g g' : S49 → S83) (hg : ∀ e, (g e).f0 = e.f0) (he : ∀ e ∈ A, g' e = g e) (ho : g' o = elOf o) (m : Nat) (hm : m ≤ A.length) : insT (A.map g) (skT (A.map g) m o) o = (A.take m ++ insK o (A.drop m)).map g' := by
  rw [insT_map o A g hg m hm, insK_take o (A.drop m) g hg, List.map_append, List.map_append, List.map_cons, ho]
  have e1 : ∀ B : List S49, (∀ x ∈ B, x ∈ A) → B.map g = B.map g' := fun B hB => List.map_congr_left fun x hx => (he x (hB x hx)).symm
  rw [e1 (A.take m) (fun x hx => List.mem_of_mem_take hx), e1 _ (fun x hx => List.mem_of_mem_drop (List.mem_of_mem_take hx)), e1 _ (fun x hx => List.mem_of_mem_drop (List.mem_of_mem_drop hx))]
  simp
theorem gone_row (A : List S49) (g g' : S49 → S83) (hg : ∀ e, (g e).f0 = e.f0) (r : S24) (hn : (A.map (·.f0)).Nodup) (hm : r ∈ A.map (·.f0)) (h1 : ∀ e ∈ A, e.f0 = r → g' e = ⟨(g e).f0, (g e).f1, false⟩) (h2 : ∀ e ∈ A, e.f0 ≠ r → g' e = g e) : goneS (A.map g) (placeS (A.map g) r).toNat = A.map g' := by
  induction A with
  | nil => simp at hm
  | cons y A ih =>
    rw [List.map_cons, List.nodup_cons] at hn
    simp only [List.map_cons, placeS, hg]
    by_cases hq : idq y.f0 r = true
    · have hr := (idq_iff _ _).1 hq
      simp only [hq, if_true]
      show (⟨(g y).f0, (g y).f1, false⟩ : S83) :: A.map g = _
      rw [h1 y (by simp) hr]
      congr 1
      exact List.map_congr_left fun e he => (h2 e (by simp [he]) (fun k => hn.1 (by rw [hr, ← k]; exact List.mem_map.2 ⟨e, he, rfl⟩))).symm
    · have hm2 : r ∈ A.map (·.f0) := by
        rw [List.map_cons, List.mem_cons] at hm
        rcases hm with k | k
        · exact absurd ((idq_iff _ _).2 k.symm) hq
        · exact k
      have hp : 0 ≤ placeS (A.map g) r := by
        rw [place_iff, List.map_map]
        have e : A.map ((fun x : S83 => x.f0) ∘ g) = A.map (·.f0) := List.map_congr_left fun e _ => hg e
        rw [e]
        exact hm2
      simp only [hq, Bool.false_eq_true, if_false, if_neg (show ¬ placeS (A.map g) r < 0 by omega)]
      rw [show (placeS (A.map g) r + 1).toNat = (placeS (A.map g) r).toNat + 1 by omega]
      show g y :: goneS (A.map g) (placeS (A.map g) r).toNat = _
      rw [ih hn.2 hm2 (fun e he => h1 e (by simp [he])) (fun e he => h2 e (by simp [he])), h2 y (by simp) (fun k => hq ((idq_iff _ _).2 k))]
end Go.Proofs.Ytefnpalkkhhkfaa.PC
namespace Go.Proofs.Ytefnpalkkhhkfaa.PC
open Go.RowKit Go.Proofs.YtefnpalkkhhkfaaW.PrintWords Go.Proofs.Ytefnpalkkhhkfaa.K Go.Proofs.Ytefnpalkkhhkfaa.IX Go.Proofs.Ytefnpalkkhhkfaa.I
set_option linter.unusedVariables false
set_option linter.unusedSimpArgs false
theorem refS_none {T : TS} {o : S49} (h : refS T o = none) : rightS o ∧ o.f1 = knownS T o + 1 ∧ (0 ≤ placeS T.l o.f3 ∨ o.f3 = zid) ∧ T.last o.f0.f1 < o.f0.f0 := by
  unfold refS at h
  by_cases hr : rightS o
  · have hnn : ¬ ¬ rightS o := fun k => k hr
    rw [if_neg hnn] at h
    split at h
    · cases h
    · split at h
      · cases h
      · split at h
        · cases h
        · rename_i h1 h2 h3
          refine ⟨hr, by omega, ?_, by omega⟩
          by_cases hp : 0 ≤ placeS T.l o.f3
          · exact .inl hp
          · right
            rw [← idq_iff]
            cases hq : idq o.f3 zid with
            | true => rfl
            | false => exact absurd (.inr ⟨by omega, hq⟩) h2
  · rw [if_pos hr] at h
    cases h
theorem deadR_snoc (L : List S49) (o : S49) (q : S24) : deadR (L ++ [o]) q = (deadR L q || (!o.f2 && idq o.f3 q)) := by
  unfold deadR
  rw [List.any_append]
  simp
theorem Inv.fresh {T : TS} {F : Fo} (h : Inv T F) {o : S49} (hl : T.last o.f0.f1 < o.f0.f0) : o.f0 ∉ F.ids ∧ ∀ x ∈ T.ops, x.f0 ≠ o.f0 := by
  have key : ∀ x ∈ T.ops, x.f0 ≠ o.f0 := fun x hx e => by
    have := (h.le x hx).2
    rw [e, ← h.last] at this
    omega
  refine ⟨fun hm => ?_, key⟩
  obtain ⟨x, hx, he⟩ := List.mem_map.1 hm
  exact key x ((h.mem x).1 hx).1 he
theorem kids_none {L : List S49} {q : S24} (h : ∀ x ∈ L, x.f3 ≠ q) : kids q L = [] := by
  cases hk : kids q L with
  | nil => rfl
  | cons y l =>
    have := kids_mem q L y (by rw [hk]; simp)
    exact absurd this.2.2 (h y this.1)
theorem right_ne {o : S49} (h : rightS o) : LTi o.f3 o.f0 := .inl h.2.2.2.1
theorem knStep_other {a : Int} {k : Int × Int} {x : S49} (h : x.f0.f1 ≠ a) : knStep a k x = k := by
  unfold knStep
  rw [if_neg (fun q => h q.1)]
/-- What both kinds of operations have in common. -/
theorem inv_common {T : TS} {F F' : Fo} (h : Inv T F) {o : S49} {l' : List S83} (hn : refS T o = none) (h1 : F'.tops = kids zid (T.ops ++ [o])) (h2 : rep (T.ops ++ [o]) F') (h3 : F'.ok) (h4 : F'.ids.Nodup) (h5 : ∀ x, x ∈ F'.flat ↔ x ∈ T.ops ++ [o] ∧ x.f2 = true) (h6 : l' = F'.flat.map (toX (T.ops ++ [o])))
    (h7 : l'.length ≤ T.l.length + 1) : Inv ⟨l', T.ops ++ [o], wtS T.v o.f0.f1 o.f1, upd T.last o.f0.f1 o.f0.f0, max T.top o.f0.f0⟩ F' := by
  obtain ⟨hr, hs, hp, hl⟩ := refS_none hn
  obtain ⟨⟨r1, r2, r3, r4⟩, r5, r6, r7, r8⟩ := hr
  have hkn : knStep o.f0.f1 (knownR T.ops o.f0.f1) o = (o.f1, o.f0.f0) := by
    unfold knStep
    rw [if_pos ⟨rfl, by unfold knownS at hs; rw [h.sq] at hs; omega⟩]
  have hids : ∀ q, q ∈ F.ids → q ∈ F'.ids := fun q hq => by
    obtain ⟨x, hx, rfl⟩ := List.mem_map.1 hq
    exact List.mem_map.2 ⟨x, (h5 x).2 ⟨by simp [((h.mem x).1 hx).1], ((h.mem x).1 hx).2⟩, rfl⟩
  have hvec : vec (ens (wtS T.v o.f0.f1 o.f1)) := by rw [wtS_eq h.upS]; exact wt_vec h.vec ⟨r3, by omega⟩ r6
  refine ⟨fun x hx => ?_, h1, h2, h3, h4, h5, h6, fun x hx => ?_, hvec, fun a => ?_, fun a => ?_, fun x hx => ?_, ?_, ?_, ?_⟩
  · rcases List.mem_append.1 hx with k | k
    · exact h.right x k
    · rw [List.mem_singleton.1 k]; exact ⟨⟨r1, r2, r3, r4⟩, r5, r6, r7, r8⟩
  · rcases List.mem_append.1 hx with k | k
    · rcases h.refs x k with q | q
      · exact .inl q
      · exact .inr (hids _ q)
    · rw [List.mem_singleton.1 k]
      rcases hp with q | q
      · exact .inr (hids _ ((h.place _).1 q))
      · exact .inl q
  · show I.sq (ens (wtS T.v o.f0.f1 o.f1)) a = (knownR (T.ops ++ [o]) a).1
    rw [wtS_eq h.upS, wt_sq h.vec (by omega), knownR_snoc]
    by_cases ha : a = o.f0.f1
    · subst ha
      rw [if_pos rfl, hkn]
      unfold knownS at hs
      show max _ _ = o.f1
      omega
    · rw [if_neg ha, knStep_other (fun k => ha k.symm), h.sq]
  · show upd T.last o.f0.f1 o.f0.f0 a = (knownR (T.ops ++ [o]) a).2
    rw [knownR_snoc]
    unfold upd
    by_cases ha : a = o.f0.f1
    · subst ha
      rw [if_pos rfl, hkn]
    · rw [if_neg ha, knStep_other (fun k => ha k.symm), h.last]
  · show x.f1 ≤ (knownR (T.ops ++ [o]) x.f0.f1).1 ∧ x.f0.f0 ≤ (knownR (T.ops ++ [o]) x.f0.f1).2
    rw [knownR_snoc]
    rcases List.mem_append.1 hx with k | k
    · have := h.le x k
      by_cases ha : o.f0.f1 = x.f0.f1
      · have e1 := h.sq x.f0.f1
        have e2 := h.last x.f0.f1
        rw [← ha] at this e1 e2 ⊢
        rw [hkn]
        unfold knownS at hs
        show x.f1 ≤ o.f1 ∧ x.f0.f0 ≤ o.f0.f0
        omega
      · rw [knStep_other ha]; exact this
    · rw [List.mem_singleton.1 k, hkn]
      exact ⟨Int.le_refl _, Int.le_refl _⟩
  · show max T.top o.f0.f0 = _
    rw [topR_snoc, h.top]
  · show l'.length ≤ (T.ops ++ [o]).length
    have := h.ll
    simp only [List.length_append, List.length_singleton]
    omega
  · show (wtS T.v o.f0.f1 o.f1).length ≤ (T.ops ++ [o]).length
    have := h.vl
    have := wtS_len h.upS o.f0.f1 o.f1
    simp only [List.length_append, List.length_singleton]
    omega
theorem add_nodup (x : S49) (F : Fo) (hn : F.ids.Nodup) (hx : x.f0 ∉ F.ids) (h : F.ok) : (F.add x).ids.Nodup := by
  unfold Fo.ids
  rw [Fo.flat_add x F h]
  have key : ∀ A : List S49, (A.map (·.f0)).Nodup → x.f0 ∉ A.map (·.f0) → ((insK x A).map (·.f0)).Nodup := by
    intro A
    induction A with
    | nil => intro _ _; simp [insK]
    | cons y A ih =>
      intro hA hx
      rw [List.map_cons, List.nodup_cons] at hA
      rw [List.map_cons, List.mem_cons, not_or] at hx
      simp only [insK]
      split
      · rw [List.map_cons, List.nodup_cons]
        refine ⟨fun hm => ?_, ih hA.2 hx.2⟩
        obtain ⟨z, hz, he⟩ := List.mem_map.1 hm
        rcases (insK_mem x z A).1 hz with rfl | hz
        · exact hx.1 he
        · exact hA.1 (List.mem_map.2 ⟨z, hz, he⟩)
      · rw [List.map_cons, List.nodup_cons]
        refine ⟨fun hm => ?_, ?_⟩
        · rw [List.map_cons, List.mem_cons] at hm
          rcases hm with k | k
          · exact hx.1 k
          · exact hx.2 k
        · rw [List.map_cons, List.nodup_cons]; exact hA
  exact key _ hn hx
theorem put_nodup (x : S49) (F : Fo) (hn : F.ids.Nodup) (hx : x.f0 ∉ F.ids) (h : F.ok) (hm : x.f3 ∈ F.ids) (hlt : LTi x.f3 x.f0) : (F.put x).ids.Nodup ∧ ∀ z, z ∈ (F.put x).flat ↔ z = x ∨ z ∈ F.flat := by
  have e := Fo.flat_put x F h hn hm hlt
  have key : ∀ A : List S49, x.f3 ∈ A.map (·.f0) → (A.map (·.f0)).Nodup → x.f0 ∉ A.map (·.f0) → ((insA x A).map (·.f0)).Nodup ∧ ∀ z, z ∈ insA x A ↔ z = x ∨ z ∈ A := by
    intro A
    induction A with
    | nil => intro h; simp at h
    | cons y A ih =>
      intro h3 hA hx
      rw [List.map_cons, List.nodup_cons] at hA
      rw [List.map_cons, List.mem_cons, not_or] at hx
      simp only [insA]
      by_cases hq : idq y.f0 x.f3 = true
      · simp only [hq, if_true]
        have kk : ∀ A : List S49, (A.map (·.f0)).Nodup → x.f0 ∉ A.map (·.f0) → ((insK x A).map (·.f0)).Nodup := by
          intro A
          induction A with
          | nil => intro _ _; simp [insK]
          | cons y A ih =>
            intro hA hx
            rw [List.map_cons, List.nodup_cons] at hA
            rw [List.map_cons, List.mem_cons, not_or] at hx
            simp only [insK]
            split
            · rw [List.map_cons, List.nodup_cons]
              refine ⟨fun hm => ?_, ih hA.2 hx.2⟩
              obtain ⟨z, hz, he⟩ := List.mem_map.1 hm
              rcases (insK_mem x z A).1 hz with rfl | hz
              · exact hx.1 he
              · exact hA.1 (List.mem_map.2 ⟨z, hz, he⟩)
            · rw [List.map_cons, List.nodup_cons]
              refine ⟨fun hm => ?_, ?_⟩
              · rw [List.map_cons, List.mem_cons] at hm
                rcases hm with k | k
                · exact hx.1 k
                · exact hx.2 k
              · rw [List.map_cons, List.nodup_cons]; exact hA
        refine ⟨?_, fun z => ?_⟩
        · rw [List.map_cons, List.nodup_cons]
          refine ⟨fun hm => ?_, kk A hA.2 hx.2⟩
          obtain ⟨z, hz, he⟩ := List.mem_map.1 hm
          rcases (insK_mem x z A).1 hz with rfl | hz
          · exact hx.1 he
          · exact hA.1 (List.mem_map.2 ⟨z, hz, he⟩)
        · rw [List.mem_cons, List.mem_cons, insK_mem]
          constructor
          · rintro (k | k | k) <;> simp [k]
          · rintro (k | k | k) <;> simp [k]
      · have hm2 : x.f3 ∈ A.map (·.f0) := by
          rw [List.map_cons, List.mem_cons] at h3
          rcases h3 with k | k
          · exact absurd ((idq_iff _ _).2 k.symm) hq
          · exact k
        obtain ⟨i1, i2⟩ := ih hm2 hA.2 hx.2
        simp only [hq, Bool.false_eq_true, if_false]
        refine ⟨?_, fun z => ?_⟩
        · rw [List.map_cons, List.nodup_cons]
          refine ⟨fun hm => ?_, i1⟩
          obtain ⟨z, hz, he⟩ := List.mem_map.1 hm
          rcases (i2 z).1 hz with rfl | hz
          · exact hx.1 he
          · exact hA.1 (List.mem_map.2 ⟨z, hz, he⟩)
        · rw [List.mem_cons, List.mem_cons, i2]
          constructor
          · rintro (k | k | k) <;> simp [k]
          · rintro (k | k | k) <;> simp [k]
  unfold Fo.ids
  rw [e]
  exact key _ hm hn hx
theorem inv_take {T : TS} {F : Fo} (h : Inv T F) {o : S49} (hn : refS T o = none) : ∃ F', Inv (takeS T o) F' := by
  obtain ⟨hr, hs, hp, hl⟩ := refS_none hn
  obtain ⟨hf, hf2⟩ := h.fresh hl
  have hlt := right_ne hr
  have hz : o.f0 ≠ zid := fun e => by
    have := hr.1.1
    rw [e] at this
    simp [zid] at this
  have hg : ∀ e, (toX T.ops e).f0 = e.f0 := fun _ => rfl
  have hnoref : ∀ x ∈ T.ops ++ [o], x.f3 ≠ o.f0 := fun x hx e => by
    rcases List.mem_append.1 hx with k | k
    · rcases h.refs x k with q | q
      · exact hz (e.symm.trans q)
      · exact hf (e ▸ q)
    · rw [List.mem_singleton.1 k] at e
      exact hlt.ne e
  cases hi : o.f2 with
  | true =>
    have hsame : ∀ e ∈ F.flat, toX (T.ops ++ [o]) e = toX T.ops e := fun e _ => by
      unfold toX
      rw [deadR_snoc, hi]
      simp
    have hself : toX (T.ops ++ [o]) o = elOf o := by
      have : deadR (T.ops ++ [o]) o.f0 = false := by
        cases hd : deadR (T.ops ++ [o]) o.f0 with
        | false => rfl
        | true =>
          unfold deadR at hd
          rw [List.any_eq_true] at hd
          obtain ⟨x, hx, hq⟩ := hd
          simp only [Bool.and_eq_true, idq_iff] at hq
          exact absurd hq.2 (hnoref x hx)
      unfold toX elOf
      rw [this]
      rfl
    have hmem : ∀ {F' : Fo}, (∀ z, z ∈ F'.flat ↔ z = o ∨ z ∈ F.flat) → ∀ x, x ∈ F'.flat ↔ x ∈ T.ops ++ [o] ∧ x.f2 = true := fun hF x => by
      rw [hF, h.mem, List.mem_append, List.mem_singleton]
      constructor
      · rintro (rfl | k)
        · exact ⟨.inr rfl, hi⟩
        · exact ⟨.inl k.1, k.2⟩
      · rintro ⟨k | k, q⟩
        · exact .inr ⟨k, q⟩
        · exact .inl k
    have hkx : kids o.f0 (T.ops ++ [o]) = [] := kids_none hnoref
    have hts : takeS T o = ⟨insT T.l (skT T.l (placeS T.l o.f3 + 1).toNat o) o, T.ops ++ [o], wtS T.v o.f0.f1 o.f1, upd T.last o.f0.f1 o.f0.f0, max T.top o.f0.f0⟩ := by unfold takeS; rw [if_pos hi]
    have hlen : (insT T.l (skT T.l (placeS T.l o.f3 + 1).toNat o) o).length ≤ T.l.length + 1 := by
      have := placeS_range T.l o.f3
      rw [insT_len _ _ _ (skT_le T.l _ o (by omega)).2]
      omega
    rw [hts]
    by_cases hq : 0 ≤ placeS T.l o.f3
    · have hm := (h.place _).1 hq
      obtain ⟨n1, n2⟩ := put_nodup o F h.nodup hf h.ok hm hlt
      refine ⟨F.put o, inv_common h hn ?_ (rep_put o F h.rep hi h.nodup hkx) (Fo.ok_put o F h.ok hf hlt).1 n1 (hmem n2) ?_ hlen⟩
      · rw [Fo.tops_put, h.tops, kids_snoc]
        have : idq o.f3 zid = false := (idq_no _ _).2 (fun e => h.zid_no (e ▸ hm))
        rw [this]
        simp
      · have hpl := placeS_range T.l o.f3
        have hll : T.l.length = F.flat.length := by rw [h.l, List.length_map]
        rw [Fo.flat_put o F h.ok h.nodup hm hlt, insA_take o F.flat (toX T.ops) hg hm]
        rw [h.l] at hpl ⊢
        rw [List.length_map] at hpl
        exact ins_row o F.flat (toX T.ops) (toX (T.ops ++ [o])) hg hsame hself _ (by omega)
    · have hz3 : o.f3 = zid := by
        rcases hp with k | k
        · exact absurd k hq
        · exact k
      refine ⟨F.add o, inv_common h hn ?_ ?_ (Fo.ok_add o F h.ok hf) (add_nodup o F h.nodup hf h.ok) (hmem (fun z => Fo.mem_add o z F)) ?_ hlen⟩
      · rw [Fo.tops_add, h.tops, kids_snoc, hi, (idq_iff _ _).2 hz3]
        simp
      · refine rep_add o F (rep_same F h.rep fun q hq2 => ?_) hkx
        rw [kids_snoc, (idq_no _ _).2 (fun e => h.zid_no (by rw [← hz3, e]; exact hq2))]
        simp
      · have hpl := placeS_range T.l o.f3
        have hpm : (placeS T.l o.f3 + 1).toNat = 0 := by omega
        rw [hpm, Fo.flat_add o F h.ok, h.l]
        have := ins_row o F.flat (toX T.ops) (toX (T.ops ++ [o])) hg hsame hself 0 (Nat.zero_le _)
        rw [List.take_zero, List.nil_append, List.drop_zero] at this
        exact this
  | false =>
    have hnz : o.f3 ≠ zid := fun e => by
      obtain ⟨_, _, _, _, k⟩ := hr
      rw [hi] at k
      rcases k with ⟨k, _⟩ | ⟨_, k, _⟩
      · cases k
      · have := k.1
        rw [e] at this
        simp [zid] at this
    have hq : 0 ≤ placeS T.l o.f3 := by
      rcases hp with k | k
      · exact k
      · exact absurd k hnz
    have hm := (h.place _).1 hq
    have hts : takeS T o = ⟨goneS T.l (placeS T.l o.f3).toNat, T.ops ++ [o], wtS T.v o.f0.f1 o.f1, upd T.last o.f0.f1 o.f0.f0, max T.top o.f0.f0⟩ := by unfold takeS; rw [if_neg (by rw [hi]; decide)]
    have hkids : ∀ q, kids q (T.ops ++ [o]) = kids q T.ops := fun q => by rw [kids_snoc, hi]; simp
    rw [hts]
    refine ⟨F, inv_common h hn ((h.tops).trans (hkids _).symm) (rep_same F h.rep fun q _ => hkids q) h.ok h.nodup (fun x => ?_) ?_ (by rw [goneS_len]; omega)⟩
    · rw [h.mem, List.mem_append, List.mem_singleton]
      constructor
      · rintro ⟨k, q⟩; exact ⟨.inl k, q⟩
      · rintro ⟨k | k, q⟩
        · exact ⟨k, q⟩
        · rw [k, hi] at q; cases q
    · rw [h.l]
      exact gone_row F.flat (toX T.ops) (toX (T.ops ++ [o])) hg o.f3 h.nodup hm
        (fun e _ he => by unfold toX; rw [deadR_snoc, hi, (idq_iff _ _).2 he.symm]; simp)
        (fun e _ he => by unfold toX; rw [deadR_snoc, hi, (idq_no _ _).2 (fun k => he k.symm)]; simp)
theorem inv_put {T : TS} {F : Fo} (h : Inv T F) (o : S49) : ∃ F', Inv (putT T o).2 F' := by
  unfold putT
  cases hn : refS T o with
  | some e => exact ⟨F, h⟩
  | none => exact inv_take h hn
end Go.Proofs.Ytefnpalkkhhkfaa.PC
namespace Go.Proofs.Ytefnpalkkhhkfaa.PC
open Go.RowKit Go.Proofs.YtefnpalkkhhkfaaW.PrintWords Go.Proofs.YtefnpalkkhhkfaaW.PrintLast Go.Proofs.YtefnpalkkhhkfaaW.PrintMore Go.Proofs.Ytefnpalkkhhkfaa.K Go.Proofs.Ytefnpalkkhhkfaa.IX Go.Proofs.Ytefnpalkkhhkfaa.I
set_option linter.unusedVariables false
set_option linter.unusedSimpArgs false
/-- A thing in memory: what it is, and the blocks that it takes. -/
abbrev As := World → List Nat → Prop
structure Asn (A : As) : Prop where
  keep : ∀ {w w' : World} {F : List Nat}, A w F → (∀ k ∈ F, w'.heap[k]? = w.heap[k]?) → A w' F
  lt : ∀ {w : World} {F : List Nat}, A w F → ∀ k ∈ F, k < w.heap.size
def sep (A B : As) : As := fun w F => ∃ FA FB, A w FA ∧ B w FB ∧ F = FA ++ FB ∧ ∀ k ∈ FA, k ∉ FB
def emp : As := fun _ F => F = []
def isTx (p : Nat) (T : TS) : As := fun w F => Tx w F p T
def isRow {α : Type} (d : Kd α) (e : Nat) (v : Value) (xs : List α) : As := fun w F => Rw d e w v xs ∧ F = ob v
def isBlk (b : Nat) (o : Obj) : As := fun w F => w.heap[b]? = some o ∧ F = [b]
theorem asn_emp : Asn emp := ⟨fun h _ => h, fun h k hk => by rw [h] at hk; cases hk⟩
theorem asn_tx (p : Nat) (T : TS) : Asn (isTx p T) := ⟨fun h hk => Tx.keep h hk, fun h => Tx.lt h⟩
theorem asn_row {α : Type} (d : Kd α) (e : Nat) (v : Value) (xs : List α) : Asn (isRow d e v xs) := ⟨fun h hk => ⟨h.1.keep fun k m => hk k (by rw [h.2]; exact m), h.2⟩, fun h k hk => h.1.lt k (by rw [h.2] at hk; exact hk)⟩
theorem asn_blk (b : Nat) (o : Obj) : Asn (isBlk b o) := ⟨fun h hk => ⟨(hk b (by rw [h.2]; simp)).trans h.1, h.2⟩, fun h k hk => by rw [h.2, List.mem_singleton] at hk; rw [hk]; exact lt_of h.1⟩
theorem asn_sep {A B : As} (a : Asn A) (b : Asn B) : Asn (sep A B) :=
  ⟨fun ⟨FA, FB, h1, h2, e, hd⟩ hk => ⟨FA, FB, a.keep h1 (fun k m => hk k (by rw [e]; simp [m])), b.keep h2 (fun k m => hk k (by rw [e]; simp [m])), e, hd⟩,
   fun ⟨FA, FB, h1, h2, e, hd⟩ k hk => by
    rw [e, List.mem_append] at hk
    rcases hk with m | m
    · exact a.lt h1 k m
    · exact b.lt h2 k m⟩
/-- Things of the call's own: they lie in blocks made since w0, and of w0 nothing has changed. -/
def St (w0 w : World) (A : As) : Prop := ∃ F, A w F ∧ Below w0.heap.size w0 w ∧ ∀ k ∈ F, w0.heap.size ≤ k
theorem St.emp (w : World) : St w w emp := ⟨[], rfl, Below.refl _ _, fun k hk => by cases hk⟩
theorem St.bel {w0 w : World} {A : As} (h : St w0 w A) : Below w0.heap.size w0 w := by obtain ⟨F, _, h, _⟩ := h; exact h
theorem St.below {w0 w w' : World} {A : As} (h : St w0 w A) (a : Asn A) (hb : Below w.heap.size w w') : St w0 w' A := by
  obtain ⟨F, h1, h2, h3⟩ := h
  exact ⟨F, a.keep h1 (fun k m => hb.block k (a.lt h1 k m)), below_step h2 hb, h3⟩
theorem St.drew {w0 w : World} {A : As} (h : St w0 w A) (a : Asn A) : St w0 w.drew A := h.below a (Below.refl _ _).drew
theorem St.swap {w0 w : World} {A B : As} (h : St w0 w (sep A B)) : St w0 w (sep B A) := by
  obtain ⟨F, ⟨FA, FB, h1, h2, e, hd⟩, hb, hn⟩ := h
  refine ⟨FB ++ FA, ⟨FB, FA, h2, h1, rfl, fun k m m2 => hd k m2 m⟩, hb, fun k m => hn k ?_⟩
  rw [e, List.mem_append]
  exact (List.mem_append.1 m).symm
/-- The second of three comes first. -/
theorem St.turn {w0 w : World} {A B C : As} (h : St w0 w (sep A (sep B C))) : St w0 w (sep B (sep A C)) := by
  obtain ⟨F, ⟨FA, _, h1, ⟨FB, FC, h2, h3, rfl, hd⟩, e, hd2⟩, hb, hn⟩ := h
  refine ⟨FB ++ (FA ++ FC), ⟨FB, FA ++ FC, h2, ⟨FA, FC, h1, h3, rfl, fun k m m2 => hd2 k m (by simp [m2])⟩, rfl, fun k m m2 => ?_⟩, hb, fun k m => hn k ?_⟩
  · rcases List.mem_append.1 m2 with q | q
    · exact hd2 k q (by simp [m])
    · exact hd k m q
  · rw [e]
    simp only [List.mem_append] at m ⊢
    rcases m with q | q | q <;> simp [q]
theorem St.fst {w0 w : World} {A B : As} (h : St w0 w (sep A B)) : St w0 w A := by
  obtain ⟨F, ⟨FA, FB, h1, h2, e, hd⟩, hb, hn⟩ := h
  exact ⟨FA, h1, hb, fun k m => hn k (by rw [e]; simp [m])⟩
theorem St.snd {w0 w : World} {A B : As} (h : St w0 w (sep A B)) : St w0 w B := h.swap.fst
theorem St.with_emp {w0 w : World} {A : As} (h : St w0 w A) : St w0 w (sep A PC.emp) := by
  obtain ⟨F, h1, hb, hn⟩ := h
  exact ⟨F, ⟨F, [], h1, rfl, by simp, fun _ _ => by simp⟩, hb, hn⟩
/-- Something new lies apart from all else. -/
theorem St.add {w0 w w' : World} {A B : As} {G : List Nat} (h : St w0 w A) (a : Asn A) (hb : Below w.heap.size w w') (hB : B w' G) (hG : ∀ k ∈ G, w.heap.size ≤ k) : St w0 w' (sep B A) := by
  obtain ⟨F, h1, h2, h3⟩ := h
  refine ⟨G ++ F, ⟨G, F, hB, a.keep h1 (fun k m => hb.block k (a.lt h1 k m)), rfl, fun k m m2 => ?_⟩, below_step h2 hb, fun k m => ?_⟩
  · have := hG k m; have := a.lt h1 k m2; omega
  · rcases List.mem_append.1 m with q | q
    · have := hG k q; have := h2.size; omega
    · exact h3 k q
/-- One thing becomes another one; what lies apart stays. -/
theorem St.upd {w0 w w' : World} {A A' B : As} {FA FB F' : List Nat} (b : Asn B) (hA : ∀ k ∈ FA, w0.heap.size ≤ k) (hB : B w FB) (hd : ∀ k ∈ FA, k ∉ FB) (hb : Below w0.heap.size w0 w) (hn : ∀ k ∈ FB, w0.heap.size ≤ k) (hf : Fr FA w w') (hA' : A' w' F') (hs : ∀ k ∈ F', k ∈ FA ∨ w.heap.size ≤ k) : St w0 w' (sep A' B) := by
  refine ⟨F' ++ FB, ⟨F', FB, hA', b.keep hB (fun k m => hf.block k (b.lt hB k m) (fun q => hd k q m)), rfl, fun k m m2 => ?_⟩, Fr.below hf hb hA, fun k m => ?_⟩
  · rcases hs k m with q | q
    · exact hd k q m2
    · have := b.lt hB k m2; omega
  · rcases List.mem_append.1 m with q | q
    · rcases hs k q with r | r
      · exact hA k r
      · have := hb.size; omega
    · exact hn k q
theorem ob_ge {α : Type} {d : Kd α} {e base : Nat} {ok : Nat → Prop} {w : World} {v : Value} {xs : List α} (h : d.R e w base ok v xs) : ∀ k ∈ ob v, base ≤ k := fun k hk => ((Kd.R_bound h).1 k (mem_ob.1 hk).symm).2.1
/-- A row that a callee has made. -/
theorem St.row {α : Type} {d : Kd α} {e : Nat} {w0 w w' : World} {A : As} {v : Value} {xs : List α} (hE : d.E = []) (h : St w0 w A) (a : Asn A) (hb : Below w.heap.size w w') (hr : d.R e w' w.heap.size (fun _ => True) v xs) : St w0 w' (sep (isRow d e v xs) A) :=
  h.add a hb ⟨Rw.of hE hr, rfl⟩ (ob_ge hr)
/-- What a row tells of its slice and its cells. -/
theorem St.reads {α : Type} {d : Kd α} {e : Nat} {w0 w : World} {A : As} {v : Value} {xs : List α} (h : St w0 w (sep (isRow d e v xs) A)) : ∃ B c, v = .slice B xs.length c ∧ xs.length ≤ c ∧ d.C w B xs.length xs := by
  obtain ⟨F, ⟨FA, FB, h1, h2, _⟩, _⟩ := h
  exact Kd.R_reads h1.1
theorem new_st {w0 w : World} {B : As} (b : Asn B) (h : St w0 w B) : Calls Try.prog 27 #[] w fun e w' => ∃ p, e = .returned (.pointer (some ⟨p, 0, none⟩)) ∧ St w0 w' (sep (isTx p T0) B) :=
  (rnew_calls w).mono fun e w' ⟨p, F, he, hT, hb, hF⟩ => ⟨p, he, h.add b hb hT hF⟩
theorem put_st {w0 w : World} {p : Nat} {T : TS} {Fo' : Fo} {B : As} (b : Asn B) (h : St w0 w (sep (isTx p T) B)) (hi : Inv T Fo') (hl : T.ops.length ≤ 100000) (o : S49) : Calls Try.prog 24 #[.pointer (some ⟨p, 0, none⟩), opV o] w fun e w' => e = .returned (.tuple #[.bool (putT T o).1.1, .int .i64 (putT T o).1.2]) ∧ St w0 w' (sep (isTx p (putT T o).2) B) := by
  obtain ⟨F, ⟨FA, FB, h1, h2, rfl, hd⟩, hb, hn⟩ := h
  have := hi.ll
  have := hi.vl
  refine (put_calls w FA p T o h1 hi.upS (by omega) (by omega) (by omega) (hi.kn o)).mono ?_
  rintro e w' ⟨he, F', k1, k2, k3⟩
  exact ⟨he, St.upd (A := isTx p T) b (fun k m => hn k (by simp [m])) h2 hd hb (fun k m => hn k (by simp [m])) k2 k1 k3⟩
theorem len_st {w0 w : World} {p : Nat} {T : TS} {B : As} (h : St w0 w (sep (isTx p T) B)) : Calls Try.prog 21 #[.pointer (some ⟨p, 0, none⟩)] w fun e w' => e = .returned (.int .i64 (cn (T.l.map (·.f2)) : Int)) ∧ w = w' := by
  obtain ⟨F, ⟨FA, FB, h1, h2, rfl, hd⟩, hb, hn⟩ := h
  exact tlen_calls w FA p T h1
end Go.Proofs.Ytefnpalkkhhkfaa.PC
namespace Go.Proofs.Ytefnpalkkhhkfaa.PC
open Go.RowKit Go.Proofs.YtefnpalkkhhkfaaW.PrintWords Go.Proofs.YtefnpalkkhhkfaaW.PrintLast Go.Proofs.YtefnpalkkhhkfaaW.PrintMore Go.Proofs.Ytefnpalkkhhkfaa.K Go.Proofs.Ytefnpalkkhhkfaa.IX
set_option linter.unusedVariables false
set_option linter.unusedSimpArgs false
/-- A kind whose elements are plain cells. -/
structure Flat {α : Type} (d : Kd α) (fl : α → List Value) : Prop where
  len : ∀ x, (fl x).length = d.sz
  K : ∀ {w : World} {x : α} {cs : List Value}, d.K w x cs → cs = fl x
  M : ∀ {w : World} {base : Nat} {ok : Nat → Prop} {x : α} {cs : List Value}, d.M w base ok x cs → cs = fl x
  mk_ : ∀ (w : World) (base : Nat) (ok : Nat → Prop) (x : α), d.M w base ok x (fl x)
  one : ∀ x, ∀ u ∈ fl x, u.oneCell' = true
  pos : 0 < d.sz
  E : d.E = []
theorem Flat.R {α : Type} {d : Kd α} {fl : α → List Value} (hf : Flat d fl) {e : Nat} {w : World} {base : Nat} {v : Value} {xs : List α} (h : w.ownsRow base e d.sz v xs.length (xs.flatMap fl)) : d.R e w base (fun _ => True) v xs :=
  R_of_owns hf.len (fun _ _ _ _ => hf.mk_ _ _ _ _) (fun _ _ => trivial) h
theorem flat_len {α : Type} {fl : α → List Value} {sz : Nat} (h : ∀ x, (fl x).length = sz) (xs : List α) : (xs.flatMap fl).length = xs.length * sz := by
  induction xs with
  | nil => simp
  | cons x xs ih => rw [List.flatMap_cons, List.length_append, ih, h, List.length_cons, Nat.succ_mul, Nat.add_comm]
/-- A row that is read, cell by cell. -/
theorem Flat.cells {α : Type} {d : Kd α} {fl : α → List Value} (hf : Flat d fl) {w : World} {A : Option Addr} {xs : List α} (h : Kd.C d w A xs.length xs) (hn : 0 < xs.length) : ∃ ad, A = some ad ∧ ∀ i u, (xs.flatMap fl)[i]? = some u → w.cell? (ad.add i) = some u := by
  obtain ⟨ad, rfl, hc⟩ := h.2.2 hn
  refine ⟨ad, rfl, ?_⟩
  have key : ∀ (ys : List α) (k : Nat), (∀ j p, ys[j]? = some p → ∀ i u, (fl p)[i]? = some u → w.cell? (ad.add ((k + j) * d.sz + i)) = some u) → ∀ i u, (ys.flatMap fl)[i]? = some u → w.cell? (ad.add (k * d.sz + i)) = some u := by
    intro ys
    induction ys with
    | nil => intro k _ i u h; simp at h
    | cons y ys ih =>
      intro k hy i u hi
      rw [List.flatMap_cons] at hi
      by_cases hlt : i < (fl y).length
      · rw [List.getElem?_append_left hlt] at hi
        have := hy 0 y rfl i u hi
        rwa [Nat.add_zero] at this
      · rw [List.getElem?_append_right (by omega), hf.len] at hi
        have := ih (k + 1) (fun j p hj i u hu => by
          have := hy (j + 1) p (by simpa using hj) i u hu
          rwa [show k + (j + 1) = k + 1 + j by omega] at this) _ u hi
        rwa [show (k + 1) * d.sz + (i - d.sz) = k * d.sz + i by rw [Nat.succ_mul]; have := hf.len y; omega] at this
  intro i u hi
  have := key xs 0 (fun j p hj i u hu => by
    obtain ⟨c, hl, hk, hcell⟩ := hc j p hj
    rw [Nat.zero_add]
    exact hcell i u (by rw [hf.K hk]; exact hu)) i u hi
  rwa [Nat.zero_mul, Nat.zero_add] at this
end Go.Proofs.Ytefnpalkkhhkfaa.PC
namespace Go.Proofs.Ytefnpalkkhhkfaa.PC
open Go.RowKit Go.Proofs.YtefnpalkkhhkfaaW.PrintWords Go.Proofs.YtefnpalkkhhkfaaW.PrintLast Go.Proofs.YtefnpalkkhhkfaaW.PrintMore Go.Proofs.Ytefnpalkkhhkfaa.K Go.Proofs.Ytefnpalkkhhkfaa.IX Go.Proofs.Ytefnpalkkhhkfaa.I
set_option linter.unusedVariables false
set_option linter.unusedSimpArgs false
theorem St.nil {α : Type} (d : Kd α) (e : Nat) {w0 W : World} {B : As} (b : Asn B) (h : St w0 W B) : St w0 W (sep (isRow d e (.slice none 0 0) []) B) :=
  h.add (G := []) b (Below.refl _ _) ⟨Kd.R_nil _ _ _ _ _, rfl⟩ (fun k hk => by cases hk)
end Go.Proofs.Ytefnpalkkhhkfaa.PC
namespace Go.Proofs.Ytefnpalkkhhkfaa.PC
open Go.RowKit Go.Proofs.YtefnpalkkhhkfaaW.PrintWords Go.Proofs.YtefnpalkkhhkfaaW.PrintLast Go.Proofs.YtefnpalkkhhkfaaW.PrintMore Go.Proofs.Ytefnpalkkhhkfaa.K Go.Proofs.Ytefnpalkkhhkfaa.IX Go.Proofs.Ytefnpalkkhhkfaa.I
attribute [local go_sem] max2_int min2_int max_two min_two max_three min_three max_four min_four
attribute [local go_sem high] eqA24
set_option linter.unusedVariables false
set_option linter.unusedSimpArgs false
/-- What the walk of the reference's Put needs to know. -/
structure PutW (w : World) (q : Nat) (L : List S49) (o : S49) (A : Option Addr) (c : Nat) : Prop where
  cell : w.cell? ⟨q, 0, none⟩ = some (.slice A L.length c)
  cap : L.length ≤ c
  row : Kd.C k49 w A L.length L
  len : L.length ≤ 1000000
end Go.Proofs.Ytefnpalkkhhkfaa.PC
namespace Go.Proofs.Ytefnpalkkhhkfaa.PC
open Go.RowKit Go.Proofs.YtefnpalkkhhkfaaW.PrintWords Go.Proofs.Ytefnpalkkhhkfaa.K Go.Proofs.Ytefnpalkkhhkfaa.IX Go.Proofs.Ytefnpalkkhhkfaa.I
set_option linter.unusedVariables false
set_option linter.unusedSimpArgs false
/-- Operations that are taken one behind the other. -/
def Good (L : List S49) : Prop := ∀ k (h : k < L.length), refR (L.take k) L[k] = none
end Go.Proofs.Ytefnpalkkhhkfaa.PC
namespace Go.Proofs.Ytefnpalkkhhkfaa.PC
open Go.RowKit Go.Proofs.YtefnpalkkhhkfaaW.PrintWords Go.Proofs.Ytefnpalkkhhkfaa.K Go.Proofs.Ytefnpalkkhhkfaa.IX Go.Proofs.Ytefnpalkkhhkfaa.I
set_option linter.unusedVariables false
set_option linter.unusedSimpArgs false
def aliveIds (l : List S83) : List S24 := idsS (fun e : S83 => e.f2) l
theorem filter_cn (l : List S83) : (l.filter (fun e : S83 => e.f2)).length = cn (l.map (·.f2)) := by
  induction l with
  | nil => rfl
  | cons e l ih =>
    rw [List.filter_cons, List.map_cons, cn_cons]
    cases h : e.f2 <;> simp [h, ih] <;> omega
theorem ids_cn (l : List S83) : (aliveIds l).length = cn (l.map (·.f2)) := by
  unfold aliveIds idsS
  rw [List.length_map, filter_cn]
theorem place_nth (l : List S83) (hn : (l.map (·.f0)).Nodup) (i : Nat) (h : i < l.length) : placeS l l[i].f0 = i := by
  have e : l = l.take i ++ l[i] :: l.drop (i + 1) := by rw [← List.drop_eq_getElem_cons h, List.take_append_drop]
  have key : ∀ x, x = l[i] → placeS l x.f0 = i := by
    intro x hx
    rw [e, ← hx, placeS_at _ _ x x.f0 ?_ (idq_self _), List.length_take]
    · omega
    · intro y hy
      rw [idq_no]
      intro he
      rw [e, List.map_append, List.map_cons, List.nodup_append] at hn
      exact hn.2.2 _ (List.mem_map.2 ⟨y, hy, rfl⟩) _ List.mem_cons_self (by rw [he, hx])
  exact key _ rfl
theorem sel_nth (l : List S83) (p : Nat) (h : p < cn (l.map (·.f2))) : ∃ i, ∃ hi : i < l.length, sel (l.map (·.f2)) p = some i ∧ l[i].f2 = true ∧ cn ((l.map (·.f2)).take i) = p ∧ (aliveIds l)[p]? = some l[i].f0 := by
  obtain ⟨i, h1, h2, h3, h4⟩ := sel_some _ _ h
  rw [List.length_map] at h2
  have h3 : l[i].f2 = true := by
    rw [List.getElem?_map, List.getElem?_eq_getElem h2] at h3
    simpa using h3
  refine ⟨i, h2, h1, h3, h4, ?_⟩
  have e : l = l.take i ++ l[i] :: l.drop (i + 1) := by rw [← List.drop_eq_getElem_cons h2, List.take_append_drop]
  have hp : ((l.take i).filter (fun e : S83 => e.f2)).length = p := by rw [filter_cn, List.map_take]; exact h4
  have e2 : aliveIds l = ((l.take i).filter (fun e : S83 => e.f2)).map (·.f0) ++ l[i].f0 :: ((l.drop (i + 1)).filter (fun e : S83 => e.f2)).map (·.f0) := by
    unfold aliveIds idsS
    conv => lhs; rw [e]
    rw [List.filter_append, List.filter_cons, if_pos h3, List.map_append, List.map_cons]
  rw [e2, List.getElem?_append_right (by rw [List.length_map, hp]; exact Nat.le_refl _), List.length_map, hp, Nat.sub_self]
  rfl
/-- At, Ahead and Alive of the element at a place. -/
theorem places (l : List S83) (hn : (l.map (·.f0)).Nodup) (p : Nat) (h : p < (aliveIds l).length) : atS l (p : Int) = ((aliveIds l)[p], true) ∧ aheadS l (aliveIds l)[p] = p ∧ aliveS l (aliveIds l)[p] = true := by
  obtain ⟨i, hi, h1, h2, h3, h4⟩ := sel_nth l p (by rw [← ids_cn]; exact h)
  have h4 : (aliveIds l)[p] = l[i].f0 := by
    rw [List.getElem?_eq_getElem h] at h4
    injection h4
  have hrd : rd_T83 l (i : Int) = l[i] := by unfold rd_T83; simp [hi]
  have hs : selS (l.map (·.f2)) (p : Int) = ((i : Int), true) := by
    unfold selS
    rw [if_pos (by omega), Int.toNat_natCast, h1]
  refine ⟨?_, ?_, ?_⟩
  · unfold atS
    rw [hs, if_pos rfl, h4, hrd]
  · unfold aheadS
    rw [h4, place_nth l hn i hi]
    unfold rankS
    rw [Int.toNat_natCast, h3]
  · unfold aliveS
    rw [h4, place_nth l hn i hi, hrd, h2]
    simp
end Go.Proofs.Ytefnpalkkhhkfaa.PC
namespace Go.Proofs.Ytefnpalkkhhkfaa.PC
open Go.RowKit Go.Proofs.YtefnpalkkhhkfaaW.PrintWords Go.Proofs.YtefnpalkkhhkfaaW.PrintLast Go.Proofs.YtefnpalkkhhkfaaW.PrintMore Go.Proofs.Ytefnpalkkhhkfaa.K Go.Proofs.Ytefnpalkkhhkfaa.IX Go.Proofs.Ytefnpalkkhhkfaa.I
attribute [local go_sem] max2_int min2_int max_two min_two max_three min_three max_four min_four
attribute [local go_sem high] eqA24
set_option linter.unusedVariables false
set_option linter.unusedSimpArgs false
theorem putT_len (T : TS) (o : S49) : (putT T o).2.ops.length ≤ T.ops.length + 1 := by
  unfold putT
  cases refS T o with
  | some e => exact Nat.le_succ _
  | none =>
    show (T.ops ++ [o]).length ≤ _
    rw [List.length_append]
    exact Nat.le_refl _
/-- What a Put answers, its value named. -/
theorem put_named {w0 w : World} {p : Nat} {T T' : TS} {F : Fo} {B : As} {r : Bool} {n : Int} {o : S49} (hp : putT T o = ((r, n), T')) (hi : Inv T F) (hl : T.ops.length ≤ 1000) (b : Asn B) (h : St w0 w (sep (isTx p T) B)) :
    Calls Try.prog 24 #[.pointer (some ⟨p, 0, none⟩), opV o] w fun e w' => e = .returned (.tuple #[.bool r, .int .i64 n]) ∧ St w0 w' (sep (isTx p T') B) := by
  have := put_st b h hi (by omega) o
  rw [hp] at this
  exact this
def so1 : S49 := ⟨⟨1, 0⟩, 1, true, ⟨0, 0⟩, 97⟩
def so2 : S49 := ⟨⟨1, 1⟩, 1, true, ⟨0, 0⟩, 98⟩
def so3 : S49 := ⟨⟨2, 0⟩, 2, true, ⟨1, 0⟩, 99⟩
def st1 : TS := (putT T0 so1).2
def st2 : TS := (putT st1 so2).2
def st3 : TS := (putT st2 so3).2
theorem sp1 : putT T0 so1 = ((true, 0), st1) := Prod.ext (by decide +kernel) rfl
theorem sc : (cn (st3.l.map (·.f2)) : Int) = 3 := by decide +kernel
theorem inv1 : ∃ F, Inv st1 F := inv_put inv0 so1
end Go.Proofs.Ytefnpalkkhhkfaa.PC
namespace Go.Proofs.Ytefnpalkkhhkfaa.PC
open Go.RowKit Go.Proofs.YtefnpalkkhhkfaaW.PrintWords Go.Proofs.YtefnpalkkhhkfaaW.PrintLast Go.Proofs.YtefnpalkkhhkfaaW.PrintMore Go.Proofs.Ytefnpalkkhhkfaa.K Go.Proofs.Ytefnpalkkhhkfaa.IX Go.Proofs.Ytefnpalkkhhkfaa.I
attribute [local go_sem] max2_int min2_int max_two min_two max_three min_three max_four min_four
attribute [local go_sem high] eqA24
set_option linter.unusedVariables false
set_option linter.unusedSimpArgs false
theorem St.blk {w0 w : World} {b : Nat} {o : Obj} {B : As} (h : St w0 w (sep (isBlk b o) B)) : w.heap[b]? = some o := by
  obtain ⟨F, ⟨FA, FB, h1, h2, _⟩, _⟩ := h
  exact h1.1
/-- A block made anew. -/
theorem St.mkblk {w0 w : World} {A : As} (h : St w0 w A) (a : Asn A) (o : Obj) : St w0 (w.alloc o) (sep (isBlk w.heap.size o) A) :=
  h.add a ((Below.refl _ w).alloc (Nat.le_refl _) _) ⟨heap_new w o, rfl⟩ (fun k hk => by rw [List.mem_singleton.1 hk]; exact Nat.le_refl _)
end Go.Proofs.Ytefnpalkkhhkfaa.PC
namespace Go.Proofs.Ytefnpalkkhhkfaa.PC
open Go.RowKit Go.Proofs.YtefnpalkkhhkfaaW.PrintWords Go.Proofs.YtefnpalkkhhkfaaW.PrintLast Go.Proofs.YtefnpalkkhhkfaaW.PrintMore Go.Proofs.Ytefnpalkkhhkfaa.K Go.Proofs.Ytefnpalkkhhkfaa.IX Go.Proofs.Ytefnpalkkhhkfaa.I
set_option linter.unusedVariables false
set_option linter.unusedSimpArgs false
/-- A row as it is read in a later world. -/
theorem St.later {α : Type} {d : Kd α} {e : Nat} {w0 w W : World} {B : As} {A : Option Addr} {n c : Nat} {xs : List α} (h : St w0 w (sep (isRow d e (.slice A n c) xs) B)) (hb : Below w.heap.size w W) : xs.length = n ∧ n ≤ c ∧ Kd.C d W A xs.length xs := by
  obtain ⟨A2, c2, e2, h1, h2⟩ := (h.fst.below (asn_row _ _ _ _) hb).with_emp.reads
  injection e2 with e3 e4 e5
  subst e3 e5
  exact ⟨e4.symm, by omega, h2⟩
theorem alive_nm {w0 w1 W : World} {p : Nat} {T : TS} {B : As} {r : Bool} {x : S24} (b : Asn B) (h : St w0 w1 (sep (isTx p T) B)) (b1 : Below w1.heap.size w1 W) (hl : T.l.length ≤ 100000) (hr : aliveS T.l x = r) : Calls Try.prog 26 #[.pointer (some ⟨p, 0, none⟩), .agg #[.int .i64 x.f0, .int .i64 x.f1]] W fun e w' => e = .returned (.bool r) ∧ Below W.heap.size W w' := by
  obtain ⟨F, ⟨FA, FB, h2, h3, rfl, hd⟩, hb, hn⟩ := h.below (asn_sep (asn_tx p T) b) b1
  have := alive_calls W FA p T x h2 (by omega)
  rw [hr] at this
  exact this
end Go.Proofs.Ytefnpalkkhhkfaa.PC
namespace Go.Proofs.Ytefnpalkkhhkfaa.PC
open Go.RowKit Go.Proofs.YtefnpalkkhhkfaaW.PrintWords Go.Proofs.Ytefnpalkkhhkfaa.K Go.Proofs.Ytefnpalkkhhkfaa.IX Go.Proofs.Ytefnpalkkhhkfaa.I
set_option linter.unusedVariables false
set_option linter.unusedSimpArgs false
structure FrontI (T : TS) (n : Nat) (want : List Int) : Prop where
  inv : ∃ F, Inv T F
  vis : visS T.l = want
  low : ∀ e ∈ T.l, e.f0.f0 ≤ n
  seq : I.sq (ens T.v) 7 = n
  last : T.last 7 = n
  len : T.ops.length = n
end Go.Proofs.Ytefnpalkkhhkfaa.PC
namespace Go.Proofs.Ytefnpalkkhhkfaa.PC
open Go.RowKit Go.Proofs.YtefnpalkkhhkfaaW.PrintWords Go.Proofs.Ytefnpalkkhhkfaa.K Go.Proofs.Ytefnpalkkhhkfaa.IX Go.Proofs.Ytefnpalkkhhkfaa.I
set_option linter.unusedVariables false
set_option linter.unusedSimpArgs false
def ascX : List S83 → Prop
  | [] => True
  | [_] => True
  | a :: b :: l => a.f0.f0 < b.f0.f0 ∧ ascX (b :: l)
/-- The text: others, what the one has typed, others. m bounds all counters. -/
structure TypesI (T : TS) (n : Nat) (m : Int) (ref : S24) (P A Q : List S83) : Prop where
  inv : ∃ F, Inv T F
  l : T.l = P ++ A ++ Q
  p : ∀ e ∈ P, e.f0.f1 = 65536
  q : ∀ e ∈ Q, e.f0.f1 = 65536
  a : ∀ e ∈ A, e.f0.f1 = 0
  asc : ascX A
  ref : (A = [] ∧ ref = ⟨0, 0⟩) ∨ ∃ A' e, A = A' ++ [e] ∧ e.f0 = ref
  alive : ∀ e ∈ T.l, e.f2 = true
  low : ∀ e ∈ T.l, e.f0.f0 ≤ m
  seq : I.sq (ens T.v) 0 = n
  last : T.last 0 ≤ m ∧ T.last 65536 ≤ m
  cnt : A.length = n
  seqb : 0 ≤ I.sq (ens T.v) 65536 ∧ I.sq (ens T.v) 65536 ≤ m
theorem TypesI.mono {T : TS} {n : Nat} {m m' : Int} {ref : S24} {P A Q : List S83} (h : TypesI T n m ref P A Q) (hm : m ≤ m') : TypesI T n m' ref P A Q :=
  ⟨h.inv, h.l, h.p, h.q, h.a, h.asc, h.ref, h.alive, fun e he => Int.le_trans (h.low e he) hm, h.seq, ⟨Int.le_trans h.last.1 hm, Int.le_trans h.last.2 hm⟩, h.cnt, ⟨h.seqb.1, Int.le_trans h.seqb.2 hm⟩⟩
end Go.Proofs.Ytefnpalkkhhkfaa.PC
namespace Go.Proofs.Ytefnpalkkhhkfaa.PC
open Go.RowKit Go.Proofs.YtefnpalkkhhkfaaW.PrintWords Go.Proofs.YtefnpalkkhhkfaaW.PrintLast Go.Proofs.YtefnpalkkhhkfaaW.PrintMore Go.Proofs.Ytefnpalkkhhkfaa.K Go.Proofs.Ytefnpalkkhhkfaa.IX Go.Proofs.Ytefnpalkkhhkfaa.I
set_option linter.unusedVariables false
set_option linter.unusedSimpArgs false
/-- One cell of a block, written anew. -/
theorem St.set1 {w0 w : World} {b t : Nat} {cur : Array Value} {B : As} (hB : Asn B) (i : Nat) (u : Value) (h : St w0 w (sep (isBlk b (.cells cur t (0, 0))) B)) : St w0 (w.setCell ⟨b, i, none⟩ u) (sep (isBlk b (.cells (cur.setIfInBounds i u) t (0, 0))) B) := by
  obtain ⟨F, ⟨FA, FB, ⟨h1, rfl⟩, h2, rfl, hd⟩, hb, hn⟩ := h
  refine St.upd (A := isBlk b (.cells cur t (0, 0))) (F' := [b]) hB (fun k m => hn k (List.mem_append_left _ m)) h2 hd hb (fun k m => hn k (by simp [m])) (Fr.of_set (F := [b]) w ⟨b, i, none⟩ u (by simp)) ⟨?_, rfl⟩ (fun k hk => .inl hk)
  exact heap_set w b i u h1
theorem lits_row {α : Type} {d : Kd α} {fl : α → List Value} (hf : Flat d fl) (e : Nat) (W : World) (xs : List α) (hm : xs.length ≤ 1000) : d.R e (W.alloc (.cells (xs.flatMap fl).toArray e)) W.heap.size (fun _ => True) (.slice (some ⟨W.heap.size, 0, none⟩) xs.length xs.length) xs := by
  have h := World.ownsRow_lit (base := W.heap.size) (e := e) (size := d.sz) W (xs.flatMap fl).toArray xs.length (Nat.le_refl _) (by unfold maxLen; omega) (by simp [flat_len hf.len])
  have h2 : (W.alloc (.cells (xs.flatMap fl).toArray e)).ownsRow W.heap.size e d.sz (.slice (some ⟨W.heap.size, 0, none⟩) xs.length xs.length) xs.length (xs.flatMap fl) := by simpa using h
  exact hf.R h2
theorem lits_st {α : Type} {d : Kd α} {fl : α → List Value} (hf : Flat d fl) (e : Nat) {w0 W : World} {B : As} (b : Asn B) (h : St w0 W B) (xs : List α) (hm : xs.length ≤ 1000) : St w0 (W.alloc (.cells (xs.flatMap fl).toArray e)) (sep (isRow d e (.slice (some ⟨W.heap.size, 0, none⟩) xs.length xs.length) xs) B) :=
  St.row hf.E h b ((Below.refl _ W).alloc (Nat.le_refl _) _) (lits_row hf e W xs hm)
def SI (B C : As) : Prop := ∀ w F, B w F → ∃ F', C w F' ∧ ∀ k, k ∈ F' ↔ k ∈ F
theorem SI.trans {A B C : As} (h : SI A B) (k : SI B C) : SI A C := fun w F x => by
  obtain ⟨F1, y, e1⟩ := h w F x
  obtain ⟨F2, z, e2⟩ := k w F1 y
  exact ⟨F2, z, fun j => (e2 j).trans (e1 j)⟩
theorem SI.turn (A B C : As) : SI (sep A (sep B C)) (sep B (sep A C)) := fun w F ⟨FA, _, h1, ⟨FB, FC, h2, h3, rfl, hd⟩, e, hd2⟩ => by
  refine ⟨FB ++ (FA ++ FC), ⟨FB, FA ++ FC, h2, ⟨FA, FC, h1, h3, rfl, fun k m m2 => hd2 k m (by simp [m2])⟩, rfl, fun k m m2 => ?_⟩, fun k => ?_⟩
  · rcases List.mem_append.1 m2 with q | q
    · exact hd2 k q (by simp [m])
    · exact hd k m q
  · rw [e]
    simp only [List.mem_append]
    constructor
    · rintro (q | q | q) <;> simp [q]
    · rintro (q | q | q) <;> simp [q]
theorem SI.drop (A B : As) : ∀ w0 w, St w0 w (sep A B) → St w0 w B := fun w0 w h => h.snd
end Go.Proofs.Ytefnpalkkhhkfaa.PC
namespace Go.Proofs.Ytefnpalkkhhkfaa.PC
open Go.RowKit Go.Proofs.YtefnpalkkhhkfaaW.PrintWords Go.Proofs.Ytefnpalkkhhkfaa.K Go.Proofs.Ytefnpalkkhhkfaa.IX Go.Proofs.Ytefnpalkkhhkfaa.I
set_option linter.unusedVariables false
set_option linter.unusedSimpArgs false
def gOne (t : Int) (x : S24) (a : Int) : S49 := ⟨⟨t + 1, a⟩, 1, false, x, 0⟩
def gMore (t : Int) (x : S24) (c : Int) : S49 := ⟨⟨t + 1, 4194301⟩, 1, true, x, c⟩
structure GoneL (T : TS) (x : S24) (c : Int) (T1 T2 T3 U1 U2 U3 : TS) : Prop where
  a1 : putT T (gOne T.top x 4194303) = ((true, 0), T1)
  a2 : putT T1 (gOne T.top x 4194302) = ((true, 0), T2)
  a3 : putT T2 (gMore T.top x c) = ((true, 0), T3)
  b1 : putT T (gMore T.top x c) = ((true, 0), U1)
  b2 : putT U1 (gOne T.top x 4194302) = ((true, 0), U2)
  b3 : putT U2 (gOne T.top x 4194303) = ((true, 0), U3)
  i1 : ∃ F, Inv T1 F
  i2 : ∃ F, Inv T2 F
  i3 : ∃ F, Inv T3 F
  j1 : ∃ F, Inv U1 F
  j2 : ∃ F, Inv U2 F
  j3 : ∃ F, Inv U3 F
  n3 : T3.ops.length = T.ops.length + 3
  m3 : U3.ops.length = T.ops.length + 3
  same : T3.l = U3.l
  dead : aliveS T3.l x = false
  live : aliveS T3.l ⟨T.top + 1, 4194301⟩ = true
end Go.Proofs.Ytefnpalkkhhkfaa.PC
namespace Go.Proofs.Ytefnpalkkhhkfaa.PC
open Go.RowKit Go.Proofs.YtefnpalkkhhkfaaW.PrintWords Go.Proofs.Ytefnpalkkhhkfaa.K Go.Proofs.Ytefnpalkkhhkfaa.IX Go.Proofs.Ytefnpalkkhhkfaa.I
set_option linter.unusedVariables false
set_option linter.unusedSimpArgs false
/-- Behind r rounds, and i steps more, of the row left. -/
structure Meet (L left : List S49) (r i : Nat) (T : TS) : Prop where
  inv : ∃ F, Inv T F
  good : Good T.ops
  sub : ∀ x ∈ T.ops, x ∈ L
  done : ∀ x ∈ L.take r, x ∈ T.ops
  now : ∀ h : r < L.length, L[r] ∈ left.take i → L[r] ∈ T.ops
end Go.Proofs.Ytefnpalkkhhkfaa.PC
namespace Go.Proofs.Ytefnpalkkhhkfaa.PC
open Go.RowKit Go.Proofs.YtefnpalkkhhkfaaW.PrintWords Go.Proofs.YtefnpalkkhhkfaaW.PrintLast Go.Proofs.YtefnpalkkhhkfaaW.PrintMore Go.Proofs.Ytefnpalkkhhkfaa.K Go.Proofs.Ytefnpalkkhhkfaa.IX Go.Proofs.Ytefnpalkkhhkfaa.I
attribute [local go_sem] max2_int min2_int max_two min_two max_three min_three max_four min_four
attribute [local go_sem high] eqA24
set_option linter.unusedVariables false
set_option linter.unusedSimpArgs false
theorem St.takes {w0 w : World} {A A2 : Option Addr} {n c : Nat} {out : List S49} {B : As} (h : St w0 w (sep (isRow k49 49 (.slice A n c) out) B)) (m : Nat) (hm : m ≤ out.length) (hA : (if c = m then A else A.map (·.add (m * 7))) = A2) :
    Kd.C k49 w A (out.take m).length (out.take m) ∧ (out.take m).length = m ∧ m ≤ c ∧ Kd.C k49 w A2 (out.drop m).length (out.drop m) ∧ (out.drop m).length = n - m ∧ n - m ≤ c - m := by
  obtain ⟨e, hc, hr⟩ := h.later (Below.refl _ _)
  refine ⟨Kd.C_take hr hm, by rw [List.length_take]; omega, by omega, ?_, by rw [List.length_drop, e], by omega⟩
  have := Kd.C_drop (c := c) hr hm (by omega)
  rw [← hA]
  exact this
end Go.Proofs.Ytefnpalkkhhkfaa.PC
namespace Go.Proofs.Ytefnpalkkhhkfaa.PC
open Go.RowKit Go.Proofs.YtefnpalkkhhkfaaW.PrintWords Go.Proofs.YtefnpalkkhhkfaaW.PrintLast Go.Proofs.YtefnpalkkhhkfaaW.PrintMore Go.Proofs.Ytefnpalkkhhkfaa.K Go.Proofs.Ytefnpalkkhhkfaa.IX Go.Proofs.Ytefnpalkkhhkfaa.I
attribute [local go_sem] max2_int min2_int max_two min_two max_three min_three max_four min_four
attribute [local go_sem high] eqA24
set_option linter.unusedVariables false
set_option linter.unusedSimpArgs false
/-- The reference's text as it is read. -/
structure RefW (w : World) (q : Nat) (L : List S49) (A : Option Addr) (c : Nat) : Prop where
  cell : w.cell? ⟨q, 0, none⟩ = some (.slice A L.length c)
  row : Kd.C k49 w A L.length L
  cap : L.length ≤ c
  len : L.length ≤ 1000
theorem RefW.below {w W : World} {q : Nat} {L : List S49} {A : Option Addr} {c : Nat} (h : RefW w q L A c) (hb : Below w.heap.size w W) : RefW W q L A c :=
  ⟨(hb.cell (World.block_lt_of_cell? w _ h.cell)).trans h.cell, Kd.C_below h.row hb, h.cap, h.len⟩
end Go.Proofs.Ytefnpalkkhhkfaa.PC
