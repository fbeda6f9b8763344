/- A part of the proof of rgaTwice_holds: its texts, one behind the other, as far as the proof stands on them. (Lines of its texts on the printed words and functions began as lines that a program of the kit had written for this statement.) -/
import Derived.ArgAppend
import Derived.Below
import Derived.BigQuiet
import Derived.BigRegion
import Derived.ChangeMaps4
import Derived.ChangeMaps5
import Derived.Deep.AppendLies
import Derived.Deep.CutBlock
import Derived.Deep.CutRange
import Derived.Deep.DeepCutAuto
import Derived.Deep.DrawnRows
import Derived.Deep.Draws
import Derived.Deep.LoopGhost
import Derived.Deep.OwnRows
import Derived.Deep.QuietTactic
import Derived.Deep.RegionHeld3
import Derived.Deep.RegionLaw
import Derived.Deep.RegionWith
import Derived.KernelRfl
import Derived.Laws.BitsLemmas
import Derived.Laws.BytesArg
import Derived.Laws.CopyRow
import Derived.Laws.Cover4
import Derived.Laws.Externs
import Derived.Laws.IdiomCopy
import Derived.Laws.MakeOwn
import Derived.Laws.NewBlocks
import Derived.Laws.OwnMore
import Derived.Laws.Rows
import Derived.Laws.Slices
import Derived.Laws.StructEq
import Derived.Lib.AppendStr
import Derived.Lib.AppendZeros
import Derived.Lib.AppendZerosOnto
import Derived.Lib.ConvBytes
import Derived.Lib.Hide
import Derived.Lib.JoinLaws
import Derived.Lib.Overlaps
import Derived.Lib.Walk
import Derived.MapKept
import Derived.Maps.AppendAt
import Derived.OrdersHeld
import Derived.OwnWalk
import Derived.RegionTactic
import Derived.RowKit
import Derived.RowKit3
import Derived.StillTail
import Derived.StillTailTactics
import Derived.Tactics
import Derived.Test.YtehdjdediobemaaProg
import Derived.WalkKit
import Derived.WalkSpells
import Derived.WideLaws
import Derived.Test.YtehdjdediobemaaBP0
namespace Go.Proofs.Ytehdjdediobemaa.PC
open Go.RowKit Go.Proofs.YtehdjdediobemaaW.PrintWords Go.Proofs.YtehdjdediobemaaW.PrintLast Go.Proofs.YtehdjdediobemaaW.PrintMore Go.Proofs.Ytehdjdediobemaa.K Go.Proofs.Ytehdjdediobemaa.IX
attribute [local go_sem] max2_int min2_int max_two min_two max_three min_three max_four min_four
attribute [local go_sem high] eqA31
set_option linter.unusedVariables false
set_option linter.unusedSimpArgs false
theorem k34_KM {w : World} {base : Nat} {ok : Nat → Prop} {x : S34} {cs : List Value} (h : k34.K w x cs) : k34.M w base ok x cs := by
  rw [k34_open h]; exact k34_mkM _ _ _ x
set_option maxHeartbeats 4000000 in
theorem cloneO_nil (w : World) (c : Nat) : Calls Try.prog 47 #[.slice none 0 c] w fun e w' => e = .returned (.slice none 0 0) ∧ w' = w := by
  have hn : ∀ w : World, (binOp .eql 38 (.slice none 0 c) (.slice none 0 0)).run Try.prog w = .ok (.bool true) w := fun w => Lib.run_eql_slice_nil w 38 34 none 0 c 0 0 Try.underlying38
  go_enter Try.func47, Try.ntmps47
  go_wp2
  go_ret
  exact ⟨rfl, rfl⟩
set_option maxHeartbeats 4000000 in
theorem cloneO_some (w : World) (a : Addr) (c : Nat) (xs : List S34) (hr : Kd.C k34 w (some a) xs.length xs) (hc : xs.length * 56 ≤ 140737488355328) :
    Calls Try.prog 47 #[.slice (some a) xs.length c] w fun e w' => ∃ v, e = .returned v ∧ Kd.R k34 34 w' w.heap.size (fun _ => True) v xs ∧ Below w.heap.size w w' := by
  have hn : ∀ (w : World) n c, (binOp .eql 38 (.slice (some a) n c) (.slice none 0 0)).run Try.prog w = .ok (.bool false) w := fun w n c => Lib.run_eql_slice_nil w 38 34 (some a) n c 0 0 Try.underlying38
  have HR := Aside0.mk hr
  have HC := Aside0.mk hc
  clear hr hc
  go_enter Try.func47, Try.ntmps47
  go_wp2_with (first
    | ((with_reducible refine gate_dst (N := 5) rfl ?_); refine Kd.R_lit k34 _ 34 ?hg (N := 5) ?hd (xs := ([] : List S34)) (inner := []) (ok := fun _ => True) (okp := fun _ => True) ?hr ?hp (fun _ hk => hk) trivial (Below.refl _ _) (Nat.le_refl _) (by simp) ?_; (case hd => rfl); (case hg => rfl); (case hr => first | (go_simp; done) | (go_simp; rfl)); (case hp => exact (Reps.none _ _)); intro v6 w6 ho6 hb hg_ hnew_; have HB6 := Aside0.mk hb; have HL6 := Aside0.mk ho6; clear hb hg_ hnew_ ho6)
    | ((with_reducible refine gate_builtin (b := .append) (xs := #[.tmp 5, .tmp 6]) rfl ?_); at_builtin; refine Kd.R_append_rows k34 (w0 := w) w.heap.size rfl (.tmp 5) (.tmp 6) 38 34 (.agg #[(.int .i64 0), (.int .i64 0), (.int .i64 0), (.bool false), (.int .i64 0), (.int .i64 0), (.int .i32 0)]) 56 rfl Try.underlying38 info34 rfl (by decide) (by omega) v6 [] xs _ _ _ (fun _ => True) (fun _ => True ∧ False) rfl rfl ?aO ?aR (fun _ _ h => k34_KM h) (fun _ h => h.2.elim) ?aF ?aB ?aS ?aL ?_; (case aR => exact Kd.C_below HR.out HB6.out); (case aB => exact HB6.out); (case aF => exact (fun _ _ => trivial)); (case aO => exact HL6.out); (case aS => exact below_size HB6.out); (case aL => have := HC.out; simp only [List.length_nil]; omega); intro v7 w7 ho7 hb hg hat; have HB7 := Aside0.mk hb; rw [List.nil_append] at ho7; have HL7 := Aside0.mk ho7; clear hb hg hat ho7))
  go_ret
  exact ⟨v7, rfl, HL7.out, HB7.out⟩
theorem cloneO_calls (w : World) (A : Option Addr) (c : Nat) (xs : List S34) (hr : Kd.C k34 w A xs.length xs) (hl : xs.length ≤ 1000000) :
    Calls Try.prog 47 #[.slice A xs.length c] w fun e w' => ∃ v, e = .returned v ∧ Kd.R k34 34 w' w.heap.size (fun _ => True) v xs ∧ Below w.heap.size w w' := by
  cases A with
  | some a => exact cloneO_some w a c xs hr (by omega)
  | none =>
    have h0 : xs = [] := by
      cases xs with
      | nil => rfl
      | cons x xs => obtain ⟨ad, he, _⟩ := hr.2.2 (by simp); cases he
    subst h0
    refine (cloneO_nil w c).mono ?_
    rintro e w' ⟨rfl, rfl⟩
    exact ⟨_, rfl, Kd.R_nil _ _ _ _ _, Below.refl _ _⟩
theorem ops_calls (w : World) (F : List Nat) (p : Nat) (T : TS) (h : Tx w F p T) (hl : T.ops.length ≤ 1000000) : Calls Try.prog 19 #[.pointer (some ⟨p, 0, none⟩)] w fun e w' => ∃ v, e = .returned v ∧ Kd.R k34 34 w' w.heap.size (fun _ => True) v T.ops ∧ Below w.heap.size w w' := by
  obtain ⟨A1, c1, x, A2, c2, A3, c3, mb, FI, h0, h1, h2, h3, h4, h5, _, _, ⟨hc, hr⟩, _, _⟩ := h.read
  have K1 := Lib.hid (cloneO_calls w A2 c2 T.ops hr hl)
  generalize T.ops = l at *
  clear h hr h0 h1 h3 h4 h5
  go_enter Try.func19, Try.ntmps19
  go_wp2_with (go_at_call 47; refine K1.out.mono ?_; rintro e w' ⟨v, rfl, hr, hb⟩; have HO := Lib.hid hr; have HB := Lib.hid hb; clear hr hb)
  go_ret
  exact ⟨_, rfl, HO.out, HB.out⟩
end Go.Proofs.Ytehdjdediobemaa.PC
namespace Go.Proofs.Ytehdjdediobemaa.PC
open Go.RowKit Go.Proofs.YtehdjdediobemaaW.PrintWords Go.Proofs.YtehdjdediobemaaW.PrintLast Go.Proofs.YtehdjdediobemaaW.PrintMore
set_option linter.unusedVariables false
set_option linter.unusedSimpArgs false
theorem rright_f (c a : Int) : foolscapref12_right.f c a = some (decide (idP c a)) := by
  unfold foolscapref12_right.f
  split
  · split
    · split
      · exact some_d (by unfold idP; omega)
      · exact some_f (by unfold idP; omega)
    · exact some_f (by unfold idP; omega)
  · exact some_f (by unfold idP; omega)
theorem rRight_f (k : Nat) (i0 i1 q : Int) (ins : Bool) (r0 r1 c : Int) : foolscapref12_Right.f (k + 2) i0 i1 q ins r0 r1 c = some (decide (rightP i0 i1 q ins r0 r1 c)) := by
  unfold foolscapref12_Right.f
  have j0 : ∀ b : Bool, (b = true ↔ (idP r0 r1 ∨ ins = true ∧ r0 = 0 ∧ r1 = 0)) → foolscapref12_Right.j0 (k + 2) b i0 i1 q ins r0 r1 c = some (decide (rightP i0 i1 q ins r0 r1 c)) := by
    intro b hb
    rw [foolscapref12_Right.j0]
    cases ins
    · rw [if_neg (by decide), rright_f, Option.bind_some]
      by_cases h1 : idP i0 i1
      · rw [if_pos (decide_eq_true h1)]
        by_cases h2 : q ≥ 1
        · rw [if_pos h2]
          by_cases h3 : q ≤ 4294967295
          · rw [if_pos h3]
            by_cases h4 : b = true
            · rw [if_pos h4]
              by_cases h5 : r0 < i0
              · rw [if_pos h5]
                have h6 : idP r0 r1 := by
                  rcases hb.1 h4 with h | ⟨h, _⟩
                  · exact h
                  · cases h
                refine some_b ?_
                rw [decide_eq_true_iff]
                unfold rightP
                simp [h1, h3, h5, h6]
                omega
              · rw [if_neg h5]; exact some_f (by unfold rightP; simp [h5])
            · rw [if_neg h4]
              refine some_f ?_
              rintro ⟨_, _, _, _, ⟨h, _⟩ | ⟨_, h, _⟩⟩
              · cases h
              · exact h4 (hb.2 (.inl h))
          · rw [if_neg h3]; exact some_f (by unfold rightP; simp [h3])
        · rw [if_neg h2]; exact some_f (by unfold rightP; omega)
      · rw [if_neg (by simpa using h1)]; exact some_f (by unfold rightP; simp [h1])
    · obtain ⟨n, hn, hn2⟩ := size_f k c
      rw [if_pos rfl, hn, Option.bind_some, rright_f, Option.bind_some]
      by_cases h1 : idP i0 i1
      · rw [if_pos (decide_eq_true h1)]
        by_cases h2 : q ≥ 1
        · rw [if_pos h2]
          by_cases h3 : q ≤ 4294967295
          · rw [if_pos h3]
            by_cases h4 : b = true
            · rw [if_pos h4]
              by_cases h5 : r0 < i0
              · rw [if_pos h5]
                have h6 : idP r0 r1 ∨ r0 = 0 ∧ r1 = 0 := by
                  rcases hb.1 h4 with h | ⟨_, h⟩
                  · exact .inl h
                  · exact .inr h
                refine some_d ?_
                rw [hn2]
                unfold rightP
                exact ⟨fun h => ⟨h1, h2, h3, h5, .inl ⟨rfl, h6, h⟩⟩, fun h => by
                  rcases h.2.2.2.2 with h | h
                  · exact h.2.2
                  · cases h.1⟩
              · rw [if_neg h5]; exact some_f (by unfold rightP; simp [h5])
            · rw [if_neg h4]
              refine some_f ?_
              rintro ⟨_, _, _, _, ⟨_, h, _⟩ | ⟨h, _⟩⟩
              · rcases h with h | h
                · exact h4 (hb.2 (.inl h))
                · exact h4 (hb.2 (.inr ⟨rfl, h⟩))
              · cases h
          · rw [if_neg h3]; exact some_f (by unfold rightP; simp [h3])
        · rw [if_neg h2]; exact some_f (by unfold rightP; omega)
      · rw [if_neg (by simpa using h1)]; exact some_f (by unfold rightP; simp [h1])
  rw [rright_f, Option.bind_some]
  by_cases h : idP r0 r1
  · rw [if_pos (decide_eq_true h)]
    exact j0 true (by simp [h])
  · rw [if_neg (by simpa using h)]
    by_cases hi : ins = true
    · rw [if_pos hi]
      exact j0 _ (by simp [h, hi])
    · rw [if_neg hi]
      exact j0 false (by simp [h, hi])
end Go.Proofs.Ytehdjdediobemaa.PC
namespace Go.Proofs.Ytehdjdediobemaa.PC
open Go.RowKit Go.Proofs.YtehdjdediobemaaW.PrintWords Go.Proofs.YtehdjdediobemaaW.PrintLast Go.Proofs.YtehdjdediobemaaW.PrintMore Go.Proofs.Ytehdjdediobemaa.K Go.Proofs.Ytehdjdediobemaa.IX Go.Proofs.Ytehdjdediobemaa.I
attribute [local go_sem] max2_int min2_int max_two min_two max_three min_three max_four min_four
attribute [local go_sem high] eqA31
set_option linter.unusedVariables false
set_option linter.unusedSimpArgs false
theorem take_snoc {α : Type} (L : List α) (i : Nat) (h : i < L.length) : L.take (i + 1) = L.take i ++ [L[i]] := (List.take_append_getElem h).symm
set_option maxHeartbeats 4000000 in
theorem known_calls (w : World) (q : Nat) (L : List S34) (A : Option Addr) (c : Nat) (a : Int) (h0 : w.cell? ⟨q, 0, none⟩ = some (.slice A L.length c)) (hr : Kd.C k34 w A L.length L) (hc : L.length ≤ c) (hl : L.length ≤ 1000000) :
    Calls Try.prog 56 #[.pointer (some ⟨q, 0, none⟩), .int .i64 a] w fun e w' => e = .returned (.tuple #[.int .i64 (knownR L a).1, .int .i64 (knownR L a).2]) ∧ w = w' := by
  have HR := Aside0.mk hr
  obtain ⟨len, hlen⟩ : ∃ len, L.length = len := ⟨_, rfl⟩
  have HLEN := Lib.hid hlen
  rw [hlen] at h0 hc hl
  clear hr hlen
  go_enter Try.func56, Try.ntmps56
  go_wp2
  go_loop [6, 7, 8] (fun v6 v7 v8 => ∃ (i : Nat) (s t : Int), v8 = .int .i64 (i : Int) ∧ v6 = .int .i64 s ∧ v7 = .int .i64 t ∧ i ≤ len ∧ Aside0 (knownR (L.take i) a = (s, t))) (fun _ _ v8 => len - (intOf v8).toNat)
  case atStart => exact ⟨0, 0, 0, rfl, rfl, rfl, by omega, ⟨rfl⟩⟩
  case round =>
    obtain ⟨i, s, t, rfl, rfl, rfl, hi, HI⟩ := hrel
    by_cases hlt : i < len
    · have hiL : i < L.length := by rw [HLEN.out]; exact hlt
      obtain ⟨ad, eA, c0, c1, c2, _⟩ := cell_op HR.out (Below.refl _ w) i hiL
      subst eA
      have hta := take_snoc L i hiL
      have hkn := knownR_snoc (L.take i) L[i] a
      obtain ⟨e, he⟩ : ∃ e, L[i] = e := ⟨_, rfl⟩
      rw [he] at c0 c1 c2 hta hkn
      rw [← hta, HI.out] at hkn
      have HK := Lib.hid hkn
      obtain ⟨⟨e0, e1⟩, e2, e3, e4, e5⟩ := e
      simp only at c0 c1 c2
      clear hta hkn he
      by_cases hq : e1 = a
      · subst hq
        by_cases hs : s < e2
        · have hk : knStep e1 (s, t) ⟨⟨e0, e1⟩, e2, e3, e4, e5⟩ = (e2, e0) := by unfold knStep; rw [if_pos ⟨rfl, hs⟩]
          have HK2 := Lib.hid (HK.out.trans hk)
          have hb : (e1 == e1) = true := by simp
          have hd : decide (s < e2) = true := by simpa using hs
          clear hk
          go_wp2
          go_round
          case rel => exact ⟨i + 1, e2, e0, by go_num, rfl, rfl, by omega, ⟨HK2.out⟩⟩
          case measure => simp [intOf]; omega
        · have hk : knStep e1 (s, t) ⟨⟨e0, e1⟩, e2, e3, e4, e5⟩ = (s, t) := by unfold knStep; rw [if_neg (fun k => hs k.2)]
          have HK2 := Lib.hid (HK.out.trans hk)
          have hb : (e1 == e1) = true := by simp
          have hd : decide (s < e2) = false := by simpa using hs
          clear hk
          go_wp2
          go_round
          case rel => exact ⟨i + 1, s, t, by go_num, rfl, rfl, by omega, ⟨HK2.out⟩⟩
          case measure => simp [intOf]; omega
      · have hk : knStep a (s, t) ⟨⟨e0, e1⟩, e2, e3, e4, e5⟩ = (s, t) := by unfold knStep; rw [if_neg (fun k => hq k.1)]
        have HK2 := Lib.hid (HK.out.trans hk)
        have hb : (e1 == a) = false := by simpa using hq
        clear hk
        go_wp2
        go_round
        case rel => exact ⟨i + 1, s, t, by go_num, rfl, rfl, by omega, ⟨HK2.out⟩⟩
        case measure => simp [intOf]; omega
    · obtain rfl : i = len := by omega
      have hfin : knownR L a = (s, t) := by
        have := HI.out
        rwa [← HLEN.out, List.take_length] at this
      have HF := Lib.hid hfin
      have hd : decide ((i : Int) < (i : Int)) = false := by simp
      clear hfin
      go_wp2
      go_ret2
      exact ⟨by rw [HF.out]; rfl, rfl⟩
theorem hasR_take (L : List S34) (i : Nat) (h : i < L.length) (x : S31) : hasR (L.take (i + 1)) x = (hasR (L.take i) x || (L[i].f2 && idq L[i].f0 x)) := by
  rw [take_snoc L i h]
  unfold hasR
  rw [List.any_append]
  simp
theorem hasR_at (L : List S34) (i : Nat) (h : i < L.length) (x : S31) (hq : (L[i].f2 && idq L[i].f0 x) = true) : hasR L x = true := by
  unfold hasR
  rw [List.any_eq_true]
  exact ⟨L[i], List.getElem_mem h, hq⟩
set_option maxHeartbeats 4000000 in
theorem ghas_calls (w : World) (q : Nat) (L : List S34) (A : Option Addr) (c : Nat) (x : S31) (h0 : w.cell? ⟨q, 0, none⟩ = some (.slice A L.length c)) (hr : Kd.C k34 w A L.length L) (hc : L.length ≤ c) (hl : L.length ≤ 1000000) :
    Calls Try.prog 36 #[.pointer (some ⟨q, 0, none⟩), .agg #[.int .i64 x.f0, .int .i64 x.f1]] w fun e w' => e = .returned (.bool (hasR L x)) ∧ Below w.heap.size w w' := by
  obtain ⟨x0, x1⟩ := x
  have HR := Aside0.mk hr
  obtain ⟨W1, hW1⟩ : ∃ W1, w.alloc (.cells #[.int .i64 x0, .int .i64 x1] 31) = W1 := ⟨_, rfl⟩
  have hb : Below w.heap.size w W1 := by rw [← hW1]; exact (Below.refl _ w).alloc (Nat.le_refl _) _
  have hnew : W1.heap[w.heap.size]? = some (.cells #[.int .i64 x0, .int .i64 x1] 31 (0, 0)) := by rw [← hW1]; exact heap_new w _
  have HB := Lib.hid hb
  obtain ⟨len, hlen⟩ : ∃ len, L.length = len := ⟨_, rfl⟩
  have HLEN := Lib.hid hlen
  rw [hlen] at h0 hc hl
  have HS := Lib.hid (fun W (hb2 : Below W1.heap.size W1 W) => show W.cell? ⟨q, 0, none⟩ = some (.slice A len c) ∧ W.cell? ⟨w.heap.size, 0, none⟩ = some (.int .i64 x0) ∧ W.cell? ⟨w.heap.size, 1, none⟩ = some (.int .i64 x1) from
    ⟨((below_step hb hb2).cell (World.block_lt_of_cell? w _ h0)).trans h0, (hb2.cell (lt_of hnew)).trans ((cell_of hnew 0).trans rfl), (hb2.cell (lt_of hnew)).trans ((cell_of hnew 1).trans rfl)⟩)
  clear hr hlen h0 hb hnew
  go_enter Try.func36, Try.ntmps36
  go_wp2
  clear hW1
  go_loopw [5] (fun v5 w' => ∃ (i : Nat), v5 = .int .i64 (i : Int) ∧ i ≤ len ∧ Aside0 (hasR (L.take i) ⟨x0, x1⟩ = false ∧ Below W1.heap.size W1 w')) (fun v5 _ => len - (intOf v5).toNat)
  case atStart => exact ⟨0, rfl, by omega, ⟨rfl, Below.refl _ _⟩⟩
  case round =>
    obtain ⟨i, rfl, hi, HI⟩ := hrel
    obtain ⟨s0, s1, s2⟩ := HS.out _ HI.out.2
    by_cases hlt : i < len
    · have hiL : i < L.length := by rw [HLEN.out]; exact hlt
      obtain ⟨ad, eA, c0, c1, _, c3, _⟩ := cell_op HR.out (below_step HB.out HI.out.2) i hiL
      subst eA
      have hta := hasR_take L i hiL ⟨x0, x1⟩
      have hat := hasR_at L i hiL ⟨x0, x1⟩
      rw [HI.out.1, Bool.false_or] at hta
      obtain ⟨e, he⟩ : ∃ e, L[i] = e := ⟨_, rfl⟩
      rw [he] at c0 c1 c3 hta hat
      obtain ⟨⟨e0, e1⟩, e2, e3, e4, e5⟩ := e
      simp only at c0 c1 c3
      cases e3 with
      | true =>
        by_cases hq : idq ⟨e0, e1⟩ ⟨x0, x1⟩ = true
        · have HF := Lib.hid (hat (by simpa using hq))
          have hq2 : (e0 == x0 && e1 == x1) = true := hq
          clear hta hat he hq
          go_wp2
          go_quiet (fail)
          go_wp2
          go_ret
          exact ⟨by rw [HF.out]; rfl, (pw_below_drewN (below_step HB.out HI.out.2) _)⟩
        · have hq2 : (e0 == x0 && e1 == x1) = false := by simpa [idq] using hq
          have HF := Lib.hid (hta.trans (show (true && idq ⟨e0, e1⟩ ⟨x0, x1⟩) = false from hq2))
          clear hta hat he hq
          go_wp2
          go_quiet (fail)
          go_wp2
          go_roundw
          case rel => exact ⟨i + 1, by go_num, by omega, ⟨HF.out, pw_below_drewN HI.out.2 _⟩⟩
          case measure => simp [intOf]; omega
      | false =>
        have HF := Lib.hid (hta.trans (show (false && idq ⟨e0, e1⟩ ⟨x0, x1⟩) = false from rfl))
        clear hta hat he
        go_wp2
        go_quiet (fail)
        go_wp2
        go_roundw
        case rel => exact ⟨i + 1, by go_num, by omega, ⟨HF.out, pw_below_drewN HI.out.2 _⟩⟩
        case measure => simp [intOf]; omega
    · obtain rfl : i = len := by omega
      have hfin : hasR L ⟨x0, x1⟩ = false := by
        have := HI.out.1
        rwa [← HLEN.out, List.take_length] at this
      have HF := Lib.hid hfin
      have hd : decide ((i : Int) < (i : Int)) = false := by simp
      clear hfin
      go_wp2
      go_ret
      exact ⟨by rw [HF.out]; rfl, below_step HB.out HI.out.2⟩
end Go.Proofs.Ytehdjdediobemaa.PC
namespace Go.Proofs.Ytehdjdediobemaa.PC
open Go.RowKit Go.Proofs.YtehdjdediobemaaW.PrintWords Go.Proofs.Ytehdjdediobemaa.K Go.Proofs.Ytehdjdediobemaa.IX Go.Proofs.Ytehdjdediobemaa.I
set_option linter.unusedVariables false
set_option linter.unusedSimpArgs false
/-- What the reference's Put does. -/
def refR (L : List S34) (o : S34) : Option Int :=
  if ¬ rightS o then some 1
  else if o.f1 ≤ (knownR L o.f0.f1).1 then some 0
  else if (knownR L o.f0.f1).1 ≠ o.f1 - 1 ∨ (hasR L o.f3 = false ∧ idq o.f3 zid = false) then some 6
  else if o.f0.f0 ≤ (knownR L o.f0.f1).2 then some 1
  else none
def putR (L : List S34) (o : S34) : (Bool × Int) × List S34 :=
  match refR L o with
  | some e => ((false, e), L)
  | none => ((true, 0), L ++ [o])
theorem Inv.ref {T : TS} {F : Fo} (h : Inv T F) (o : S34) : refS T o = refR T.ops o := by
  unfold refS refR knownS
  rw [h.sq, h.last]
  by_cases hr : rightS o
  · have hnn : ¬ ¬ rightS o := fun k => k hr
    rw [if_neg hnn, if_neg hnn]
    by_cases h1 : o.f1 ≤ (knownR T.ops o.f0.f1).1
    · rw [if_pos h1, if_pos h1]
    · rw [if_neg h1, if_neg h1]
      have e : (((knownR T.ops o.f0.f1).1 + 1 < o.f1 ∨ (placeS T.l o.f3 < 0 ∧ idq o.f3 zid = false)) ↔ ((knownR T.ops o.f0.f1).1 ≠ o.f1 - 1 ∨ (hasR T.ops o.f3 = false ∧ idq o.f3 zid = false))) := by
        have e1 : placeS T.l o.f3 < 0 ↔ hasR T.ops o.f3 = false := by
          have a := h.place o.f3
          have b := h.has o.f3
          constructor
          · intro k
            cases hh : hasR T.ops o.f3 with
            | false => rfl
            | true => have := a.2 (b.1 hh); omega
          · intro k
            apply Decidable.byContradiction
            intro k2
            have := b.2 (a.1 (by omega))
            rw [k] at this
            cases this
        rw [e1]
        constructor
        · rintro (k | k)
          · left; omega
          · exact .inr k
        · rintro (k | k)
          · left; omega
          · exact .inr k
      by_cases h2 : (knownR T.ops o.f0.f1).1 + 1 < o.f1 ∨ (placeS T.l o.f3 < 0 ∧ idq o.f3 zid = false)
      · rw [if_pos h2, if_pos (e.1 h2)]
      · rw [if_neg h2, if_neg (fun k => h2 (e.2 k))]
  · rw [if_pos hr, if_pos hr]
theorem Inv.put_same {T : TS} {F : Fo} (h : Inv T F) (o : S34) : (putT T o).1 = (putR T.ops o).1 ∧ (putT T o).2.ops = (putR T.ops o).2 := by
  unfold putT putR
  rw [h.ref o]
  cases refR T.ops o <;> exact ⟨rfl, rfl⟩
end Go.Proofs.Ytehdjdediobemaa.PC
namespace Go.Proofs.Ytehdjdediobemaa.PC
open Go.RowKit Go.Proofs.YtehdjdediobemaaW.PrintWords Go.Proofs.YtehdjdediobemaaW.PrintLast Go.Proofs.YtehdjdediobemaaW.PrintMore Go.Proofs.Ytehdjdediobemaa.K Go.Proofs.Ytehdjdediobemaa.IX Go.Proofs.Ytehdjdediobemaa.I
set_option linter.unusedVariables false
set_option linter.unusedSimpArgs false
theorem ops_st {w0 w : World} {p : Nat} {T : TS} {B : As} (b : Asn B) (h : St w0 w (sep (isTx p T) B)) (hl : T.ops.length ≤ 100000) : Calls Try.prog 19 #[.pointer (some ⟨p, 0, none⟩)] w fun e w' => ∃ A c, e = .returned (.slice A T.ops.length c) ∧ St w0 w' (sep (isRow k34 34 (.slice A T.ops.length c) T.ops) (sep (isTx p T) B)) := by
  obtain ⟨F, ⟨FA, FB, h1, h2, rfl, hd⟩, hb, hn⟩ := id h
  refine (ops_calls w FA p T h1 (by omega)).mono ?_
  rintro e w' ⟨v, rfl, hr, hb2⟩
  obtain ⟨A, c, rfl⟩ := Kd.R_slice hr
  exact ⟨A, c, rfl, St.row rfl h (asn_sep (asn_tx p T) b) hb2 hr⟩
end Go.Proofs.Ytehdjdediobemaa.PC
namespace Go.Proofs.Ytehdjdediobemaa.PC
open Go.RowKit Go.Proofs.YtehdjdediobemaaW.PrintWords Go.Proofs.YtehdjdediobemaaW.PrintLast Go.Proofs.YtehdjdediobemaaW.PrintMore Go.Proofs.Ytehdjdediobemaa.K Go.Proofs.Ytehdjdediobemaa.IX Go.Proofs.Ytehdjdediobemaa.I
set_option linter.unusedVariables false
set_option linter.unusedSimpArgs false
theorem flat_Op : Flat k34 flO := ⟨flO_len, fun h => k34_open h, fun h => k34_openM h, fun _ _ _ _ => k34_mkM _ _ _ _, fun x u hu => by simp [flO] at hu; rcases hu with rfl | rfl | rfl | rfl | rfl | rfl | rfl <;> rfl, (by decide), rfl⟩
end Go.Proofs.Ytehdjdediobemaa.PC
namespace Go.Proofs.Ytehdjdediobemaa.PC
open Go.RowKit Go.Proofs.YtehdjdediobemaaW.PrintWords Go.Proofs.YtehdjdediobemaaW.PrintLast Go.Proofs.YtehdjdediobemaaW.PrintMore Go.Proofs.Ytehdjdediobemaa.K Go.Proofs.Ytehdjdediobemaa.IX Go.Proofs.Ytehdjdediobemaa.I
attribute [local go_sem] max2_int min2_int max_two min_two max_three min_three max_four min_four
attribute [local go_sem high] eqA31
set_option linter.unusedVariables false
set_option linter.unusedSimpArgs false
def isRef (q : Nat) (L : List S34) : As := fun w F => ∃ v, w.heap[q]? = some (.cells #[v] 61 (0, 0)) ∧ Rw k34 34 w v L ∧ F = q :: ob v
theorem asn_ref (q : Nat) (L : List S34) : Asn (isRef q L) :=
  ⟨fun ⟨v, h1, h2, h3⟩ hk => ⟨v, (hk q (by rw [h3]; simp)).trans h1, h2.keep (fun k m => hk k (by rw [h3]; simp [m])), h3⟩,
   fun ⟨v, h1, h2, h3⟩ k hk => by
    rw [h3, List.mem_cons] at hk
    rcases hk with rfl | hk
    · exact lt_of h1
    · exact h2.lt k hk⟩
theorem ref_read {w : World} {F : List Nat} {q : Nat} {L : List S34} (h : isRef q L w F) : ∃ A c, w.cell? ⟨q, 0, none⟩ = some (.slice A L.length c) ∧ L.length ≤ c ∧ Kd.C k34 w A L.length L := by
  obtain ⟨v, h1, h2, _⟩ := h
  obtain ⟨A, c, rfl, h3, h4⟩ := Kd.R_reads h2
  exact ⟨A, c, (cell_of h1 0).trans rfl, h3, h4⟩
theorem right12_is (o : S34) (w : World) : Calls Try.prog 55 #[opV o] w fun e w' => e = .returned (.bool (decide (rightS o))) ∧ Below w.heap.size w w' := by
  unfold opV
  exact foolscapref12_Right.calls 2 o.f0.f0 o.f0.f1 o.f1 o.f2 o.f3.f0 o.f3.f1 o.f4 _ w (rRight_f 0 _ _ _ _ _ _ _)
/-- What the walk of the reference's Put needs to know. -/
structure PutW (w : World) (q : Nat) (L : List S34) (o : S34) (A : Option Addr) (c : Nat) : Prop where
  cell : w.cell? ⟨q, 0, none⟩ = some (.slice A L.length c)
  cap : L.length ≤ c
  row : Kd.C k34 w A L.length L
  len : L.length ≤ 1000000
set_option maxHeartbeats 4000000 in
set_option maxRecDepth 100000 in
theorem gput_wrong (w : World) (q : Nat) (L : List S34) (o : S34) (A : Option Addr) (c : Nat) (h : PutW w q L o A c) (hr : ¬ rightS o) : Calls Try.prog 33 #[.pointer (some ⟨q, 0, none⟩), opV o] w fun e w' => e = .returned (.tuple #[.bool false, .int .i64 1]) ∧ Below w.heap.size w w' := by
  have K1 := right12_is o
  rw [decide_eq_false hr] at K1
  have HK := Lib.hid K1
  have hr2 := trivial
  obtain ⟨kn, kc, hkn⟩ : ∃ kn kc, knownR L o.f0.f1 = (kn, kc) := ⟨_, _, rfl⟩
  have K2 := Lib.hid (fun W (hb : Below w.heap.size w W) => known_calls W q L A c o.f0.f1 ((hb.cell (World.block_lt_of_cell? w _ h.cell)).trans h.cell) (Kd.C_below h.row hb) h.cap h.len)
  have K3 := Lib.hid (fun W (hb : Below w.heap.size w W) => ghas_calls W q L A c o.f3 ((hb.cell (World.block_lt_of_cell? w _ h.cell)).trans h.cell) (Kd.C_below h.row hb) h.cap h.len)
  rw [hkn] at K2 
  obtain ⟨hs, hhs⟩ : ∃ hs, hasR L o.f3 = hs := ⟨_, rfl⟩
  rw [hhs] at K3 
  obtain ⟨⟨o0, o1⟩, o2, o3, ⟨o4, o5⟩, o6⟩ := o
  unfold opV at *
  obtain ⟨W1, hW1⟩ : ∃ W1, w.alloc (.cells #[.int .i64 o0, .int .i64 o1, .int .i64 o2, .bool o3, .int .i64 o4, .int .i64 o5, .int .i32 o6] 34) = W1 := ⟨_, rfl⟩
  have hb : Below w.heap.size w W1 := by rw [← hW1]; exact (Below.refl _ w).alloc (Nat.le_refl _) _
  have hnew : W1.heap[w.heap.size]? = some (.cells #[.int .i64 o0, .int .i64 o1, .int .i64 o2, .bool o3, .int .i64 o4, .int .i64 o5, .int .i32 o6] 34 (0, 0)) := by rw [← hW1]; exact heap_new w _
  have HB := Lib.hid hb
  have HO : Aside0 (∀ W, Below W1.heap.size W1 W → W.cell? ⟨w.heap.size, 0, none⟩ = some (.int .i64 o0) ∧ W.cell? ⟨w.heap.size, 1, none⟩ = some (.int .i64 o1) ∧ W.cell? ⟨w.heap.size, 2, none⟩ = some (.int .i64 o2) ∧ W.cell? ⟨w.heap.size, 4, none⟩ = some (.int .i64 o4) ∧ W.cell? ⟨w.heap.size, 5, none⟩ = some (.int .i64 o5)) :=
    ⟨fun W hb2 => ⟨(hb2.cell (lt_of hnew)).trans ((cell_of hnew 0).trans rfl), (hb2.cell (lt_of hnew)).trans ((cell_of hnew 1).trans rfl), (hb2.cell (lt_of hnew)).trans ((cell_of hnew 2).trans rfl), (hb2.cell (lt_of hnew)).trans ((cell_of hnew 4).trans rfl), (hb2.cell (lt_of hnew)).trans ((cell_of hnew 5).trans rfl)⟩⟩
  clear h hb K1 hnew hkn hhs hr
  subst hW1
  go_enter Try.func33, Try.ntmps33
  go_wp2_with (first
    | (go_at_call 55; refine (HK.out _).mono ?_; rintro e w2 ⟨rfl, hb⟩; have HB2 := Lib.hid hb; have HBW := Lib.hid (below_step HB.out hb); obtain ⟨s0, s1, s2, s4, s5⟩ := HO.out _ hb; clear hb)
    | (go_at_call 56; refine (K2.out _ HBW.out).mono ?_; rintro e w3 ⟨rfl, rfl⟩)
    | (go_at_call 36; refine (K3.out _ HBW.out).mono ?_; rintro e w4 ⟨rfl, hb⟩; have HB4 := Lib.hid (below_step HB2.out hb); obtain ⟨t0, t1, t2, t4, t5⟩ := HO.out _ HB4.out; clear hb))
  go_ret2
  exact ⟨rfl, HBW.out⟩
set_option maxHeartbeats 4000000 in
set_option maxRecDepth 100000 in
theorem gput_old (w : World) (q : Nat) (L : List S34) (o : S34) (A : Option Addr) (c : Nat) (h : PutW w q L o A c) (hr : rightS o) (h1 : o.f1 ≤ (knownR L o.f0.f1).1) : Calls Try.prog 33 #[.pointer (some ⟨q, 0, none⟩), opV o] w fun e w' => e = .returned (.tuple #[.bool false, .int .i64 0]) ∧ Below w.heap.size w w' := by
  have K1 := right12_is o
  rw [decide_eq_true hr] at K1
  have HK := Lib.hid K1
  have hr2 := (show 1 ≤ o.f1 ∧ o.f1 ≤ 4294967295 from ⟨hr.2.1, hr.2.2.1⟩)
  obtain ⟨kn, kc, hkn⟩ : ∃ kn kc, knownR L o.f0.f1 = (kn, kc) := ⟨_, _, rfl⟩
  have K2 := Lib.hid (fun W (hb : Below w.heap.size w W) => known_calls W q L A c o.f0.f1 ((hb.cell (World.block_lt_of_cell? w _ h.cell)).trans h.cell) (Kd.C_below h.row hb) h.cap h.len)
  have K3 := Lib.hid (fun W (hb : Below w.heap.size w W) => ghas_calls W q L A c o.f3 ((hb.cell (World.block_lt_of_cell? w _ h.cell)).trans h.cell) (Kd.C_below h.row hb) h.cap h.len)
  rw [hkn] at K2 h1
  obtain ⟨hs, hhs⟩ : ∃ hs, hasR L o.f3 = hs := ⟨_, rfl⟩
  rw [hhs] at K3 
  obtain ⟨⟨o0, o1⟩, o2, o3, ⟨o4, o5⟩, o6⟩ := o
  unfold opV at *
  obtain ⟨W1, hW1⟩ : ∃ W1, w.alloc (.cells #[.int .i64 o0, .int .i64 o1, .int .i64 o2, .bool o3, .int .i64 o4, .int .i64 o5, .int .i32 o6] 34) = W1 := ⟨_, rfl⟩
  have hb : Below w.heap.size w W1 := by rw [← hW1]; exact (Below.refl _ w).alloc (Nat.le_refl _) _
  have hnew : W1.heap[w.heap.size]? = some (.cells #[.int .i64 o0, .int .i64 o1, .int .i64 o2, .bool o3, .int .i64 o4, .int .i64 o5, .int .i32 o6] 34 (0, 0)) := by rw [← hW1]; exact heap_new w _
  have HB := Lib.hid hb
  have HO : Aside0 (∀ W, Below W1.heap.size W1 W → W.cell? ⟨w.heap.size, 0, none⟩ = some (.int .i64 o0) ∧ W.cell? ⟨w.heap.size, 1, none⟩ = some (.int .i64 o1) ∧ W.cell? ⟨w.heap.size, 2, none⟩ = some (.int .i64 o2) ∧ W.cell? ⟨w.heap.size, 4, none⟩ = some (.int .i64 o4) ∧ W.cell? ⟨w.heap.size, 5, none⟩ = some (.int .i64 o5)) :=
    ⟨fun W hb2 => ⟨(hb2.cell (lt_of hnew)).trans ((cell_of hnew 0).trans rfl), (hb2.cell (lt_of hnew)).trans ((cell_of hnew 1).trans rfl), (hb2.cell (lt_of hnew)).trans ((cell_of hnew 2).trans rfl), (hb2.cell (lt_of hnew)).trans ((cell_of hnew 4).trans rfl), (hb2.cell (lt_of hnew)).trans ((cell_of hnew 5).trans rfl)⟩⟩
  simp only at hr2 h1
  have hge : o2 ≤ kn := h1
  clear h hb K1 hnew hkn hhs hr
  subst hW1
  go_enter Try.func33, Try.ntmps33
  go_wp2_with (first
    | (go_at_call 55; refine (HK.out _).mono ?_; rintro e w2 ⟨rfl, hb⟩; have HB2 := Lib.hid hb; have HBW := Lib.hid (below_step HB.out hb); obtain ⟨s0, s1, s2, s4, s5⟩ := HO.out _ hb; clear hb)
    | (go_at_call 56; refine (K2.out _ HBW.out).mono ?_; rintro e w3 ⟨rfl, rfl⟩)
    | (go_at_call 36; refine (K3.out _ HBW.out).mono ?_; rintro e w4 ⟨rfl, hb⟩; have HB4 := Lib.hid (below_step HB2.out hb); obtain ⟨t0, t1, t2, t4, t5⟩ := HO.out _ HB4.out; clear hb))
  go_ret2
  exact ⟨rfl, HBW.out⟩
set_option maxHeartbeats 4000000 in
set_option maxRecDepth 100000 in
theorem gput_gap (w : World) (q : Nat) (L : List S34) (o : S34) (A : Option Addr) (c : Nat) (h : PutW w q L o A c) (hr : rightS o) (h1 : ¬ o.f1 ≤ (knownR L o.f0.f1).1) (h2 : (knownR L o.f0.f1).1 ≠ o.f1 - 1) : Calls Try.prog 33 #[.pointer (some ⟨q, 0, none⟩), opV o] w fun e w' => e = .returned (.tuple #[.bool false, .int .i64 6]) ∧ Below w.heap.size w w' := by
  have K1 := right12_is o
  rw [decide_eq_true hr] at K1
  have HK := Lib.hid K1
  have hr2 := (show 1 ≤ o.f1 ∧ o.f1 ≤ 4294967295 from ⟨hr.2.1, hr.2.2.1⟩)
  obtain ⟨kn, kc, hkn⟩ : ∃ kn kc, knownR L o.f0.f1 = (kn, kc) := ⟨_, _, rfl⟩
  have K2 := Lib.hid (fun W (hb : Below w.heap.size w W) => known_calls W q L A c o.f0.f1 ((hb.cell (World.block_lt_of_cell? w _ h.cell)).trans h.cell) (Kd.C_below h.row hb) h.cap h.len)
  have K3 := Lib.hid (fun W (hb : Below w.heap.size w W) => ghas_calls W q L A c o.f3 ((hb.cell (World.block_lt_of_cell? w _ h.cell)).trans h.cell) (Kd.C_below h.row hb) h.cap h.len)
  rw [hkn] at K2 h1 h2
  obtain ⟨hs, hhs⟩ : ∃ hs, hasR L o.f3 = hs := ⟨_, rfl⟩
  rw [hhs] at K3 
  obtain ⟨⟨o0, o1⟩, o2, o3, ⟨o4, o5⟩, o6⟩ := o
  unfold opV at *
  obtain ⟨W1, hW1⟩ : ∃ W1, w.alloc (.cells #[.int .i64 o0, .int .i64 o1, .int .i64 o2, .bool o3, .int .i64 o4, .int .i64 o5, .int .i32 o6] 34) = W1 := ⟨_, rfl⟩
  have hb : Below w.heap.size w W1 := by rw [← hW1]; exact (Below.refl _ w).alloc (Nat.le_refl _) _
  have hnew : W1.heap[w.heap.size]? = some (.cells #[.int .i64 o0, .int .i64 o1, .int .i64 o2, .bool o3, .int .i64 o4, .int .i64 o5, .int .i32 o6] 34 (0, 0)) := by rw [← hW1]; exact heap_new w _
  have HB := Lib.hid hb
  have HO : Aside0 (∀ W, Below W1.heap.size W1 W → W.cell? ⟨w.heap.size, 0, none⟩ = some (.int .i64 o0) ∧ W.cell? ⟨w.heap.size, 1, none⟩ = some (.int .i64 o1) ∧ W.cell? ⟨w.heap.size, 2, none⟩ = some (.int .i64 o2) ∧ W.cell? ⟨w.heap.size, 4, none⟩ = some (.int .i64 o4) ∧ W.cell? ⟨w.heap.size, 5, none⟩ = some (.int .i64 o5)) :=
    ⟨fun W hb2 => ⟨(hb2.cell (lt_of hnew)).trans ((cell_of hnew 0).trans rfl), (hb2.cell (lt_of hnew)).trans ((cell_of hnew 1).trans rfl), (hb2.cell (lt_of hnew)).trans ((cell_of hnew 2).trans rfl), (hb2.cell (lt_of hnew)).trans ((cell_of hnew 4).trans rfl), (hb2.cell (lt_of hnew)).trans ((cell_of hnew 5).trans rfl)⟩⟩
  simp only at hr2 h1 h2
  have hw1 : IntKind.i64.wrap (o2 - 1) = o2 - 1 := by rw [IntKind.wrap_i64]; omega
  have hge : ¬ o2 ≤ kn := h1
  have hq : (kn == o2 - 1) = false := by simpa using h2
  have hq2 : (kn != o2 - 1) = true := by simpa using h2
  clear h hb K1 hnew hkn hhs hr
  subst hW1
  go_enter Try.func33, Try.ntmps33
  go_wp2_with (first
    | (go_at_call 55; refine (HK.out _).mono ?_; rintro e w2 ⟨rfl, hb⟩; have HB2 := Lib.hid hb; have HBW := Lib.hid (below_step HB.out hb); obtain ⟨s0, s1, s2, s4, s5⟩ := HO.out _ hb; clear hb)
    | (go_at_call 56; refine (K2.out _ HBW.out).mono ?_; rintro e w3 ⟨rfl, rfl⟩)
    | (go_at_call 36; refine (K3.out _ HBW.out).mono ?_; rintro e w4 ⟨rfl, hb⟩; have HB4 := Lib.hid (below_step HB2.out hb); obtain ⟨t0, t1, t2, t4, t5⟩ := HO.out _ HB4.out; clear hb))
  go_ret2
  exact ⟨rfl, below_step HB.out HB4.out⟩
set_option maxHeartbeats 4000000 in
set_option maxRecDepth 100000 in
theorem gput_noref (w : World) (q : Nat) (L : List S34) (o : S34) (A : Option Addr) (c : Nat) (h : PutW w q L o A c) (hr : rightS o) (h1 : ¬ o.f1 ≤ (knownR L o.f0.f1).1) (h2 : (knownR L o.f0.f1).1 = o.f1 - 1) (h3 : hasR L o.f3 = false) (h4 : idq o.f3 zid = false) : Calls Try.prog 33 #[.pointer (some ⟨q, 0, none⟩), opV o] w fun e w' => e = .returned (.tuple #[.bool false, .int .i64 6]) ∧ Below w.heap.size w w' := by
  have K1 := right12_is o
  rw [decide_eq_true hr] at K1
  have HK := Lib.hid K1
  have hr2 := (show 1 ≤ o.f1 ∧ o.f1 ≤ 4294967295 from ⟨hr.2.1, hr.2.2.1⟩)
  obtain ⟨kn, kc, hkn⟩ : ∃ kn kc, knownR L o.f0.f1 = (kn, kc) := ⟨_, _, rfl⟩
  have K2 := Lib.hid (fun W (hb : Below w.heap.size w W) => known_calls W q L A c o.f0.f1 ((hb.cell (World.block_lt_of_cell? w _ h.cell)).trans h.cell) (Kd.C_below h.row hb) h.cap h.len)
  have K3 := Lib.hid (fun W (hb : Below w.heap.size w W) => ghas_calls W q L A c o.f3 ((hb.cell (World.block_lt_of_cell? w _ h.cell)).trans h.cell) (Kd.C_below h.row hb) h.cap h.len)
  rw [hkn] at K2 h1 h2
  obtain ⟨hs, hhs⟩ : ∃ hs, hasR L o.f3 = hs := ⟨_, rfl⟩
  rw [hhs] at K3 h3
  obtain ⟨⟨o0, o1⟩, o2, o3, ⟨o4, o5⟩, o6⟩ := o
  unfold opV at *
  obtain ⟨W1, hW1⟩ : ∃ W1, w.alloc (.cells #[.int .i64 o0, .int .i64 o1, .int .i64 o2, .bool o3, .int .i64 o4, .int .i64 o5, .int .i32 o6] 34) = W1 := ⟨_, rfl⟩
  have hb : Below w.heap.size w W1 := by rw [← hW1]; exact (Below.refl _ w).alloc (Nat.le_refl _) _
  have hnew : W1.heap[w.heap.size]? = some (.cells #[.int .i64 o0, .int .i64 o1, .int .i64 o2, .bool o3, .int .i64 o4, .int .i64 o5, .int .i32 o6] 34 (0, 0)) := by rw [← hW1]; exact heap_new w _
  have HB := Lib.hid hb
  have HO : Aside0 (∀ W, Below W1.heap.size W1 W → W.cell? ⟨w.heap.size, 0, none⟩ = some (.int .i64 o0) ∧ W.cell? ⟨w.heap.size, 1, none⟩ = some (.int .i64 o1) ∧ W.cell? ⟨w.heap.size, 2, none⟩ = some (.int .i64 o2) ∧ W.cell? ⟨w.heap.size, 4, none⟩ = some (.int .i64 o4) ∧ W.cell? ⟨w.heap.size, 5, none⟩ = some (.int .i64 o5)) :=
    ⟨fun W hb2 => ⟨(hb2.cell (lt_of hnew)).trans ((cell_of hnew 0).trans rfl), (hb2.cell (lt_of hnew)).trans ((cell_of hnew 1).trans rfl), (hb2.cell (lt_of hnew)).trans ((cell_of hnew 2).trans rfl), (hb2.cell (lt_of hnew)).trans ((cell_of hnew 4).trans rfl), (hb2.cell (lt_of hnew)).trans ((cell_of hnew 5).trans rfl)⟩⟩
  simp only at hr2 h1 h2 h3
  have hw1 : IntKind.i64.wrap (o2 - 1) = o2 - 1 := by rw [IntKind.wrap_i64]; omega
  have hge : ¬ o2 ≤ kn := h1
  have hq : (kn == o2 - 1) = true := by simpa using h2
  have hq2 : (kn != o2 - 1) = false := by simpa using h2
  subst h3
  have hz : (o4 == 0 && o5 == 0) = false := h4
  clear h hb K1 hnew hkn hhs hr h2
  subst hW1
  go_enter Try.func33, Try.ntmps33
  go_wp2_with (first
    | (go_at_call 55; refine (HK.out _).mono ?_; rintro e w2 ⟨rfl, hb⟩; have HB2 := Lib.hid hb; have HBW := Lib.hid (below_step HB.out hb); obtain ⟨s0, s1, s2, s4, s5⟩ := HO.out _ hb; clear hb)
    | (go_at_call 56; refine (K2.out _ HBW.out).mono ?_; rintro e w3 ⟨rfl, rfl⟩)
    | (go_at_call 36; refine (K3.out _ HBW.out).mono ?_; rintro e w4 ⟨rfl, hb⟩; have HB4 := Lib.hid (below_step HB2.out hb); obtain ⟨t0, t1, t2, t4, t5⟩ := HO.out _ HB4.out; clear hb))
  go_ret2
  exact ⟨rfl, below_step HB.out HB4.out⟩
set_option maxHeartbeats 4000000 in
set_option maxRecDepth 100000 in
theorem gput_ctr (w : World) (q : Nat) (L : List S34) (o : S34) (A : Option Addr) (c : Nat) (h : PutW w q L o A c) (hr : rightS o) (h1 : ¬ o.f1 ≤ (knownR L o.f0.f1).1) (h2 : (knownR L o.f0.f1).1 = o.f1 - 1) (h3 : hasR L o.f3 = true) (h5 : o.f0.f0 ≤ (knownR L o.f0.f1).2) : Calls Try.prog 33 #[.pointer (some ⟨q, 0, none⟩), opV o] w fun e w' => e = .returned (.tuple #[.bool false, .int .i64 1]) ∧ Below w.heap.size w w' := by
  have K1 := right12_is o
  rw [decide_eq_true hr] at K1
  have HK := Lib.hid K1
  have hr2 := (show 1 ≤ o.f1 ∧ o.f1 ≤ 4294967295 from ⟨hr.2.1, hr.2.2.1⟩)
  obtain ⟨kn, kc, hkn⟩ : ∃ kn kc, knownR L o.f0.f1 = (kn, kc) := ⟨_, _, rfl⟩
  have K2 := Lib.hid (fun W (hb : Below w.heap.size w W) => known_calls W q L A c o.f0.f1 ((hb.cell (World.block_lt_of_cell? w _ h.cell)).trans h.cell) (Kd.C_below h.row hb) h.cap h.len)
  have K3 := Lib.hid (fun W (hb : Below w.heap.size w W) => ghas_calls W q L A c o.f3 ((hb.cell (World.block_lt_of_cell? w _ h.cell)).trans h.cell) (Kd.C_below h.row hb) h.cap h.len)
  rw [hkn] at K2 h1 h2 h5
  obtain ⟨hs, hhs⟩ : ∃ hs, hasR L o.f3 = hs := ⟨_, rfl⟩
  rw [hhs] at K3 h3
  obtain ⟨⟨o0, o1⟩, o2, o3, ⟨o4, o5⟩, o6⟩ := o
  unfold opV at *
  obtain ⟨W1, hW1⟩ : ∃ W1, w.alloc (.cells #[.int .i64 o0, .int .i64 o1, .int .i64 o2, .bool o3, .int .i64 o4, .int .i64 o5, .int .i32 o6] 34) = W1 := ⟨_, rfl⟩
  have hb : Below w.heap.size w W1 := by rw [← hW1]; exact (Below.refl _ w).alloc (Nat.le_refl _) _
  have hnew : W1.heap[w.heap.size]? = some (.cells #[.int .i64 o0, .int .i64 o1, .int .i64 o2, .bool o3, .int .i64 o4, .int .i64 o5, .int .i32 o6] 34 (0, 0)) := by rw [← hW1]; exact heap_new w _
  have HB := Lib.hid hb
  have HO : Aside0 (∀ W, Below W1.heap.size W1 W → W.cell? ⟨w.heap.size, 0, none⟩ = some (.int .i64 o0) ∧ W.cell? ⟨w.heap.size, 1, none⟩ = some (.int .i64 o1) ∧ W.cell? ⟨w.heap.size, 2, none⟩ = some (.int .i64 o2) ∧ W.cell? ⟨w.heap.size, 4, none⟩ = some (.int .i64 o4) ∧ W.cell? ⟨w.heap.size, 5, none⟩ = some (.int .i64 o5)) :=
    ⟨fun W hb2 => ⟨(hb2.cell (lt_of hnew)).trans ((cell_of hnew 0).trans rfl), (hb2.cell (lt_of hnew)).trans ((cell_of hnew 1).trans rfl), (hb2.cell (lt_of hnew)).trans ((cell_of hnew 2).trans rfl), (hb2.cell (lt_of hnew)).trans ((cell_of hnew 4).trans rfl), (hb2.cell (lt_of hnew)).trans ((cell_of hnew 5).trans rfl)⟩⟩
  simp only at hr2 h1 h2 h3 h5
  have hw1 : IntKind.i64.wrap (o2 - 1) = o2 - 1 := by rw [IntKind.wrap_i64]; omega
  have hge : ¬ o2 ≤ kn := h1
  have hq : (kn == o2 - 1) = true := by simpa using h2
  have hq2 : (kn != o2 - 1) = false := by simpa using h2
  subst h3
  clear h hb K1 hnew hkn hhs hr h2
  subst hW1
  go_enter Try.func33, Try.ntmps33
  go_wp2_with (first
    | (go_at_call 55; refine (HK.out _).mono ?_; rintro e w2 ⟨rfl, hb⟩; have HB2 := Lib.hid hb; have HBW := Lib.hid (below_step HB.out hb); obtain ⟨s0, s1, s2, s4, s5⟩ := HO.out _ hb; clear hb)
    | (go_at_call 56; refine (K2.out _ HBW.out).mono ?_; rintro e w3 ⟨rfl, rfl⟩)
    | (go_at_call 36; refine (K3.out _ HBW.out).mono ?_; rintro e w4 ⟨rfl, hb⟩; have HB4 := Lib.hid (below_step HB2.out hb); obtain ⟨t0, t1, t2, t4, t5⟩ := HO.out _ HB4.out; clear hb))
  go_ret2
  exact ⟨rfl, below_step HB.out HB4.out⟩
set_option maxHeartbeats 4000000 in
set_option maxRecDepth 100000 in
theorem gput_ctr0 (w : World) (q : Nat) (L : List S34) (o : S34) (A : Option Addr) (c : Nat) (h : PutW w q L o A c) (hr : rightS o) (h1 : ¬ o.f1 ≤ (knownR L o.f0.f1).1) (h2 : (knownR L o.f0.f1).1 = o.f1 - 1) (h3 : hasR L o.f3 = false) (h4 : idq o.f3 zid = true) (h5 : o.f0.f0 ≤ (knownR L o.f0.f1).2) : Calls Try.prog 33 #[.pointer (some ⟨q, 0, none⟩), opV o] w fun e w' => e = .returned (.tuple #[.bool false, .int .i64 1]) ∧ Below w.heap.size w w' := by
  have K1 := right12_is o
  rw [decide_eq_true hr] at K1
  have HK := Lib.hid K1
  have hr2 := (show 1 ≤ o.f1 ∧ o.f1 ≤ 4294967295 from ⟨hr.2.1, hr.2.2.1⟩)
  obtain ⟨kn, kc, hkn⟩ : ∃ kn kc, knownR L o.f0.f1 = (kn, kc) := ⟨_, _, rfl⟩
  have K2 := Lib.hid (fun W (hb : Below w.heap.size w W) => known_calls W q L A c o.f0.f1 ((hb.cell (World.block_lt_of_cell? w _ h.cell)).trans h.cell) (Kd.C_below h.row hb) h.cap h.len)
  have K3 := Lib.hid (fun W (hb : Below w.heap.size w W) => ghas_calls W q L A c o.f3 ((hb.cell (World.block_lt_of_cell? w _ h.cell)).trans h.cell) (Kd.C_below h.row hb) h.cap h.len)
  rw [hkn] at K2 h1 h2 h5
  obtain ⟨hs, hhs⟩ : ∃ hs, hasR L o.f3 = hs := ⟨_, rfl⟩
  rw [hhs] at K3 h3
  obtain ⟨⟨o0, o1⟩, o2, o3, ⟨o4, o5⟩, o6⟩ := o
  unfold opV at *
  obtain ⟨W1, hW1⟩ : ∃ W1, w.alloc (.cells #[.int .i64 o0, .int .i64 o1, .int .i64 o2, .bool o3, .int .i64 o4, .int .i64 o5, .int .i32 o6] 34) = W1 := ⟨_, rfl⟩
  have hb : Below w.heap.size w W1 := by rw [← hW1]; exact (Below.refl _ w).alloc (Nat.le_refl _) _
  have hnew : W1.heap[w.heap.size]? = some (.cells #[.int .i64 o0, .int .i64 o1, .int .i64 o2, .bool o3, .int .i64 o4, .int .i64 o5, .int .i32 o6] 34 (0, 0)) := by rw [← hW1]; exact heap_new w _
  have HB := Lib.hid hb
  have HO : Aside0 (∀ W, Below W1.heap.size W1 W → W.cell? ⟨w.heap.size, 0, none⟩ = some (.int .i64 o0) ∧ W.cell? ⟨w.heap.size, 1, none⟩ = some (.int .i64 o1) ∧ W.cell? ⟨w.heap.size, 2, none⟩ = some (.int .i64 o2) ∧ W.cell? ⟨w.heap.size, 4, none⟩ = some (.int .i64 o4) ∧ W.cell? ⟨w.heap.size, 5, none⟩ = some (.int .i64 o5)) :=
    ⟨fun W hb2 => ⟨(hb2.cell (lt_of hnew)).trans ((cell_of hnew 0).trans rfl), (hb2.cell (lt_of hnew)).trans ((cell_of hnew 1).trans rfl), (hb2.cell (lt_of hnew)).trans ((cell_of hnew 2).trans rfl), (hb2.cell (lt_of hnew)).trans ((cell_of hnew 4).trans rfl), (hb2.cell (lt_of hnew)).trans ((cell_of hnew 5).trans rfl)⟩⟩
  simp only at hr2 h1 h2 h3 h5
  have hw1 : IntKind.i64.wrap (o2 - 1) = o2 - 1 := by rw [IntKind.wrap_i64]; omega
  have hge : ¬ o2 ≤ kn := h1
  have hq : (kn == o2 - 1) = true := by simpa using h2
  have hq2 : (kn != o2 - 1) = false := by simpa using h2
  subst h3
  have hz : (o4 == 0 && o5 == 0) = true := h4
  clear h hb K1 hnew hkn hhs hr h2
  subst hW1
  go_enter Try.func33, Try.ntmps33
  go_wp2_with (first
    | (go_at_call 55; refine (HK.out _).mono ?_; rintro e w2 ⟨rfl, hb⟩; have HB2 := Lib.hid hb; have HBW := Lib.hid (below_step HB.out hb); obtain ⟨s0, s1, s2, s4, s5⟩ := HO.out _ hb; clear hb)
    | (go_at_call 56; refine (K2.out _ HBW.out).mono ?_; rintro e w3 ⟨rfl, rfl⟩)
    | (go_at_call 36; refine (K3.out _ HBW.out).mono ?_; rintro e w4 ⟨rfl, hb⟩; have HB4 := Lib.hid (below_step HB2.out hb); obtain ⟨t0, t1, t2, t4, t5⟩ := HO.out _ HB4.out; clear hb))
  go_ret2
  exact ⟨rfl, below_step HB.out HB4.out⟩
end Go.Proofs.Ytehdjdediobemaa.PC
namespace Go.Proofs.Ytehdjdediobemaa.PC
open Go.RowKit Go.Proofs.YtehdjdediobemaaW.PrintWords Go.Proofs.YtehdjdediobemaaW.PrintLast Go.Proofs.YtehdjdediobemaaW.PrintMore Go.Proofs.Ytehdjdediobemaa.K Go.Proofs.Ytehdjdediobemaa.IX Go.Proofs.Ytehdjdediobemaa.I
set_option linter.unusedVariables false
set_option linter.unusedSimpArgs false
theorem lit0 (e : Nat) (W : World) : Kd.R k34 e (W.alloc (.cells #[] e)) W.heap.size (fun _ => True) (.slice (some ⟨W.heap.size, 0, none⟩) 0 0) [] := by
  have h := World.ownsRow_lit (base := W.heap.size) (e := e) (size := k34.sz) W #[] 0 (Nat.le_refl _) (by unfold maxLen; omega) (by simp)
  have h2 : (W.alloc (.cells #[] e)).ownsRow W.heap.size e k34.sz (.slice (some ⟨W.heap.size, 0, none⟩) 0 0) ([] : List S34).length (([] : List S34).flatMap flO) := by simpa using h
  exact flat_Op.R h2
theorem below_grown {W0 W w1 : World} {row : Option Nat} (h : Below W0.heap.size W0 W) (hg : W.grownBy w1 row) (hr : ∀ g, row = some g → W0.heap.size ≤ g) : Below W0.heap.size W0 w1 := by
  have hf : Fr row.toList W w1 := Fr.of_grown hg (fun g hg2 => by rw [hg2]; simp)
  refine hf.below h fun x hx => ?_
  cases row with
  | none => cases hx
  | some g => rw [Option.toList_some, List.mem_singleton] at hx; rw [hx]; exact hr g rfl
/-- The first append: a new row with all of L. -/
theorem app1_fact {W0 W : World} {A : Option Addr} {c e1 : Nat} {L : List S34} (hr : Kd.C k34 W0 A L.length L) (hc : L.length ≤ c) (hl : L.length ≤ 1000000) (hb : Below W0.heap.size W0 W) (he : W0.heap.size ≤ e1) (h1 : Rw k34 34 W (.slice (some ⟨e1, 0, none⟩) 0 0) []) :
    ∃ B n c' w6, (Builtin.append_ #[38, 38] 38 #[.slice (some ⟨e1, 0, none⟩) 0 0, .slice A L.length c]).run Try.prog W = .ok (.slice B n c') w6 ∧ Rw k34 34 w6 (.slice B n c') L ∧ Below W0.heap.size W0 w6 ∧ (∀ k ∈ ob (.slice B n c'), W0.heap.size ≤ k) ∧ (∀ k, k < W.heap.size → k ≠ e1 → w6.heap[k]? = W.heap[k]?) ∧ W.heap.size ≤ w6.heap.size := by
  obtain ⟨B, n, c', w6, k1, k2, k3, k4, k5⟩ := appRow flat_Op (t := 38) (e := 34) (bytes := 56) Try.underlying38 info34 rfl (by decide) W _ [] h1 A c L (Kd.C_below hr hb) hc (by simp only [List.length_nil]; omega) 38
  rw [List.nil_append] at k3
  refine ⟨B, n, c', w6, k1, k3, below_grown hb k4 (fun g hg => by simp only [Value.ownBlock, Option.some.injEq] at hg; omega), fun k hk => ?_, fun k hk hn => k4.block k hk (fun e => hn (by simp only [Value.ownBlock, Option.some.injEq] at e; exact e)), k4.size⟩
  rcases k5 k hk with q | q
  · have := mem_ob.1 q
    simp only [Value.ownBlock, Option.some.injEq] at this
    omega
  · have := hb.size; omega
/-- The second: the operation behind them. -/
theorem app2_fact {W0 W : World} {v6 : Value} {vb : Nat} {L : List S34} {o : S34} (hl : L.length ≤ 1000000) (hb : Below W0.heap.size W0 W) (h6 : Rw k34 34 W v6 L) (ho : ∀ k ∈ ob v6, W0.heap.size ≤ k) (hv : W.heap[vb]? = some (opCells o)) :
    ∃ B n c' w9, (Builtin.append_ #[38, 38] 38 #[v6, .slice (some ⟨vb, 0, none⟩) 1 1]).run Try.prog W = .ok (.slice B n c') w9 ∧ Rw k34 34 w9 (.slice B n c') (L ++ [o]) ∧ Below W0.heap.size W0 w9 ∧ ∀ k ∈ ob (.slice B n c'), W0.heap.size ≤ k := by
  obtain ⟨v', w', k1, k2, k3, k4⟩ := app_op W v6 L vb o h6 hv hl 38
  obtain ⟨B, c', rfl⟩ := Kd.R_slice k2
  refine ⟨B, _, c', w', k1, k2, below_grown hb k3 (fun g hg => ho g (mem_ob.2 hg.symm)), fun k hk => ?_⟩
  rcases k4 k hk with q | q
  · exact ho k q
  · have := hb.size; omega
def RefFin (w : World) (F : List Nat) (q : Nat) (L : List S34) (w' : World) : Prop := ∃ F', isRef q L w' F' ∧ Fr F w w' ∧ ∀ k ∈ F', k ∈ F ∨ w.heap.size ≤ k
/-- Behind the store. -/
theorem ref_store {w W0 w9 : World} {F : List Nat} {q : Nat} {L L' : List S34} {B : Option Addr} {n c' : Nat} (h : isRef q L w F) (h0 : Below w.heap.size w W0) (h9 : Below W0.heap.size W0 w9) (hr : Rw k34 34 w9 (.slice B n c') L') (ho : ∀ k ∈ ob (.slice B n c'), W0.heap.size ≤ k) : RefFin w F q L' (w9.setCell ⟨q, 0, none⟩ (.slice B n c')) := by
  obtain ⟨v, h1, h2, rfl⟩ := h
  have hq := lt_of h1
  have hs := h0.size
  have hb := below_step h0 h9
  have hq9 : w9.heap[q]? = some (.cells #[v] 61 (0, 0)) := (hb.block q hq).trans h1
  refine ⟨q :: ob (.slice B n c'), ⟨_, (heap_set w9 q 0 _ hq9).trans rfl, hr.keep fun k hk => heap_far _ ⟨q, 0, none⟩ _ (fun e => by have e : k = q := e; have := ho k hk; omega), rfl⟩, ?_, fun k hk => ?_⟩
  · exact (Fr.of_below (F := q :: ob v) hb).trans (Fr.of_set (F := q :: ob v) w9 ⟨q, 0, none⟩ _ (by simp)) (fun _ h => .inl h)
  · rcases List.mem_cons.1 hk with rfl | hk
    · exact .inl (by simp)
    · have := ho k hk
      exact .inr (by omega)
end Go.Proofs.Ytehdjdediobemaa.PC
namespace Go.Proofs.Ytehdjdediobemaa.K
open Go
set_option linter.unusedVariables false
section
variable {P : Program} {ops : Array Oper} {Q : Exit → Act → World → Prop} {md : Region.Mode} {S : World → Prop} {z : Nat}
theorem twoZ {i j fuel : Nat} {oi oj : Oper} {ri rj : List Oper} {listed : Array Bool} {a : Act} {w : World} (hd : ops.toList.drop i = oi :: ri) (hd2 : ops.toList.drop j = oj :: rj) (hr : Region.ready md ops listed = [i, j]) (hg : oi.guard = none) (hg2 : oj.guard = none)
    (h : ∀ K : Act → World → Prop, (∀ a' w', S w' → ZG P md ops Q S z fuel (listed.setIfInBounds i true) a' w' → K a' w') → Oper.wp P oi a w K Q)
    (h2 : ∀ K : Act → World → Prop, (∀ a' w', S w' → ZG P md ops Q S z fuel (listed.setIfInBounds j true) a' w' → K a' w') → Oper.wp P oj a w K Q) : ZG P md ops Q S z (fuel + 1) listed a w := fun inv => by
  have hi := drop_get hd
  have hj := drop_get hd2
  have hri : i ∈ Region.ready md ops listed := by rw [hr]; simp
  have hrj : j ∈ Region.ready md ops listed := by rw [hr]; simp
  refine ⟨fun h => (by rw [hr] at h; cases h), fun k hk => ?_⟩
  rw [hr] at hk
  rcases List.mem_cons.1 hk with rfl | hk
  · unfold wpOp
    simp only [hi]
    have hw : Region.wanted oi (yielded ops a.tmps) = true := by simp [Region.wanted, hg]
    rw [if_pos hw]
    exact .inl (h _ fun a' w' h1 h2 => ⟨fun _ => h1, h2 (inv.set hri (Array.getElem?_eq_some_iff.1 hi).1)⟩)
  · obtain rfl : k = j := by simpa using hk
    unfold wpOp
    simp only [hj]
    have hw : Region.wanted oj (yielded ops a.tmps) = true := by simp [Region.wanted, hg2]
    rw [if_pos hw]
    exact .inl (h2 _ fun a' w' h1 h2 => ⟨fun _ => h1, h2 (inv.set hrj (Array.getElem?_eq_some_iff.1 hj).1)⟩)
end
end Go.Proofs.Ytehdjdediobemaa.K
namespace Go.Proofs.Ytehdjdediobemaa.PC
open Go.RowKit Go.Proofs.YtehdjdediobemaaW.PrintWords Go.Proofs.YtehdjdediobemaaW.PrintLast Go.Proofs.YtehdjdediobemaaW.PrintMore Go.Proofs.Ytehdjdediobemaa.K Go.Proofs.Ytehdjdediobemaa.IX Go.Proofs.Ytehdjdediobemaa.I
attribute [local go_sem] max2_int min2_int max_two min_two max_three min_three max_four min_four
attribute [local go_sem high] eqA31
set_option linter.unusedVariables false
set_option linter.unusedSimpArgs false
set_option maxHeartbeats 4000000 in
set_option maxRecDepth 100000 in
theorem gput_take (w : World) (q : Nat) (L : List S34) (o : S34) (F : List Nat) (hi : isRef q L w F) (hl : L.length ≤ 100000) (hr : rightS o) (h1 : ¬ o.f1 ≤ (knownR L o.f0.f1).1) (h2 : (knownR L o.f0.f1).1 = o.f1 - 1) (h3 : hasR L o.f3 = true) (h5 : ¬ o.f0.f0 ≤ (knownR L o.f0.f1).2) : Calls Try.prog 33 #[.pointer (some ⟨q, 0, none⟩), opV o] w fun e w' => e = .returned (.tuple #[.bool true, .int .i64 0]) ∧ RefFin w F q (L ++ [o]) w' := by
  obtain ⟨A, c, hcell, hcap, hrow⟩ := ref_read hi
  have h : PutW w q L o A c := ⟨hcell, hcap, hrow, by omega⟩
  have HISR := Lib.hid hi
  have HROW := Lib.hid (And.intro hcell (And.intro hcap hrow))
  have HLL := Lib.hid hl
  have K1 := right12_is o
  rw [decide_eq_true hr] at K1
  have HK := Lib.hid K1
  have hr2 := (show 1 ≤ o.f1 ∧ o.f1 ≤ 4294967295 from ⟨hr.2.1, hr.2.2.1⟩)
  obtain ⟨kn, kc, hkn⟩ : ∃ kn kc, knownR L o.f0.f1 = (kn, kc) := ⟨_, _, rfl⟩
  have K2 := Lib.hid (fun W (hb : Below w.heap.size w W) => known_calls W q L A c o.f0.f1 ((hb.cell (World.block_lt_of_cell? w _ h.cell)).trans h.cell) (Kd.C_below h.row hb) h.cap h.len)
  have K3 := Lib.hid (fun W (hb : Below w.heap.size w W) => ghas_calls W q L A c o.f3 ((hb.cell (World.block_lt_of_cell? w _ h.cell)).trans h.cell) (Kd.C_below h.row hb) h.cap h.len)
  rw [hkn] at K2 h1 h2 h5
  obtain ⟨hs, hhs⟩ : ∃ hs, hasR L o.f3 = hs := ⟨_, rfl⟩
  rw [hhs] at K3 h3
  obtain ⟨⟨o0, o1⟩, o2, o3, ⟨o4, o5⟩, o6⟩ := o
  unfold opV at *
  obtain ⟨W1, hW1⟩ : ∃ W1, w.alloc (.cells #[.int .i64 o0, .int .i64 o1, .int .i64 o2, .bool o3, .int .i64 o4, .int .i64 o5, .int .i32 o6] 34) = W1 := ⟨_, rfl⟩
  have hb : Below w.heap.size w W1 := by rw [← hW1]; exact (Below.refl _ w).alloc (Nat.le_refl _) _
  have hnew : W1.heap[w.heap.size]? = some (.cells #[.int .i64 o0, .int .i64 o1, .int .i64 o2, .bool o3, .int .i64 o4, .int .i64 o5, .int .i32 o6] 34 (0, 0)) := by rw [← hW1]; exact heap_new w _
  have HB := Lib.hid hb
  have HO : Aside0 (∀ W, Below W1.heap.size W1 W → W.cell? ⟨w.heap.size, 0, none⟩ = some (.int .i64 o0) ∧ W.cell? ⟨w.heap.size, 1, none⟩ = some (.int .i64 o1) ∧ W.cell? ⟨w.heap.size, 2, none⟩ = some (.int .i64 o2) ∧ W.cell? ⟨w.heap.size, 4, none⟩ = some (.int .i64 o4) ∧ W.cell? ⟨w.heap.size, 5, none⟩ = some (.int .i64 o5)) :=
    ⟨fun W hb2 => ⟨(hb2.cell (lt_of hnew)).trans ((cell_of hnew 0).trans rfl), (hb2.cell (lt_of hnew)).trans ((cell_of hnew 1).trans rfl), (hb2.cell (lt_of hnew)).trans ((cell_of hnew 2).trans rfl), (hb2.cell (lt_of hnew)).trans ((cell_of hnew 4).trans rfl), (hb2.cell (lt_of hnew)).trans ((cell_of hnew 5).trans rfl)⟩⟩
  simp only at hr2 h1 h2 h3 h5
  have hw1 : IntKind.i64.wrap (o2 - 1) = o2 - 1 := by rw [IntKind.wrap_i64]; omega
  have hge : ¬ o2 ≤ kn := h1
  have hq : (kn == o2 - 1) = true := by simpa using h2
  have hq2 : (kn != o2 - 1) = false := by simpa using h2
  subst h3
  clear h hb K1 hkn hhs hr h2 hcell hcap hrow hi hl
  have HBLK : Aside0 (∀ W, Below W1.heap.size W1 W → W.heap[w.heap.size]? = some (opCells ⟨⟨o0, o1⟩, o2, o3, ⟨o4, o5⟩, o6⟩)) := ⟨fun W hb2 => (hb2.block _ (lt_of hnew)).trans hnew⟩
  clear hnew
  subst hW1
  go_enter Try.func33, Try.ntmps33
  go_wp2_with (first
    | (go_at_call 55; refine (HK.out _).mono ?_; rintro e w2 ⟨rfl, hb⟩; have HB2 := Lib.hid hb; have HBW := Lib.hid (below_step HB.out hb); obtain ⟨s0, s1, s2, s4, s5⟩ := HO.out _ hb; clear hb)
    | (go_at_call 56; refine (K2.out _ HBW.out).mono ?_; rintro e w3 ⟨rfl, rfl⟩)
    | (go_at_call 36; refine (K3.out _ HBW.out).mono ?_; rintro e w4 ⟨rfl, hb⟩; have HB4 := Lib.hid (below_step HB2.out hb); obtain ⟨t0, t1, t2, t4, t5⟩ := HO.out _ HB4.out; clear hb))
  have HW0 := Lib.hid (below_step HB.out HB4.out)
  have HZG := Lib.hid (fun W (hb : Below w4.heap.size w4 W) => show (W.cell? ⟨w.heap.size, 0, none⟩ = some (.int .i64 o0) ∧ W.cell? ⟨w.heap.size, 1, none⟩ = some (.int .i64 o1) ∧ W.cell? ⟨w.heap.size, 2, none⟩ = some (.int .i64 o2) ∧ W.cell? ⟨w.heap.size, 3, none⟩ = some (.bool o3) ∧ W.cell? ⟨w.heap.size, 4, none⟩ = some (.int .i64 o4) ∧ W.cell? ⟨w.heap.size, 5, none⟩ = some (.int .i64 o5) ∧ W.cell? ⟨w.heap.size, 6, none⟩ = some (.int .i32 o6)) ∧ W.cell? ⟨q, 0, none⟩ = some (.slice A L.length c) from by
    have hk := HBLK.out W (below_step HB4.out hb)
    exact ⟨⟨(cell_of hk 0).trans rfl, (cell_of hk 1).trans rfl, (cell_of hk 2).trans rfl, (cell_of hk 3).trans rfl, (cell_of hk 4).trans rfl, (cell_of hk 5).trans rfl, (cell_of hk 6).trans rfl⟩, ((below_step HW0.out hb).cell (World.block_lt_of_cell? w _ HROW.out.1)).trans HROW.out.1⟩)
  have HRW := Lib.hid (Kd.C_below HROW.out.2.2 HW0.out)
  have hqc : ∀ W, Below w4.heap.size w4 W → W.cell? ⟨q, 0, none⟩ = some (.slice A L.length c) ∧ W.frozen? ⟨q, 0, none⟩ = false := fun W hb => by
    obtain ⟨v, x1, x2, x3⟩ := HISR.out
    have hq := ((below_step HW0.out hb).block q (lt_of x1)).trans x1
    exact ⟨(HZG.out W hb).2, free_of hq 0⟩
  have HQC := Lib.hid hqc
  have bE : Below w4.heap.size w4 ((w4.alloc (.cells #[] 34)).drew) := ((Below.refl _ w4).alloc (Nat.le_refl _) _).drew
  have bO : Below w4.heap.size w4 ((w4.alloc (.cells #[.int .i64 o0, .int .i64 o1, .int .i64 o2, .bool o3, .int .i64 o4, .int .i64 o5, .int .i32 o6] 34)).drew) := ((Below.refl _ w4).alloc (Nat.le_refl _) _).drew
  have bEO : Below w4.heap.size w4 (((w4.alloc (.cells #[] 34)).alloc (.cells #[.int .i64 o0, .int .i64 o1, .int .i64 o2, .bool o3, .int .i64 o4, .int .i64 o5, .int .i32 o6] 34)).drew) := (((Below.refl _ w4).alloc (Nat.le_refl _) _).alloc (by rw [alloc_sz]; omega) _).drew
  have bOE : Below w4.heap.size w4 (((w4.alloc (.cells #[.int .i64 o0, .int .i64 o1, .int .i64 o2, .bool o3, .int .i64 o4, .int .i64 o5, .int .i32 o6] 34)).alloc (.cells #[] 34)).drew) := (((Below.refl _ w4).alloc (Nat.le_refl _) _).alloc (by rw [alloc_sz]; omega) _).drew
  have HE := Lib.hid bE
  have HO2 := Lib.hid bO
  have HEO := Lib.hid bEO
  have HOE := Lib.hid bOE
  -- the empty literal first, then the row, then the operation
  obtain ⟨B1, n1, d1, x6, e6, r6, b6, o6', k6, z6⟩ := app1_fact HRW.out HROW.out.2.1 (by have := HLL.out; omega) bE (Nat.le_refl _) (Rw.of rfl (lit0 34 w4))
  have b68 : Below w4.heap.size w4 (x6.alloc (.cells #[.int .i64 o0, .int .i64 o1, .int .i64 o2, .bool o3, .int .i64 o4, .int .i64 o5, .int .i32 o6] 34)) := b6.alloc b6.size _
  obtain ⟨B2, n2, d2, x9, e9, r9, b9, o9⟩ := app2_fact (o := ⟨⟨o0, o1⟩, o2, o3, ⟨o4, o5⟩, o6⟩) (by have := HLL.out; omega) b68 (r6.keep fun k hk => heap_old _ _ (r6.lt k hk)) o6' (heap_new x6 _)
  -- both literals, then the row
  have rEO : Rw k34 34 (((w4.alloc (.cells #[] 34)).alloc (.cells #[.int .i64 o0, .int .i64 o1, .int .i64 o2, .bool o3, .int .i64 o4, .int .i64 o5, .int .i32 o6] 34)).drew) (.slice (some ⟨w4.heap.size, 0, none⟩) 0 0) [] := (Rw.of rfl (lit0 34 w4)).keep fun k hk => heap_old _ _ (by rw [alloc_sz]; have := mem_ob.1 hk; simp only [Value.ownBlock, Option.some.injEq] at this; omega)
  obtain ⟨B3, n3, d3, y6, f6, s6, c6, p6, l6, m6⟩ := app1_fact HRW.out HROW.out.2.1 (by have := HLL.out; omega) bEO (Nat.le_refl _) rEO
  have vEO : y6.heap[w4.heap.size + 1]? = some (opCells ⟨⟨o0, o1⟩, o2, o3, ⟨o4, o5⟩, o6⟩) := (l6 _ (show w4.heap.size + 1 < ((w4.alloc (.cells #[] 34)).alloc (.cells #[.int .i64 o0, .int .i64 o1, .int .i64 o2, .bool o3, .int .i64 o4, .int .i64 o5, .int .i32 o6] 34)).heap.size by rw [alloc_sz, alloc_sz]; omega) (show w4.heap.size + 1 ≠ w4.heap.size by omega)).trans (by
    have := heap_new (w4.alloc (.cells #[] 34)) (.cells #[.int .i64 o0, .int .i64 o1, .int .i64 o2, .bool o3, .int .i64 o4, .int .i64 o5, .int .i32 o6] 34)
    rw [alloc_sz] at this
    exact this)
  obtain ⟨B4, n4, d4, y9, f9, s9, c9, p9⟩ := app2_fact (o := ⟨⟨o0, o1⟩, o2, o3, ⟨o4, o5⟩, o6⟩) (by have := HLL.out; omega) c6 s6 p6 vEO
  -- the operation's literal first
  have rOE : Rw k34 34 (((w4.alloc (.cells #[.int .i64 o0, .int .i64 o1, .int .i64 o2, .bool o3, .int .i64 o4, .int .i64 o5, .int .i32 o6] 34)).alloc (.cells #[] 34)).drew) (.slice (some ⟨w4.heap.size + 1, 0, none⟩) 0 0) [] := by
    have := Rw.of rfl (lit0 34 (w4.alloc (.cells #[.int .i64 o0, .int .i64 o1, .int .i64 o2, .bool o3, .int .i64 o4, .int .i64 o5, .int .i32 o6] 34)))
    rw [alloc_sz] at this
    exact this
  obtain ⟨B5, n5, d5, z6', g6, t6, q6, u6, v6', w6'⟩ := app1_fact HRW.out HROW.out.2.1 (by have := HLL.out; omega) bOE (show w4.heap.size ≤ w4.heap.size + 1 by omega) rOE
  have vOE : z6'.heap[w4.heap.size]? = some (opCells ⟨⟨o0, o1⟩, o2, o3, ⟨o4, o5⟩, o6⟩) := (v6' _ (show w4.heap.size < ((w4.alloc (.cells #[.int .i64 o0, .int .i64 o1, .int .i64 o2, .bool o3, .int .i64 o4, .int .i64 o5, .int .i32 o6] 34)).alloc (.cells #[] 34)).heap.size by rw [alloc_sz, alloc_sz]; omega) (by omega)).trans ((heap_old _ _ (by rw [alloc_sz]; omega)).trans (heap_new w4 _))
  obtain ⟨B7, n7, d7, z9, g9, t9, q9, u9⟩ := app2_fact (o := ⟨⟨o0, o1⟩, o2, o3, ⟨o4, o5⟩, o6⟩) (by have := HLL.out; omega) q6 t6 u6 vOE
  have PA := Lib.hid (And.intro e6 (And.intro e9 (And.intro b6 (And.intro b68 (And.intro b9 (And.intro r9 o9))))))
  have PB := Lib.hid (And.intro f6 (And.intro f9 (And.intro c6 (And.intro c9 (And.intro s9 p9)))))
  have PC' := Lib.hid (And.intro g6 (And.intro g9 (And.intro q6 (And.intro q9 (And.intro t9 u9)))))
  have QA := hqc x9 b9
  have QB := hqc y9 c9
  have QC := hqc z9 q9
  obtain ⟨qa1, qa2⟩ := QA
  obtain ⟨qb1, qb2⟩ := QB
  obtain ⟨qc1, qc2⟩ := QC
  clear hqc bE bO bEO bOE e6 r6 b6 o6' k6 z6 b68 e9 r9 b9 o9 rEO f6 s6 c6 p6 l6 m6 vEO f9 s9 c9 p9 rOE g6 t6 q6 u6 v6' w6' vOE g9 t9 q9 u9
  refine startZ (z := 9) (S := (fun W => (W.cell? ⟨w.heap.size, 0, none⟩ = some (.int .i64 o0) ∧ W.cell? ⟨w.heap.size, 1, none⟩ = some (.int .i64 o1) ∧ W.cell? ⟨w.heap.size, 2, none⟩ = some (.int .i64 o2) ∧ W.cell? ⟨w.heap.size, 3, none⟩ = some (.bool o3) ∧ W.cell? ⟨w.heap.size, 4, none⟩ = some (.int .i64 o4) ∧ W.cell? ⟨w.heap.size, 5, none⟩ = some (.int .i64 o5) ∧ W.cell? ⟨w.heap.size, 6, none⟩ = some (.int .i32 o6)) ∧ W.cell? ⟨q, 0, none⟩ = some (.slice A L.length c))) (by kernel_rfl) ?_
  show ZG _ _ _ _ _ _ 13 _ _ _
  refine takeW (i := 0) (v := ?_) rfl (by kernel_rfl) (by kernel_rfl) (by kernel_rfl) (by decide) (fun _ _ _ h => h) rfl (by exact HZG.out _ (Below.refl _ _).drew) ?_ ?_
  rotate_left
  · intro wq; go_simp; try (with_reducible rfl)
  try simp only [Act.put, List.setIfInBounds_toArray, List.set_cons_zero, List.set_cons_succ]
  refine takeW (i := 2) (v := ?_) rfl (by kernel_rfl) (by kernel_rfl) (by kernel_rfl) (by decide) (fun _ _ _ h => h) rfl (by exact HZG.out _ (Below.refl _ _).drew) ?_ ?_
  rotate_left
  · intro wq; go_simp; try (with_reducible rfl)
  try simp only [Act.put, List.setIfInBounds_toArray, List.set_cons_zero, List.set_cons_succ]
  refine takeW (i := 3) (v := ?_) rfl (by kernel_rfl) (by kernel_rfl) (by kernel_rfl) (by decide) (fun _ _ _ h => h) rfl (by exact HZG.out _ (Below.refl _ _).drew) ?_ ?_
  rotate_left
  · intro wq; go_simp; try (with_reducible rfl)
  try simp only [Act.put, List.setIfInBounds_toArray, List.set_cons_zero, List.set_cons_succ]
  refine takeW (i := 4) (v := ?_) rfl (by kernel_rfl) (by kernel_rfl) (by kernel_rfl) (by decide) (fun _ _ _ h => h) rfl (by exact HZG.out _ (Below.refl _ _).drew) ?_ ?_
  rotate_left
  · intro wq; go_simp; try (with_reducible rfl)
  try simp only [Act.put, List.setIfInBounds_toArray, List.set_cons_zero, List.set_cons_succ]
  refine takeZ (i := 5) (f0 := 6) (v := ?_) rfl (by kernel_rfl) (by kernel_rfl) (by kernel_rfl) (by decide) (by kernel_rfl) (fun _ _ _ h => h) rfl (by exact HZG.out _ (Below.refl _ _).drew) ?_ ?_
  rotate_left
  · intro wq hSw; (try dsimp only at hSw); go_split_ands; go_simp; try (with_reducible rfl)
  try simp only [Act.put, List.setIfInBounds_toArray, List.set_cons_zero, List.set_cons_succ]
  refine takeZ (i := 7) (f0 := 6) (v := ?_) rfl (by kernel_rfl) (by kernel_rfl) (by kernel_rfl) (by decide) (by kernel_rfl) (fun _ _ _ h => h) rfl (by exact HZG.out _ (Below.refl _ _).drew) ?_ ?_
  rotate_left
  · intro wq hSw; (try dsimp only at hSw); go_split_ands; go_simp; try (with_reducible rfl)
  try simp only [Act.put, List.setIfInBounds_toArray, List.set_cons_zero, List.set_cons_succ]
  refine twoZ (i := 1) (j := 8) rfl rfl (by kernel_rfl) rfl rfl (fun K hK => ?_) (fun K hK => ?_)
  · go_simp
    refine hK _ _ (by exact HZG.out _ HE.out) ?_
    clear hK K
    try simp only [Act.put, List.setIfInBounds_toArray, List.set_cons_zero, List.set_cons_succ]
    refine twoZ (i := 6) (j := 8) rfl rfl (by kernel_rfl) rfl rfl (fun K hK => ?_) (fun K hK => ?_)
    · refine Lib.wp_append_run _ _ _ _ _ (by rfl) _ _ (by rfl) (by rfl) _ _ PA.out.1 ?_
      refine hK _ _ (by exact HZG.out _ PA.out.2.2.1) ?_
      clear hK K
      try simp only [Act.put, List.setIfInBounds_toArray, List.set_cons_zero, List.set_cons_succ]
      refine oneZ (i := 8) rfl (by kernel_rfl) rfl (fun K hK => ?_)
      go_simp
      refine hK _ _ (by exact HZG.out _ PA.out.2.2.2.1) ?_
      clear hK K
      try simp only [Act.put, List.setIfInBounds_toArray, List.set_cons_zero, List.set_cons_succ]
      refine seqZ (l := _ :: _) rfl rfl (by kernel_rfl) (by decide) ?_
      go_wp2_with (at_builtin; refine Lib.wpList_append_run _ rfl _ _ _ _ rfl _ _ rfl rfl _ _ PA.out.2.1 ?_)
      go_ret2
      exact ⟨rfl, ref_store HISR.out HW0.out PA.out.2.2.2.2.1 PA.out.2.2.2.2.2.1 PA.out.2.2.2.2.2.2⟩
    · go_simp
      refine hK _ _ (by exact HZG.out _ HEO.out) ?_
      clear hK K
      try simp only [Act.put, List.setIfInBounds_toArray, List.set_cons_zero, List.set_cons_succ]
      refine oneZ (i := 6) rfl (by kernel_rfl) rfl (fun K hK => ?_)
      refine Lib.wp_append_run _ _ _ _ _ (by rfl) _ _ (by rfl) (by rfl) _ _ PB.out.1 ?_
      refine hK _ _ (by exact HZG.out _ PB.out.2.2.1) ?_
      clear hK K
      try simp only [Act.put, List.setIfInBounds_toArray, List.set_cons_zero, List.set_cons_succ]
      refine seqZ (l := _ :: _) rfl rfl (by kernel_rfl) (by decide) ?_
      go_wp2_with (at_builtin; refine Lib.wpList_append_run _ rfl _ _ _ _ rfl _ _ rfl rfl _ _ PB.out.2.1 ?_)
      go_ret2
      exact ⟨rfl, ref_store HISR.out HW0.out PB.out.2.2.2.1 PB.out.2.2.2.2.1 PB.out.2.2.2.2.2⟩
  · go_simp
    refine hK _ _ (by exact HZG.out _ HO2.out) ?_
    clear hK K
    try simp only [Act.put, List.setIfInBounds_toArray, List.set_cons_zero, List.set_cons_succ]
    refine oneZ (i := 1) rfl (by kernel_rfl) rfl (fun K hK => ?_)
    go_simp
    refine hK _ _ (by exact HZG.out _ HOE.out) ?_
    clear hK K
    try simp only [Act.put, List.setIfInBounds_toArray, List.set_cons_zero, List.set_cons_succ]
    refine oneZ (i := 6) rfl (by kernel_rfl) rfl (fun K hK => ?_)
    refine Lib.wp_append_run _ _ _ _ _ (by rfl) _ _ (by rfl) (by rfl) _ _ PC'.out.1 ?_
    refine hK _ _ (by exact HZG.out _ PC'.out.2.2.1) ?_
    clear hK K
    try simp only [Act.put, List.setIfInBounds_toArray, List.set_cons_zero, List.set_cons_succ]
    refine seqZ (l := _ :: _) rfl rfl (by kernel_rfl) (by decide) ?_
    go_wp2_with (at_builtin; refine Lib.wpList_append_run _ rfl _ _ _ _ rfl _ _ rfl rfl _ _ PC'.out.2.1 ?_)
    go_ret2
    exact ⟨rfl, ref_store HISR.out HW0.out PC'.out.2.2.2.1 PC'.out.2.2.2.2.1 PC'.out.2.2.2.2.2⟩
set_option maxHeartbeats 4000000 in
set_option maxRecDepth 100000 in
theorem gput_take0 (w : World) (q : Nat) (L : List S34) (o : S34) (F : List Nat) (hi : isRef q L w F) (hl : L.length ≤ 100000) (hr : rightS o) (h1 : ¬ o.f1 ≤ (knownR L o.f0.f1).1) (h2 : (knownR L o.f0.f1).1 = o.f1 - 1) (h3 : hasR L o.f3 = false) (h4 : idq o.f3 zid = true) (h5 : ¬ o.f0.f0 ≤ (knownR L o.f0.f1).2) : Calls Try.prog 33 #[.pointer (some ⟨q, 0, none⟩), opV o] w fun e w' => e = .returned (.tuple #[.bool true, .int .i64 0]) ∧ RefFin w F q (L ++ [o]) w' := by
  obtain ⟨A, c, hcell, hcap, hrow⟩ := ref_read hi
  have h : PutW w q L o A c := ⟨hcell, hcap, hrow, by omega⟩
  have HISR := Lib.hid hi
  have HROW := Lib.hid (And.intro hcell (And.intro hcap hrow))
  have HLL := Lib.hid hl
  have K1 := right12_is o
  rw [decide_eq_true hr] at K1
  have HK := Lib.hid K1
  have hr2 := (show 1 ≤ o.f1 ∧ o.f1 ≤ 4294967295 from ⟨hr.2.1, hr.2.2.1⟩)
  obtain ⟨kn, kc, hkn⟩ : ∃ kn kc, knownR L o.f0.f1 = (kn, kc) := ⟨_, _, rfl⟩
  have K2 := Lib.hid (fun W (hb : Below w.heap.size w W) => known_calls W q L A c o.f0.f1 ((hb.cell (World.block_lt_of_cell? w _ h.cell)).trans h.cell) (Kd.C_below h.row hb) h.cap h.len)
  have K3 := Lib.hid (fun W (hb : Below w.heap.size w W) => ghas_calls W q L A c o.f3 ((hb.cell (World.block_lt_of_cell? w _ h.cell)).trans h.cell) (Kd.C_below h.row hb) h.cap h.len)
  rw [hkn] at K2 h1 h2 h5
  obtain ⟨hs, hhs⟩ : ∃ hs, hasR L o.f3 = hs := ⟨_, rfl⟩
  rw [hhs] at K3 h3
  obtain ⟨⟨o0, o1⟩, o2, o3, ⟨o4, o5⟩, o6⟩ := o
  unfold opV at *
  obtain ⟨W1, hW1⟩ : ∃ W1, w.alloc (.cells #[.int .i64 o0, .int .i64 o1, .int .i64 o2, .bool o3, .int .i64 o4, .int .i64 o5, .int .i32 o6] 34) = W1 := ⟨_, rfl⟩
  have hb : Below w.heap.size w W1 := by rw [← hW1]; exact (Below.refl _ w).alloc (Nat.le_refl _) _
  have hnew : W1.heap[w.heap.size]? = some (.cells #[.int .i64 o0, .int .i64 o1, .int .i64 o2, .bool o3, .int .i64 o4, .int .i64 o5, .int .i32 o6] 34 (0, 0)) := by rw [← hW1]; exact heap_new w _
  have HB := Lib.hid hb
  have HO : Aside0 (∀ W, Below W1.heap.size W1 W → W.cell? ⟨w.heap.size, 0, none⟩ = some (.int .i64 o0) ∧ W.cell? ⟨w.heap.size, 1, none⟩ = some (.int .i64 o1) ∧ W.cell? ⟨w.heap.size, 2, none⟩ = some (.int .i64 o2) ∧ W.cell? ⟨w.heap.size, 4, none⟩ = some (.int .i64 o4) ∧ W.cell? ⟨w.heap.size, 5, none⟩ = some (.int .i64 o5)) :=
    ⟨fun W hb2 => ⟨(hb2.cell (lt_of hnew)).trans ((cell_of hnew 0).trans rfl), (hb2.cell (lt_of hnew)).trans ((cell_of hnew 1).trans rfl), (hb2.cell (lt_of hnew)).trans ((cell_of hnew 2).trans rfl), (hb2.cell (lt_of hnew)).trans ((cell_of hnew 4).trans rfl), (hb2.cell (lt_of hnew)).trans ((cell_of hnew 5).trans rfl)⟩⟩
  simp only at hr2 h1 h2 h3 h5
  have hw1 : IntKind.i64.wrap (o2 - 1) = o2 - 1 := by rw [IntKind.wrap_i64]; omega
  have hge : ¬ o2 ≤ kn := h1
  have hq : (kn == o2 - 1) = true := by simpa using h2
  have hq2 : (kn != o2 - 1) = false := by simpa using h2
  subst h3
  have hz : (o4 == 0 && o5 == 0) = true := h4
  clear h hb K1 hkn hhs hr h2 hcell hcap hrow hi hl
  have HBLK : Aside0 (∀ W, Below W1.heap.size W1 W → W.heap[w.heap.size]? = some (opCells ⟨⟨o0, o1⟩, o2, o3, ⟨o4, o5⟩, o6⟩)) := ⟨fun W hb2 => (hb2.block _ (lt_of hnew)).trans hnew⟩
  clear hnew
  subst hW1
  go_enter Try.func33, Try.ntmps33
  go_wp2_with (first
    | (go_at_call 55; refine (HK.out _).mono ?_; rintro e w2 ⟨rfl, hb⟩; have HB2 := Lib.hid hb; have HBW := Lib.hid (below_step HB.out hb); obtain ⟨s0, s1, s2, s4, s5⟩ := HO.out _ hb; clear hb)
    | (go_at_call 56; refine (K2.out _ HBW.out).mono ?_; rintro e w3 ⟨rfl, rfl⟩)
    | (go_at_call 36; refine (K3.out _ HBW.out).mono ?_; rintro e w4 ⟨rfl, hb⟩; have HB4 := Lib.hid (below_step HB2.out hb); obtain ⟨t0, t1, t2, t4, t5⟩ := HO.out _ HB4.out; clear hb))
  have HW0 := Lib.hid (below_step HB.out HB4.out)
  have HZG := Lib.hid (fun W (hb : Below w4.heap.size w4 W) => show (W.cell? ⟨w.heap.size, 0, none⟩ = some (.int .i64 o0) ∧ W.cell? ⟨w.heap.size, 1, none⟩ = some (.int .i64 o1) ∧ W.cell? ⟨w.heap.size, 2, none⟩ = some (.int .i64 o2) ∧ W.cell? ⟨w.heap.size, 3, none⟩ = some (.bool o3) ∧ W.cell? ⟨w.heap.size, 4, none⟩ = some (.int .i64 o4) ∧ W.cell? ⟨w.heap.size, 5, none⟩ = some (.int .i64 o5) ∧ W.cell? ⟨w.heap.size, 6, none⟩ = some (.int .i32 o6)) ∧ W.cell? ⟨q, 0, none⟩ = some (.slice A L.length c) from by
    have hk := HBLK.out W (below_step HB4.out hb)
    exact ⟨⟨(cell_of hk 0).trans rfl, (cell_of hk 1).trans rfl, (cell_of hk 2).trans rfl, (cell_of hk 3).trans rfl, (cell_of hk 4).trans rfl, (cell_of hk 5).trans rfl, (cell_of hk 6).trans rfl⟩, ((below_step HW0.out hb).cell (World.block_lt_of_cell? w _ HROW.out.1)).trans HROW.out.1⟩)
  have HRW := Lib.hid (Kd.C_below HROW.out.2.2 HW0.out)
  have hqc : ∀ W, Below w4.heap.size w4 W → W.cell? ⟨q, 0, none⟩ = some (.slice A L.length c) ∧ W.frozen? ⟨q, 0, none⟩ = false := fun W hb => by
    obtain ⟨v, x1, x2, x3⟩ := HISR.out
    have hq := ((below_step HW0.out hb).block q (lt_of x1)).trans x1
    exact ⟨(HZG.out W hb).2, free_of hq 0⟩
  have HQC := Lib.hid hqc
  have bE : Below w4.heap.size w4 ((w4.alloc (.cells #[] 34)).drew) := ((Below.refl _ w4).alloc (Nat.le_refl _) _).drew
  have bO : Below w4.heap.size w4 ((w4.alloc (.cells #[.int .i64 o0, .int .i64 o1, .int .i64 o2, .bool o3, .int .i64 o4, .int .i64 o5, .int .i32 o6] 34)).drew) := ((Below.refl _ w4).alloc (Nat.le_refl _) _).drew
  have bEO : Below w4.heap.size w4 (((w4.alloc (.cells #[] 34)).alloc (.cells #[.int .i64 o0, .int .i64 o1, .int .i64 o2, .bool o3, .int .i64 o4, .int .i64 o5, .int .i32 o6] 34)).drew) := (((Below.refl _ w4).alloc (Nat.le_refl _) _).alloc (by rw [alloc_sz]; omega) _).drew
  have bOE : Below w4.heap.size w4 (((w4.alloc (.cells #[.int .i64 o0, .int .i64 o1, .int .i64 o2, .bool o3, .int .i64 o4, .int .i64 o5, .int .i32 o6] 34)).alloc (.cells #[] 34)).drew) := (((Below.refl _ w4).alloc (Nat.le_refl _) _).alloc (by rw [alloc_sz]; omega) _).drew
  have HE := Lib.hid bE
  have HO2 := Lib.hid bO
  have HEO := Lib.hid bEO
  have HOE := Lib.hid bOE
  -- the empty literal first, then the row, then the operation
  obtain ⟨B1, n1, d1, x6, e6, r6, b6, o6', k6, z6⟩ := app1_fact HRW.out HROW.out.2.1 (by have := HLL.out; omega) bE (Nat.le_refl _) (Rw.of rfl (lit0 34 w4))
  have b68 : Below w4.heap.size w4 (x6.alloc (.cells #[.int .i64 o0, .int .i64 o1, .int .i64 o2, .bool o3, .int .i64 o4, .int .i64 o5, .int .i32 o6] 34)) := b6.alloc b6.size _
  obtain ⟨B2, n2, d2, x9, e9, r9, b9, o9⟩ := app2_fact (o := ⟨⟨o0, o1⟩, o2, o3, ⟨o4, o5⟩, o6⟩) (by have := HLL.out; omega) b68 (r6.keep fun k hk => heap_old _ _ (r6.lt k hk)) o6' (heap_new x6 _)
  -- both literals, then the row
  have rEO : Rw k34 34 (((w4.alloc (.cells #[] 34)).alloc (.cells #[.int .i64 o0, .int .i64 o1, .int .i64 o2, .bool o3, .int .i64 o4, .int .i64 o5, .int .i32 o6] 34)).drew) (.slice (some ⟨w4.heap.size, 0, none⟩) 0 0) [] := (Rw.of rfl (lit0 34 w4)).keep fun k hk => heap_old _ _ (by rw [alloc_sz]; have := mem_ob.1 hk; simp only [Value.ownBlock, Option.some.injEq] at this; omega)
  obtain ⟨B3, n3, d3, y6, f6, s6, c6, p6, l6, m6⟩ := app1_fact HRW.out HROW.out.2.1 (by have := HLL.out; omega) bEO (Nat.le_refl _) rEO
  have vEO : y6.heap[w4.heap.size + 1]? = some (opCells ⟨⟨o0, o1⟩, o2, o3, ⟨o4, o5⟩, o6⟩) := (l6 _ (show w4.heap.size + 1 < ((w4.alloc (.cells #[] 34)).alloc (.cells #[.int .i64 o0, .int .i64 o1, .int .i64 o2, .bool o3, .int .i64 o4, .int .i64 o5, .int .i32 o6] 34)).heap.size by rw [alloc_sz, alloc_sz]; omega) (show w4.heap.size + 1 ≠ w4.heap.size by omega)).trans (by
    have := heap_new (w4.alloc (.cells #[] 34)) (.cells #[.int .i64 o0, .int .i64 o1, .int .i64 o2, .bool o3, .int .i64 o4, .int .i64 o5, .int .i32 o6] 34)
    rw [alloc_sz] at this
    exact this)
  obtain ⟨B4, n4, d4, y9, f9, s9, c9, p9⟩ := app2_fact (o := ⟨⟨o0, o1⟩, o2, o3, ⟨o4, o5⟩, o6⟩) (by have := HLL.out; omega) c6 s6 p6 vEO
  -- the operation's literal first
  have rOE : Rw k34 34 (((w4.alloc (.cells #[.int .i64 o0, .int .i64 o1, .int .i64 o2, .bool o3, .int .i64 o4, .int .i64 o5, .int .i32 o6] 34)).alloc (.cells #[] 34)).drew) (.slice (some ⟨w4.heap.size + 1, 0, none⟩) 0 0) [] := by
    have := Rw.of rfl (lit0 34 (w4.alloc (.cells #[.int .i64 o0, .int .i64 o1, .int .i64 o2, .bool o3, .int .i64 o4, .int .i64 o5, .int .i32 o6] 34)))
    rw [alloc_sz] at this
    exact this
  obtain ⟨B5, n5, d5, z6', g6, t6, q6, u6, v6', w6'⟩ := app1_fact HRW.out HROW.out.2.1 (by have := HLL.out; omega) bOE (show w4.heap.size ≤ w4.heap.size + 1 by omega) rOE
  have vOE : z6'.heap[w4.heap.size]? = some (opCells ⟨⟨o0, o1⟩, o2, o3, ⟨o4, o5⟩, o6⟩) := (v6' _ (show w4.heap.size < ((w4.alloc (.cells #[.int .i64 o0, .int .i64 o1, .int .i64 o2, .bool o3, .int .i64 o4, .int .i64 o5, .int .i32 o6] 34)).alloc (.cells #[] 34)).heap.size by rw [alloc_sz, alloc_sz]; omega) (by omega)).trans ((heap_old _ _ (by rw [alloc_sz]; omega)).trans (heap_new w4 _))
  obtain ⟨B7, n7, d7, z9, g9, t9, q9, u9⟩ := app2_fact (o := ⟨⟨o0, o1⟩, o2, o3, ⟨o4, o5⟩, o6⟩) (by have := HLL.out; omega) q6 t6 u6 vOE
  have PA := Lib.hid (And.intro e6 (And.intro e9 (And.intro b6 (And.intro b68 (And.intro b9 (And.intro r9 o9))))))
  have PB := Lib.hid (And.intro f6 (And.intro f9 (And.intro c6 (And.intro c9 (And.intro s9 p9)))))
  have PC' := Lib.hid (And.intro g6 (And.intro g9 (And.intro q6 (And.intro q9 (And.intro t9 u9)))))
  have QA := hqc x9 b9
  have QB := hqc y9 c9
  have QC := hqc z9 q9
  obtain ⟨qa1, qa2⟩ := QA
  obtain ⟨qb1, qb2⟩ := QB
  obtain ⟨qc1, qc2⟩ := QC
  clear hqc bE bO bEO bOE e6 r6 b6 o6' k6 z6 b68 e9 r9 b9 o9 rEO f6 s6 c6 p6 l6 m6 vEO f9 s9 c9 p9 rOE g6 t6 q6 u6 v6' w6' vOE g9 t9 q9 u9
  refine startZ (z := 9) (S := (fun W => (W.cell? ⟨w.heap.size, 0, none⟩ = some (.int .i64 o0) ∧ W.cell? ⟨w.heap.size, 1, none⟩ = some (.int .i64 o1) ∧ W.cell? ⟨w.heap.size, 2, none⟩ = some (.int .i64 o2) ∧ W.cell? ⟨w.heap.size, 3, none⟩ = some (.bool o3) ∧ W.cell? ⟨w.heap.size, 4, none⟩ = some (.int .i64 o4) ∧ W.cell? ⟨w.heap.size, 5, none⟩ = some (.int .i64 o5) ∧ W.cell? ⟨w.heap.size, 6, none⟩ = some (.int .i32 o6)) ∧ W.cell? ⟨q, 0, none⟩ = some (.slice A L.length c))) (by kernel_rfl) ?_
  show ZG _ _ _ _ _ _ 13 _ _ _
  refine takeW (i := 0) (v := ?_) rfl (by kernel_rfl) (by kernel_rfl) (by kernel_rfl) (by decide) (fun _ _ _ h => h) rfl (by exact HZG.out _ (Below.refl _ _).drew) ?_ ?_
  rotate_left
  · intro wq; go_simp; try (with_reducible rfl)
  try simp only [Act.put, List.setIfInBounds_toArray, List.set_cons_zero, List.set_cons_succ]
  refine takeW (i := 2) (v := ?_) rfl (by kernel_rfl) (by kernel_rfl) (by kernel_rfl) (by decide) (fun _ _ _ h => h) rfl (by exact HZG.out _ (Below.refl _ _).drew) ?_ ?_
  rotate_left
  · intro wq; go_simp; try (with_reducible rfl)
  try simp only [Act.put, List.setIfInBounds_toArray, List.set_cons_zero, List.set_cons_succ]
  refine takeW (i := 3) (v := ?_) rfl (by kernel_rfl) (by kernel_rfl) (by kernel_rfl) (by decide) (fun _ _ _ h => h) rfl (by exact HZG.out _ (Below.refl _ _).drew) ?_ ?_
  rotate_left
  · intro wq; go_simp; try (with_reducible rfl)
  try simp only [Act.put, List.setIfInBounds_toArray, List.set_cons_zero, List.set_cons_succ]
  refine takeW (i := 4) (v := ?_) rfl (by kernel_rfl) (by kernel_rfl) (by kernel_rfl) (by decide) (fun _ _ _ h => h) rfl (by exact HZG.out _ (Below.refl _ _).drew) ?_ ?_
  rotate_left
  · intro wq; go_simp; try (with_reducible rfl)
  try simp only [Act.put, List.setIfInBounds_toArray, List.set_cons_zero, List.set_cons_succ]
  refine takeZ (i := 5) (f0 := 6) (v := ?_) rfl (by kernel_rfl) (by kernel_rfl) (by kernel_rfl) (by decide) (by kernel_rfl) (fun _ _ _ h => h) rfl (by exact HZG.out _ (Below.refl _ _).drew) ?_ ?_
  rotate_left
  · intro wq hSw; (try dsimp only at hSw); go_split_ands; go_simp; try (with_reducible rfl)
  try simp only [Act.put, List.setIfInBounds_toArray, List.set_cons_zero, List.set_cons_succ]
  refine takeZ (i := 7) (f0 := 6) (v := ?_) rfl (by kernel_rfl) (by kernel_rfl) (by kernel_rfl) (by decide) (by kernel_rfl) (fun _ _ _ h => h) rfl (by exact HZG.out _ (Below.refl _ _).drew) ?_ ?_
  rotate_left
  · intro wq hSw; (try dsimp only at hSw); go_split_ands; go_simp; try (with_reducible rfl)
  try simp only [Act.put, List.setIfInBounds_toArray, List.set_cons_zero, List.set_cons_succ]
  refine twoZ (i := 1) (j := 8) rfl rfl (by kernel_rfl) rfl rfl (fun K hK => ?_) (fun K hK => ?_)
  · go_simp
    refine hK _ _ (by exact HZG.out _ HE.out) ?_
    clear hK K
    try simp only [Act.put, List.setIfInBounds_toArray, List.set_cons_zero, List.set_cons_succ]
    refine twoZ (i := 6) (j := 8) rfl rfl (by kernel_rfl) rfl rfl (fun K hK => ?_) (fun K hK => ?_)
    · refine Lib.wp_append_run _ _ _ _ _ (by rfl) _ _ (by rfl) (by rfl) _ _ PA.out.1 ?_
      refine hK _ _ (by exact HZG.out _ PA.out.2.2.1) ?_
      clear hK K
      try simp only [Act.put, List.setIfInBounds_toArray, List.set_cons_zero, List.set_cons_succ]
      refine oneZ (i := 8) rfl (by kernel_rfl) rfl (fun K hK => ?_)
      go_simp
      refine hK _ _ (by exact HZG.out _ PA.out.2.2.2.1) ?_
      clear hK K
      try simp only [Act.put, List.setIfInBounds_toArray, List.set_cons_zero, List.set_cons_succ]
      refine seqZ (l := _ :: _) rfl rfl (by kernel_rfl) (by decide) ?_
      go_wp2_with (at_builtin; refine Lib.wpList_append_run _ rfl _ _ _ _ rfl _ _ rfl rfl _ _ PA.out.2.1 ?_)
      go_ret2
      exact ⟨rfl, ref_store HISR.out HW0.out PA.out.2.2.2.2.1 PA.out.2.2.2.2.2.1 PA.out.2.2.2.2.2.2⟩
    · go_simp
      refine hK _ _ (by exact HZG.out _ HEO.out) ?_
      clear hK K
      try simp only [Act.put, List.setIfInBounds_toArray, List.set_cons_zero, List.set_cons_succ]
      refine oneZ (i := 6) rfl (by kernel_rfl) rfl (fun K hK => ?_)
      refine Lib.wp_append_run _ _ _ _ _ (by rfl) _ _ (by rfl) (by rfl) _ _ PB.out.1 ?_
      refine hK _ _ (by exact HZG.out _ PB.out.2.2.1) ?_
      clear hK K
      try simp only [Act.put, List.setIfInBounds_toArray, List.set_cons_zero, List.set_cons_succ]
      refine seqZ (l := _ :: _) rfl rfl (by kernel_rfl) (by decide) ?_
      go_wp2_with (at_builtin; refine Lib.wpList_append_run _ rfl _ _ _ _ rfl _ _ rfl rfl _ _ PB.out.2.1 ?_)
      go_ret2
      exact ⟨rfl, ref_store HISR.out HW0.out PB.out.2.2.2.1 PB.out.2.2.2.2.1 PB.out.2.2.2.2.2⟩
  · go_simp
    refine hK _ _ (by exact HZG.out _ HO2.out) ?_
    clear hK K
    try simp only [Act.put, List.setIfInBounds_toArray, List.set_cons_zero, List.set_cons_succ]
    refine oneZ (i := 1) rfl (by kernel_rfl) rfl (fun K hK => ?_)
    go_simp
    refine hK _ _ (by exact HZG.out _ HOE.out) ?_
    clear hK K
    try simp only [Act.put, List.setIfInBounds_toArray, List.set_cons_zero, List.set_cons_succ]
    refine oneZ (i := 6) rfl (by kernel_rfl) rfl (fun K hK => ?_)
    refine Lib.wp_append_run _ _ _ _ _ (by rfl) _ _ (by rfl) (by rfl) _ _ PC'.out.1 ?_
    refine hK _ _ (by exact HZG.out _ PC'.out.2.2.1) ?_
    clear hK K
    try simp only [Act.put, List.setIfInBounds_toArray, List.set_cons_zero, List.set_cons_succ]
    refine seqZ (l := _ :: _) rfl rfl (by kernel_rfl) (by decide) ?_
    go_wp2_with (at_builtin; refine Lib.wpList_append_run _ rfl _ _ _ _ rfl _ _ rfl rfl _ _ PC'.out.2.1 ?_)
    go_ret2
    exact ⟨rfl, ref_store HISR.out HW0.out PC'.out.2.2.2.1 PC'.out.2.2.2.2.1 PC'.out.2.2.2.2.2⟩
end Go.Proofs.Ytehdjdediobemaa.PC
namespace Go.Proofs.Ytehdjdediobemaa.PC
open Go.RowKit Go.Proofs.YtehdjdediobemaaW.PrintWords Go.Proofs.YtehdjdediobemaaW.PrintLast Go.Proofs.YtehdjdediobemaaW.PrintMore Go.Proofs.Ytehdjdediobemaa.K Go.Proofs.Ytehdjdediobemaa.IX Go.Proofs.Ytehdjdediobemaa.I
set_option linter.unusedVariables false
set_option linter.unusedSimpArgs false
theorem refFin_same {w w' : World} {F : List Nat} {q : Nat} {L : List S34} (h : isRef q L w F) (hb : Below w.heap.size w w') : RefFin w F q L w' :=
  ⟨F, (asn_ref q L).keep h (fun k m => hb.block k ((asn_ref q L).lt h k m)), Fr.of_below hb, fun _ h => .inl h⟩
theorem putR_no {L : List S34} {o : S34} {e : Int} (h : refR L o = some e) : putR L o = ((false, e), L) := by unfold putR; rw [h]
theorem putR_yes {L : List S34} {o : S34} (h : refR L o = none) : putR L o = ((true, 0), L ++ [o]) := by unfold putR; rw [h]
theorem gput_calls (w : World) (F : List Nat) (q : Nat) (L : List S34) (o : S34) (hi : isRef q L w F) (hl : L.length ≤ 100000) : Calls Try.prog 33 #[.pointer (some ⟨q, 0, none⟩), opV o] w fun e w' => e = .returned (.tuple #[.bool (putR L o).1.1, .int .i64 (putR L o).1.2]) ∧ RefFin w F q (putR L o).2 w' := by
  obtain ⟨A, c, hcell, hcap, hrow⟩ := ref_read hi
  have h : PutW w q L o A c := ⟨hcell, hcap, hrow, by omega⟩
  by_cases hr : rightS o
  · have hnn : ¬ ¬ rightS o := fun k => k hr
    by_cases h1 : o.f1 ≤ (knownR L o.f0.f1).1
    · have e : refR L o = some 0 := by unfold refR; rw [if_neg hnn, if_pos h1]
      rw [putR_no e]
      exact (gput_old w q L o A c h hr h1).mono fun _ _ ⟨he, hb⟩ => ⟨he, refFin_same hi hb⟩
    · by_cases h2 : (knownR L o.f0.f1).1 = o.f1 - 1
      · cases h3 : hasR L o.f3 with
        | true =>
          have h6 : ¬ ((knownR L o.f0.f1).1 ≠ o.f1 - 1 ∨ (hasR L o.f3 = false ∧ idq o.f3 zid = false)) := by rintro (k | ⟨k, _⟩) <;> simp_all
          by_cases h5 : o.f0.f0 ≤ (knownR L o.f0.f1).2
          · have e : refR L o = some 1 := by unfold refR; rw [if_neg hnn, if_neg h1, if_neg h6, if_pos h5]
            rw [putR_no e]
            exact (gput_ctr w q L o A c h hr h1 h2 h3 h5).mono fun _ _ ⟨he, hb⟩ => ⟨he, refFin_same hi hb⟩
          · have e : refR L o = none := by unfold refR; rw [if_neg hnn, if_neg h1, if_neg h6, if_neg h5]
            rw [putR_yes e]
            exact gput_take w q L o F hi hl hr h1 h2 h3 h5
        | false =>
          cases h4 : idq o.f3 zid with
          | false =>
            have e : refR L o = some 6 := by unfold refR; rw [if_neg hnn, if_neg h1, if_pos (.inr ⟨h3, h4⟩)]
            rw [putR_no e]
            exact (gput_noref w q L o A c h hr h1 h2 h3 h4).mono fun _ _ ⟨he, hb⟩ => ⟨he, refFin_same hi hb⟩
          | true =>
            have h6 : ¬ ((knownR L o.f0.f1).1 ≠ o.f1 - 1 ∨ (hasR L o.f3 = false ∧ idq o.f3 zid = false)) := by rintro (k | ⟨_, k⟩) <;> simp_all
            by_cases h5 : o.f0.f0 ≤ (knownR L o.f0.f1).2
            · have e : refR L o = some 1 := by unfold refR; rw [if_neg hnn, if_neg h1, if_neg h6, if_pos h5]
              rw [putR_no e]
              exact (gput_ctr0 w q L o A c h hr h1 h2 h3 h4 h5).mono fun _ _ ⟨he, hb⟩ => ⟨he, refFin_same hi hb⟩
            · have e : refR L o = none := by unfold refR; rw [if_neg hnn, if_neg h1, if_neg h6, if_neg h5]
              rw [putR_yes e]
              exact gput_take0 w q L o F hi hl hr h1 h2 h3 h4 h5
      · have e : refR L o = some 6 := by unfold refR; rw [if_neg hnn, if_neg h1, if_pos (.inl h2)]
        rw [putR_no e]
        exact (gput_gap w q L o A c h hr h1 h2).mono fun _ _ ⟨he, hb⟩ => ⟨he, refFin_same hi hb⟩
  · have e : refR L o = some 1 := by unfold refR; rw [if_pos hr]
    rw [putR_no e]
    exact (gput_wrong w q L o A c h hr).mono fun _ _ ⟨he, hb⟩ => ⟨he, refFin_same hi hb⟩
theorem gput_st {w0 w : World} {q : Nat} {L : List S34} {B : As} (b : Asn B) (h : St w0 w (sep (isRef q L) B)) (hl : L.length ≤ 100000) (o : S34) : Calls Try.prog 33 #[.pointer (some ⟨q, 0, none⟩), opV o] w fun e w' => e = .returned (.tuple #[.bool (putR L o).1.1, .int .i64 (putR L o).1.2]) ∧ St w0 w' (sep (isRef q (putR L o).2) B) := by
  obtain ⟨F, ⟨FA, FB, h1, h2, rfl, hd⟩, hb, hn⟩ := h
  refine (gput_calls w FA q L o h1 hl).mono ?_
  rintro e w' ⟨he, F', k1, k2, k3⟩
  exact ⟨he, St.upd (A := isRef q L) b (fun k m => hn k (by simp [m])) h2 hd hb (fun k m => hn k (by simp [m])) k2 k1 k3⟩
theorem putR_len (L : List S34) (o : S34) : (putR L o).2.length ≤ L.length + 1 := by
  unfold putR
  cases refR L o with
  | some e => exact Nat.le_succ _
  | none => show (L ++ [o]).length ≤ _; rw [List.length_append]; exact Nat.le_refl _
/-- Of some operations those that are taken, one behind the other. -/
def rightL (xs : List S34) : List S34 := xs.foldl (fun L o => (putR L o).2) []
theorem rightL_snoc (xs : List S34) (o : S34) : rightL (xs ++ [o]) = (putR (rightL xs) o).2 := by
  unfold rightL
  rw [List.foldl_append]
  rfl
theorem rightL_len (xs : List S34) : (rightL xs).length ≤ xs.length := by
  induction xs using snoc_ind with
  | h0 => exact Nat.le_refl _
  | h1 xs o ih =>
    rw [rightL_snoc, List.length_append]
    have := putR_len (rightL xs) o
    simp only [List.length_singleton]
    omega
theorem St.ref_row {w0 w : World} {q : Nat} {L : List S34} {B : As} (b : Asn B) (h : St w0 w (sep (isRef q L) B)) : ∃ v, w.heap[q]? = some (.cells #[v] 61 (0, 0)) ∧ St w0 w (sep (isRow k34 34 v L) B) := by
  obtain ⟨F, ⟨FA, FB, ⟨v, h1, h2, rfl⟩, h3, rfl, hd⟩, hb, hn⟩ := h
  refine ⟨v, h1, ob v ++ FB, ⟨ob v, FB, ⟨h2, rfl⟩, h3, rfl, fun k m => hd k (by simp [m])⟩, hb, fun k m => hn k ?_⟩
  rcases List.mem_append.1 m with q | q <;> simp [q]
theorem St.mkref {w0 w : World} {A : As} (h : St w0 w A) (a : Asn A) : St w0 (w.alloc (.cells #[.slice none 0 0] 61)) (sep (isRef w.heap.size []) A) :=
  h.add (G := w.heap.size :: ob (.slice none 0 0)) a ((Below.refl _ w).alloc (Nat.le_refl _) _) ⟨_, heap_new w _, Kd.R_nil _ _ _ _ _, rfl⟩ (fun k hk => by
    simp only [ob, Value.ownBlock, Option.toList_none, List.mem_singleton] at hk
    omega)
end Go.Proofs.Ytehdjdediobemaa.PC
namespace Go.Proofs.Ytehdjdediobemaa.PC
open Go.RowKit Go.Proofs.YtehdjdediobemaaW.PrintWords Go.Proofs.YtehdjdediobemaaW.PrintLast Go.Proofs.YtehdjdediobemaaW.PrintMore Go.Proofs.Ytehdjdediobemaa.K Go.Proofs.Ytehdjdediobemaa.IX Go.Proofs.Ytehdjdediobemaa.I
attribute [local go_sem] max2_int min2_int max_two min_two max_three min_three max_four min_four
set_option linter.unusedVariables false
set_option linter.unusedSimpArgs false
set_option maxHeartbeats 4000000 in
set_option maxRecDepth 100000 in
theorem right14_st {w0 w : World} {B : As} (b : Asn B) (h : St w0 w B) (A : Option Addr) (cap : Nat) (l : List S34) (m : Nat) (hr : Kd.C k34 w0 A l.length l) (hc : l.length ≤ cap) (hl : l.length ≤ 140737488351232) (hm : m ≤ 100) :
    Calls Try.prog 18 #[.slice A l.length cap, .int .i64 (m : Int)] w fun e w' => ∃ A' n c', e = .returned (.slice A' n c') ∧ n = (rightL (l.take m)).length ∧ St w0 w' (sep (isRow k34 34 (.slice A' n c') (rightL (l.take m))) B) := by
  have HRD := Lib.hid hr
  obtain ⟨len, hlen⟩ : ∃ len, l.length = len := ⟨_, rfl⟩
  have HLEN := Lib.hid hlen
  rw [hlen] at hc hl
  obtain ⟨N, hN⟩ : ∃ N, min len m = N := ⟨_, rfl⟩
  have hN1 : N ≤ len := by omega
  have hN2 : N ≤ m := by omega
  have HN3 := Lib.hid (show len ≤ N ∨ N = m by omega)
  have HS := Lib.hid (h.mkref b)
  have HB := Lib.hid b
  rw [hlen]
  clear hr hlen hN h b
  go_enter Try.func18, Try.ntmps18
  go_wp2
  go_loopg [6] N (fun kq v6 wr => ∃ (i : Nat), v6 = .int .i64 (i : Int) ∧ Aside0 (kq + i = N ∧ St w0 wr (sep (isRef w.heap.size (rightL (l.take i))) B)))
  case atStart => exact ⟨0, rfl, by omega, HS.out⟩
  case round =>
    obtain ⟨i, rfl, HI⟩ := hrel
    have hki := HI.out.1
    have hS := HI.out.2
    by_cases hlt : i < N
    · have hil : i < l.length := by rw [HLEN.out]; omega
      obtain ⟨ad, rfl, c0, c1, c2, c3, c4, c5, c6⟩ := cell_op HRD.out hS.bel i hil
      have hlr := rightL_len (l.take i)
      have hlk : (l.take i).length ≤ i := List.length_take_le _ _
      have hta := take_snoc l i hil
      have hsn := rightL_snoc (l.take i) l[i]
      rw [← hta] at hsn
      have K1 := Lib.hid (gput_st HB.out hS (by omega) l[i])
      rw [← hsn] at K1
      generalize l[i] = o at c0 c1 c2 c3 c4 c5 c6 K1
      have hd1 : decide (i < len) = true := by simp; omega
      have hd2 : decide (i < m) = true := by simp; omega
      generalize (putR (rightL (l.take i)) o).1 = r at K1
      unfold opV at K1
      obtain ⟨⟨o0, o1⟩, o2, o3, ⟨o4, o5⟩, o6⟩ := o
      simp only at c0 c1 c2 c3 c4 c5 c6
      clear hS hlr hlk hta hsn
      go_wp2_with (go_at_call 33; refine K1.out.mono ?_; rintro e w3 ⟨rfl, hS3⟩; have HS3 := Lib.hid hS3; clear hS3)
      go_roundg (N - (i + 1))
      case measure => omega
      case rel => exact ⟨i + 1, by go_num, by omega, HS3.out⟩
    · obtain rfl : i = N := by omega
      have hex : (decide (i < len) = true ∧ decide (i < m) = false) ∨ decide (i < len) = false := by
        by_cases h3 : i < len
        · rcases HN3.out with k | k
          · omega
          · exact .inl ⟨by simpa using h3, by simp; omega⟩
        · exact .inr (by simpa using h3)
      have hti : l.take i = l.take m := by
        rcases HN3.out with k | k
        · rw [List.take_of_length_le (by rw [HLEN.out]; exact k), List.take_of_length_le (by rw [HLEN.out]; omega)]
        · rw [k]
      rw [hti] at hS
      obtain ⟨v, hv, hS2⟩ := hS.ref_row HB.out
      obtain ⟨A', c', rfl, _, _⟩ := hS2.reads
      have hq0 : wr.cell? ⟨w.heap.size, 0, none⟩ = some (.slice A' (rightL (l.take m)).length c') := (cell_of hv 0).trans rfl
      have HF := Lib.hid hS2
      obtain ⟨n, hn⟩ : ∃ n, (rightL (l.take m)).length = n := ⟨_, rfl⟩
      have HNN := Lib.hid hn
      rw [hn] at hq0 HF
      clear hS hS2 hv hn hti HI
      rcases hex with ⟨hd1, hd2⟩ | hd1
      all_goals
        go_wp2
        go_ret
        exact ⟨A', n, c', rfl, HNN.out.symm, HF.out⟩
end Go.Proofs.Ytehdjdediobemaa.PC
namespace Go.Proofs.Ytehdjdediobemaa.PC
open Go.RowKit Go.Proofs.YtehdjdediobemaaW.PrintWords Go.Proofs.Ytehdjdediobemaa.K Go.Proofs.Ytehdjdediobemaa.IX Go.Proofs.Ytehdjdediobemaa.I
set_option linter.unusedVariables false
set_option linter.unusedSimpArgs false
/-- Operations that are taken one behind the other. -/
def Good (L : List S34) : Prop := ∀ k (h : k < L.length), refR (L.take k) L[k] = none
theorem good_nil : Good [] := fun k h => by cases h
theorem good_snoc {L : List S34} {o : S34} (h : Good L) (ho : refR L o = none) : Good (L ++ [o]) := fun k hk => by
  rw [List.length_append] at hk
  by_cases hl : k < L.length
  · rw [List.getElem_append_left hl, List.take_append_of_le_length (by omega)]
    exact h k hl
  · have e : k = L.length := by simp at hk; omega
    subst e
    rw [List.getElem_append_right (Nat.le_refl _), List.take_append_of_le_length (Nat.le_refl _), List.take_length]
    simpa using ho
theorem good_right (xs : List S34) : Good (rightL xs) := by
  induction xs using snoc_ind with
  | h0 => exact good_nil
  | h1 xs o ih =>
    rw [rightL_snoc]
    unfold putR
    cases hr : refR (rightL xs) o with
    | some e => exact ih
    | none => exact good_snoc ih hr
def TSof (L : List S34) : TS := L.foldl (fun T o => (putT T o).2) T0
theorem TSof_snoc (L : List S34) (o : S34) : TSof (L ++ [o]) = (putT (TSof L) o).2 := by
  unfold TSof
  rw [List.foldl_append]
  rfl
theorem good_take {L : List S34} (h : Good L) (k : Nat) : Good (L.take k) := fun j hj => by
  rw [List.length_take] at hj
  have hj2 : j < L.length := by omega
  rw [List.getElem_take, List.take_take, Nat.min_eq_left (by omega)]
  exact h j hj2
theorem good_inv (L : List S34) (h : Good L) : (∃ F, Inv (TSof L) F) ∧ (TSof L).ops = L := by
  induction L using snoc_ind with
  | h0 => exact ⟨⟨_, inv0⟩, rfl⟩
  | h1 L o ih =>
    have hg : Good L := by have := good_take h L.length; rwa [List.take_append_of_le_length (Nat.le_refl _), List.take_length] at this
    obtain ⟨⟨F, hi⟩, ho⟩ := ih hg
    have hr : refR L o = none := by
      have := h L.length (by rw [List.length_append]; exact Nat.lt_succ_self _)
      rwa [List.getElem_append_right (Nat.le_refl _), List.take_append_of_le_length (Nat.le_refl _), List.take_length, show ([o] : List S34)[L.length - L.length] = o by simp] at this
    rw [TSof_snoc]
    refine ⟨inv_put hi o, ?_⟩
    have hs := hi.put_same o
    rw [hs.2, ho]
    unfold putR
    rw [hr]
theorem good_step {L : List S34} (h : Good L) (k : Nat) (hk : k < L.length) : putT (TSof (L.take k)) L[k] = ((true, 0), TSof (L.take (k + 1))) := by
  obtain ⟨⟨F, hi⟩, ho⟩ := good_inv _ (good_take h k)
  have hr : refS (TSof (L.take k)) L[k] = none := by rw [hi.ref, ho]; exact h k hk
  have e := take_snoc L k hk
  rw [e, TSof_snoc]
  unfold putT
  rw [hr]
theorem good_again {L : List S34} (h : Good L) (k : Nat) (hk : k < L.length) : putT (TSof L) L[k] = ((false, 0), TSof L) := by
  obtain ⟨⟨F, hi⟩, ho⟩ := good_inv L h
  have hm : L[k] ∈ (TSof L).ops := by rw [ho]; exact List.getElem_mem hk
  have hr := hi.right _ hm
  have hle := (hi.le _ hm).1
  have : refS (TSof L) L[k] = some 0 := by
    unfold refS knownS
    rw [if_neg (fun q => q hr), hi.sq, if_pos hle]
  unfold putT
  rw [this]
end Go.Proofs.Ytehdjdediobemaa.PC
namespace Go.Proofs.Ytehdjdediobemaa.PC
open Go.RowKit Go.Proofs.YtehdjdediobemaaW.PrintWords Go.Proofs.YtehdjdediobemaaW.PrintLast Go.Proofs.YtehdjdediobemaaW.PrintMore Go.Proofs.Ytehdjdediobemaa.K Go.Proofs.Ytehdjdediobemaa.IX Go.Proofs.Ytehdjdediobemaa.I
attribute [local go_sem] max2_int min2_int max_two min_two max_three min_three max_four min_four
set_option linter.unusedVariables false
set_option linter.unusedSimpArgs false
/-- What a loop reads of the operations, and what its Put answers. -/
theorem good_put {w0 w : World} {p : Nat} {L : List S34} {v : Value} {B : As} (b : Asn B) (hg : Good L) (hl : L.length ≤ 1000) (k : Nat) (hk : k < L.length) (h : St w0 w (sep (isTx p (TSof (L.take k))) (sep (isRow k34 34 v L) B))) :
    Calls Try.prog 14 #[.pointer (some ⟨p, 0, none⟩), opV L[k]] w fun e w' => e = .returned (.tuple #[.bool true, .int .i64 0]) ∧ St w0 w' (sep (isTx p (TSof (L.take (k + 1)))) (sep (isRow k34 34 v L) B)) := by
  obtain ⟨⟨F, hi⟩, ho⟩ := good_inv _ (good_take hg k)
  exact put_named (good_step hg k hk) hi (by rw [ho, List.length_take]; omega) (asn_sep (asn_row _ _ _ _) b) h
theorem good_put2 {w0 w : World} {p : Nat} {L : List S34} {B : As} (b : Asn B) (hg : Good L) (hl : L.length ≤ 1000) (k : Nat) (hk : k < L.length) (h : St w0 w (sep (isTx p (TSof L)) B)) :
    Calls Try.prog 14 #[.pointer (some ⟨p, 0, none⟩), opV L[k]] w fun e w' => e = .returned (.tuple #[.bool false, .int .i64 0]) ∧ St w0 w' (sep (isTx p (TSof L)) B) := by
  obtain ⟨⟨F, hi⟩, ho⟩ := good_inv L hg
  exact put_named (good_again hg k hk) hi (by rw [ho]; omega) b h
set_option maxHeartbeats 4000000 in
set_option maxRecDepth 100000 in
theorem twice_row (A : Option Addr) (cap : Nat) (l : List S34) (w : World) (hr : Kd.C k34 w A l.length l) (hc : l.length ≤ cap) (hy : l.length * 56 ≤ 140737488351232) (hg : ∀ y ∈ l, True) :
    Calls Try.prog 4 #[.slice A l.length cap] w fun e w' => e = .returned (.bool true) ∧ Below w.heap.size w w' := by
  have HSH := Lib.hid (shown14_calls w)
  have hl30 : (rightL (l.take 30)).length ≤ 30 := Nat.le_trans (rightL_len _) (by rw [List.length_take]; omega)
  have KR := Lib.hid (show ∀ W B, Asn B → St w W B → Calls Try.prog 18 #[.slice A l.length cap, .int .i64 30] W fun e w' => ∃ A' n c', e = .returned (.slice A' n c') ∧ (rightL (l.take 30)).length = n ∧ St w w' (sep (isRow k34 34 (.slice A' n c') (rightL (l.take 30))) B) from fun W B b h => (right14_st b h A cap l 30 hr hc (by omega) (by omega)).mono fun e w' ⟨A', n, c', h1, h2, h3⟩ => ⟨A', n, c', h1, h2.symm, h3⟩)
  have HG := Lib.hid (good_right (l.take 30))
  generalize rightL (l.take 30) = L at *
  obtain ⟨⟨Fo', hI⟩, hops⟩ := good_inv L HG.out
  have hll := hI.ll
  have hvl := visS_len (TSof L).l
  rw [hops] at hll
  obtain ⟨len, hlen⟩ : ∃ len, l.length = len := ⟨_, rfl⟩
  rw [hlen] at KR hc hy ⊢
  obtain ⟨n, hn⟩ : ∃ n, L.length = n := ⟨_, rfl⟩
  rw [hn] at KR hl30
  have HNL := Lib.hid hn
  have K5 := Lib.hid (fun p W B (b : Asn B) (h : St w W (sep (isTx p (TSof L)) B)) => vis_st b h (by omega))
  have K6 := Lib.hid (fun p W B (b : Asn B) (h : St w W (sep (isTx p (TSof L)) B)) => ops_st b h (by rw [hops]; omega))
  rw [hops, hn] at K6
  obtain ⟨m, hm⟩ : ∃ m, (visS (TSof L).l).length = m := ⟨_, rfl⟩
  rw [hm] at K5
  have HM := Lib.hid (show m ≤ 1000 by omega)
  generalize hvv : visS (TSof L).l = vs at *
  have HMV := Lib.hid hm
  clear hr hg hI hops hll hvl hn hm hvv
  go_enter Try.func4, Try.ntmps4
  go_wp2_with (first
    | (go_at_call 11; refine HSH.out.mono ?_; rintro e w1 ⟨rfl, hb⟩; have HS := Lib.hid ((St.emp w).below asn_emp hb); clear hb)
    | (go_at_call 12; refine (new_st asn_emp HS.out).mono ?_; rintro e w2 ⟨p, rfl, hS⟩; have HS := Lib.hid hS; clear hS)
    | (go_at_call 18; with_reducible refine (KR.out _ _ (asn_sep (asn_tx _ _) asn_emp) HS.out).mono ?_; rintro e w3 ⟨A5, n5, c5, rfl, hn5, hS⟩; subst hn5; have HS := Lib.hid hS.turn; clear hS))
  have AR := Lib.hid (asn_sep (asn_row k34 34 (.slice A5 n c5) L) asn_emp)
  have HROW := Lib.hid (fun W C B (h : St w W (sep C (sep (isRow k34 34 (.slice A5 n c5) L) B))) => show n ≤ c5 ∧ Kd.C k34 W A5 L.length L from by
    obtain ⟨x1, x2, ex, x3, x4⟩ := h.snd.reads
    injection ex with e1 e2 e3
    subst e1 e3
    exact ⟨by have := HNL.out; omega, x4⟩)
  have hn9 : n ≤ 1000 := by omega
  go_loopg [6] n (fun kq v6 wr => ∃ (i : Nat), v6 = .int .i64 (i : Int) ∧ Aside0 (kq + i = n ∧ St w wr (sep (isTx p (TSof (L.take i))) (sep (isRow k34 34 (.slice A5 n c5) L) emp))))
  case atStart => exact ⟨0, rfl, by omega, HS.out⟩
  case round =>
    obtain ⟨i, rfl, HI⟩ := hrel
    have hki := HI.out.1
    have hS := HI.out.2
    by_cases hlt : i < n
    · have hil : i < L.length := by rw [HNL.out]; exact hlt
      obtain ⟨hcap, hrow⟩ := HROW.out _ _ _ hS
      obtain ⟨ad, rfl, c0, c1, c2, c3, c4, c5', c6⟩ := cell_op hrow (Below.refl _ wr) i hil
      have K1 := Lib.hid (good_put asn_emp HG.out (by rw [HNL.out]; omega) i hil hS)
      generalize L[i] = o at c0 c1 c2 c3 c4 c5' c6 K1
      have hd1 : decide (i < n) = true := by simpa using hlt
      unfold opV at K1
      obtain ⟨⟨o0, o1⟩, o2, o3, ⟨o4, o5⟩, o6⟩ := o
      simp only at c0 c1 c2 c3 c4 c5' c6
      clear hS hrow
      go_wp2_with (go_at_call 14; refine K1.out.mono ?_; rintro e w4 ⟨rfl, hS4⟩; have HS4 := Lib.hid hS4; clear hS4)
      go_roundg (n - (i + 1))
      case measure => omega
      case rel => exact ⟨i + 1, by go_num, by omega, HS4.out⟩
    · obtain rfl : i = n := by omega
      have hd1 : decide (i < i) = false := by simp
      have HS0 := Lib.hid (show St w wr (sep (isTx p (TSof L)) (sep (isRow k34 34 (.slice A5 i c5) L) emp)) from by
        have := hS
        rwa [show L.take i = L from List.take_of_length_le (by rw [HNL.out]; exact Nat.le_refl _)] at this)
      clear hS HI
      go_wp2_with (go_at_call 17; with_reducible refine (K5.out _ _ _ AR.out HS0.out).mono ?_; rintro e w5 ⟨A7, c7, rfl, hS5⟩; have HS5 := Lib.hid hS5.turn; clear hS5)
      have AV := Lib.hid (asn_sep (asn_row (Kd.int .i32) 21 (.slice A7 m c7) vs) AR.out)
      go_loopg [8] i (fun kq v8 wr => ∃ (j : Nat), v8 = .int .i64 (j : Int) ∧ Aside0 (kq + j = i ∧ St w wr (sep (isTx p (TSof L)) (sep (isRow (Kd.int .i32) 21 (.slice A7 m c7) vs) (sep (isRow k34 34 (.slice A5 i c5) L) emp)))))
      case atStart => exact ⟨0, rfl, by omega, HS5.out⟩
      case round =>
        obtain ⟨j, rfl, HJ⟩ := hrel
        have hkj := HJ.out.1
        have hS := HJ.out.2
        by_cases hjt : j < i
        · have hjl : j < L.length := by rw [HNL.out]; exact hjt
          obtain ⟨hcap, hrow⟩ := HROW.out _ _ _ hS.snd
          obtain ⟨ad, rfl, c0, c1, c2, c3, c4, c5', c6⟩ := cell_op hrow (Below.refl _ _) j hjl
          have K1 := Lib.hid (good_put2 AV.out HG.out (by rw [HNL.out]; omega) j hjl hS)
          generalize L[j] = o at c0 c1 c2 c3 c4 c5' c6 K1
          have hd2 : decide (j < i) = true := by simpa using hjt
          unfold opV at K1
          obtain ⟨⟨o0, o1⟩, o2, o3, ⟨o4, o5⟩, o6⟩ := o
          simp only at c0 c1 c2 c3 c4 c5' c6
          clear hS hrow
          go_wp2_with (go_at_call 14; refine K1.out.mono ?_; rintro e w6 ⟨rfl, hS6⟩; have HS6 := Lib.hid hS6; clear hS6)
          go_roundg (i - (j + 1))
          case measure => omega
          case rel => exact ⟨j + 1, by go_num, by omega, HS6.out⟩
        · obtain rfl : j = i := by omega
          have hd2 : decide (j < j) = false := by simp
          have HSJ := Lib.hid hS
          have AX := Lib.hid (asn_sep (asn_tx p (TSof L)) AV.out)
          have KSM := Lib.hid (fun W A1 d1 (h : St w W (sep (isRow (Kd.int .i32) 21 (.slice A1 m d1) vs) (sep (isTx p (TSof L)) (sep (isRow (Kd.int .i32) 21 (.slice A7 m c7) vs) (sep (isRow k34 34 (.slice A5 j c5) L) emp))))) => show Calls Try.prog 16 #[.slice A1 m d1, .slice A7 m c7] W fun e w' => e = .returned (.bool true) ∧ St w w' (sep (isTx p (TSof L)) (sep (isRow (Kd.int .i32) 21 (.slice A7 m c7) vs) (sep (isRow k34 34 (.slice A5 j c5) L) emp))) from by
            obtain ⟨x1, x2, ex, x3, x4⟩ := h.reads
            obtain ⟨y1, y2, ey, y3, y4⟩ := h.snd.snd.reads
            injection ex with ex1 ex2 ex3
            injection ey with ey1 ey2 ey3
            subst ex1 ex3 ey1 ey3
            have hmv := HMV.out
            have hmm := HM.out
            have hq := same01_is x4 x3 y4 y3 (by omega)
            rw [hmv] at hq
            refine hq.mono ?_
            rintro e w' ⟨he, q, rfl⟩
            exact ⟨he, h.snd.drewN AX.out q⟩)
          clear hS HJ
          go_wp2_with (first
            | (go_at_call 17; with_reducible refine (K5.out _ _ _ AV.out HSJ.out).mono ?_; rintro e w7 ⟨A9, c9, rfl, hS7⟩; have HS7 := Lib.hid hS7; clear hS7)
            | (go_at_call 16; with_reducible refine (KSM.out _ _ _ HS7.out).mono ?_; rintro e w8 ⟨rfl, hS8⟩; have HS8 := Lib.hid hS8; clear hS8)
            | (go_at_call 19; with_reducible refine (K6.out _ _ _ AV.out HS8.out).mono ?_; rintro e w9 ⟨A10, c10, rfl, hS9⟩; have HS9 := Lib.hid hS9; clear hS9))
          go_ret
          exact ⟨rfl, HS9.out.bel⟩
end Go.Proofs.Ytehdjdediobemaa.PC
