/- An index in memory, and index.find; an index of at most some hundred thousand marks. -/
import Derived.Test.YtbbiocmlicoipaaK5
import Derived.Test.YtbbiocmlicoipaaIX0
import Derived.Test.YtbbiocmlicoipaaC5
import Derived.Test.YtbbiocmlicoipaaInsB
import Derived.Test.YtbbiocmlicoipaaInsP
namespace Go.Proofs.Ytbbiocmlicoipaa.PC
open Go.RowKit Go.Proofs.YtbbiocmlicoipaaW.PrintWords Go.Proofs.YtbbiocmlicoipaaW.PrintLast Go.Proofs.YtbbiocmlicoipaaW.PrintMore Go.Proofs.Ytbbiocmlicoipaa.K Go.Proofs.Ytbbiocmlicoipaa.IX
attribute [local go_sem] max2_int min2_int max_two min_two max_three min_three max_four min_four
set_option linter.unusedVariables false
set_option linter.unusedSimpArgs false
/-- A block of marks in memory. -/
def BlkR (w : World) (x : Blk) : Prop :=
  w.heap[x.b]? = some (.cells #[x.v, .int .i64 (cn x.ms : Int)] 72 (0, 0)) ∧ SRow w 4 1 False x.v x.ms.length (x.ms.map Value.bool)
def ptrV (x : Blk) : Value := .pointer (some ⟨x.b, 0, none⟩)
def fpB (L : List Blk) : List Nat := L.flatMap fun x => x.b :: ob x.v
/-- An index in memory: its own block, its row of blocks. -/
structure IxR (w : World) (p : Nat) (lv : Value) (L : List Blk) : Prop where
  head : w.heap[p]? = some (.cells #[.int .i64 ((marks L).length : Int), .int .i64 (cn (marks L) : Int), lv] 34 (0, 0))
  row : SRow w 70 1 False lv L.length (L.map ptrV)
  blk : ∀ x ∈ L, BlkR w x
  nd : (fpB L).Nodup
  ne : L ≠ []
def fpI (p : Nat) (lv : Value) (L : List Blk) : List Nat := p :: (ob lv ++ fpB L)
/-- An index in memory, of these marks; the blocks that it takes. -/
def Ix (w : World) (F : List Nat) (p : Nat) (ms : List Bool) : Prop := ∃ lv L, IxR w p lv L ∧ marks L = ms ∧ F = fpI p lv L ∧ L.length ≤ ms.length + 1
theorem mem_fpB {L : List Blk} {k : Nat} : k ∈ fpB L ↔ ∃ x ∈ L, k = x.b ∨ k ∈ ob x.v := by
  unfold fpB
  rw [List.mem_flatMap]
  simp only [List.mem_cons]
theorem IxR.keep {w w' : World} {p : Nat} {lv : Value} {L : List Blk} (h : IxR w p lv L) (hk : ∀ k ∈ fpI p lv L, w'.heap[k]? = w.heap[k]?) : IxR w' p lv L := by
  refine ⟨(hk p (by simp [fpI])).trans h.head, h.row.keep fun g hg => hk g (by simp [fpI, hg]), fun x hx => ?_, h.nd, h.ne⟩
  have hb := h.blk x hx
  exact ⟨(hk x.b (by simp only [fpI, List.mem_cons, List.mem_append, mem_fpB]; exact .inr (.inr ⟨x, hx, .inl rfl⟩))).trans hb.1,
    hb.2.keep fun g hg => hk g (by simp only [fpI, List.mem_cons, List.mem_append, mem_fpB]; exact .inr (.inr ⟨x, hx, .inr hg⟩))⟩
theorem IxR.lt {w : World} {p : Nat} {lv : Value} {L : List Blk} (h : IxR w p lv L) : ∀ k ∈ fpI p lv L, k < w.heap.size := by
  intro k hk
  simp only [fpI, List.mem_cons, List.mem_append, mem_fpB] at hk
  rcases hk with rfl | hk | ⟨x, hx, rfl | hk⟩
  · exact lt_of h.head
  · exact (h.row.ob_lt k hk).1
  · exact lt_of (h.blk x hx).1
  · exact ((h.blk x hx).2.ob_lt k hk).1
theorem Ix.keep {w w' : World} {F : List Nat} {p : Nat} {ms : List Bool} (h : Ix w F p ms) (hk : ∀ k ∈ F, w'.heap[k]? = w.heap[k]?) : Ix w' F p ms := by
  obtain ⟨lv, L, h1, h2, rfl, h4⟩ := h
  exact ⟨lv, L, h1.keep hk, h2, rfl, h4⟩
theorem Ix.lt {w : World} {F : List Nat} {p : Nat} {ms : List Bool} (h : Ix w F p ms) : ∀ k ∈ F, k < w.heap.size := by
  obtain ⟨lv, L, h1, h2, rfl, h4⟩ := h
  exact h1.lt
theorem Ix.fr {w w' : World} {F G : List Nat} {p : Nat} {ms : List Bool} (h : Ix w F p ms) (hf : Fr G w w') (hd : ∀ k ∈ F, k ∉ G) : Ix w' F p ms := h.keep fun k hk => hf.block k (h.lt k hk) (hd k hk)
theorem Ix.below {w w' : World} {F : List Nat} {p : Nat} {ms : List Bool} (h : Ix w F p ms) (hb : Below w.heap.size w w') : Ix w' F p ms := h.keep fun k hk => hb.block k (h.lt k hk)
theorem Ix.drewN {w : World} {F : List Nat} {p : Nat} {ms : List Bool} (h : Ix w F p ms) (n : Nat) : Ix (w.drewN n) F p ms := h.keep fun _ _ => rfl
/-- What the walk reads of an index' head, and of a block. -/
theorem IxR.head_cells {w : World} {p : Nat} {lv : Value} {L : List Blk} (h : IxR w p lv L) : ∃ g cap, lv = .slice (some ⟨g, 0, none⟩) L.length cap ∧ L.length ≤ cap ∧
    w.cell? ⟨p, 0, none⟩ = some (.int .i64 ((marks L).length : Int)) ∧ w.cell? ⟨p, 1, none⟩ = some (.int .i64 (cn (marks L) : Int)) ∧ w.cell? ⟨p, 2, none⟩ = some (.slice (some ⟨g, 0, none⟩) L.length cap) ∧
    ∀ i x, L[i]? = some x → w.cell? ⟨g, i, none⟩ = some (.pointer (some ⟨x.b, 0, none⟩)) := by
  obtain ⟨x, hx⟩ : ∃ x, L[0]? = some x := by
    have := h.ne
    cases L with
    | nil => exact absurd rfl this
    | cons x L => exact ⟨x, rfl⟩
  obtain ⟨g, cap, e, hc, _⟩ := h.row.cell1 (i := 0) (u := ptrV x) (by simp [hx])
  refine ⟨g, cap, e, hc, by rw [cell_of h.head]; rfl, by rw [cell_of h.head]; rfl, by rw [cell_of h.head, e]; rfl, fun i y hy => ?_⟩
  obtain ⟨g', cap', e', _, hcell⟩ := h.row.cell1 (i := i) (u := ptrV y) (by simp [hy])
  rw [e] at e'
  injection e' with e1 e2 e3
  injection e1 with e1
  injection e1 with e1
  subst e1
  exact hcell
theorem BlkR.cells {w : World} {x : Blk} (h : BlkR w x) : ∃ A cap, x.v = .slice A x.ms.length cap ∧ x.ms.length ≤ cap ∧ w.cell? ⟨x.b, 0, none⟩ = some (.slice A x.ms.length cap) ∧ w.cell? ⟨x.b, 1, none⟩ = some (.int .i64 (cn x.ms : Int)) := by
  obtain ⟨A, cap, e, hc, _⟩ := h.2.form
  exact ⟨A, cap, e, hc, by rw [cell_of h.1, e]; rfl, by rw [cell_of h.1]; rfl⟩
theorem BlkR.mark {w : World} {x : Blk} (h : BlkR w x) {i : Nat} {u : Bool} (hu : x.ms[i]? = some u) : ∃ g cap, x.v = .slice (some ⟨g, 0, none⟩) x.ms.length cap ∧ x.ms.length ≤ cap ∧ w.cell? ⟨x.b, 0, none⟩ = some (.slice (some ⟨g, 0, none⟩) x.ms.length cap) ∧
    w.cell? ⟨x.b, 1, none⟩ = some (.int .i64 (cn x.ms : Int)) ∧ w.cell? ⟨g, i, none⟩ = some (.bool u) := by
  obtain ⟨g, cap, e, hc, hcell⟩ := h.2.cell1 (i := i) (u := .bool u) (by simp [hu])
  exact ⟨g, cap, e, hc, by rw [cell_of h.1, e]; rfl, by rw [cell_of h.1]; rfl, hcell⟩
/-- What find tells. -/
def FindPost (w : World) (L : List Blk) (at_ : Nat) (en : Bool) (e : Ending) (w' : World) : Prop :=
  ∃ pre x post k, L = pre ++ x :: post ∧ at_ = (marks pre).length + k ∧ (k < x.ms.length ∨ (en = true ∧ k = x.ms.length)) ∧ e = .returned (.tuple #[.int .i64 (pre.length : Int), .int .i64 (k : Int), .int .i64 (cn (marks pre) : Int)]) ∧ ∃ n, w' = w.drewN n
set_option maxHeartbeats 4000000 in
set_option maxRecDepth 100000 in
theorem find_calls (w : World) (p : Nat) (lv : Value) (L : List Blk) (at_ : Nat) (en : Bool) (h : IxR w p lv L) (hs : (marks L).length ≤ 1000000) (hL : L.length ≤ 1000001) (hat : at_ < (marks L).length ∨ (en = true ∧ at_ = (marks L).length)) :
    Calls Try.prog 44 #[.pointer (some ⟨p, 0, none⟩), .int .i64 (at_ : Int), .bool en] w (FindPost w L at_ en) := by
  obtain ⟨g, cap, rfl, hcap, h0, h1, h2, hrow⟩ := h.head_cells
  have HR := Lib.hid h
  have HROW := Lib.hid hrow
  have HAT := Lib.hid hat
  have HS := Lib.hid hs
  clear h hrow hat h0 h1
  have hat2 : at_ ≤ 1000000 := by have := HAT.out; have := HS.out; omega
  clear hs
  go_enter Try.func44, Try.ntmps44
  go_wp2
  go_loopw [1, 9, 17] (fun v1 v9 v17 w' => ∃ (i a s n : Nat), v1 = .int .i64 (a : Int) ∧ v9 = .int .i64 (s : Int) ∧ v17 = .int .i64 (i : Int) ∧ i ≤ L.length ∧ a ≤ 1000000 ∧ s ≤ 1000000 ∧ Aside0 (at_ = (marks (L.take i)).length + a ∧ s = cn (marks (L.take i)) ∧ (en = true → 0 < i → 0 < a)) ∧ Aside0 (w' = w.drewN n)) (fun _ _ v17 _ => L.length - (intOf v17).toNat)
  case atStart => exact ⟨0, at_, 0, 0, rfl, rfl, rfl, by omega, by omega, by omega, ⟨by simp [marks], by simp [marks, cn], fun _ h => by omega⟩, ⟨rfl⟩⟩
  case round =>
    obtain ⟨i, a, s, n, rfl, rfl, rfl, hi, ha, hsb, HI, HW⟩ := hrel
    obtain rfl := HW.out
    by_cases hlt : i < L.length
    · have hx : L[i]? = some L[i] := List.getElem?_eq_getElem hlt
      have hptr := HROW.out i _ hx
      have hb := HR.out.blk L[i] (List.getElem_mem hlt)
      obtain ⟨A, c, hv, hc, hc0, hc1⟩ := hb.cells
      have hsp := split_at L i hlt
      have hmt := marks_take_succ L i hlt
      have hlen := marks_len_take L (i + 1)
      have hcn := cn_le (marks (L.take (i + 1)))
      have hi1 := HS.out
      rw [hmt, List.length_append] at hlen
      rw [hmt, cn_app] at hcn
      obtain ⟨x, hxe⟩ : ∃ x, L[i] = x := ⟨_, rfl⟩
      rw [hxe] at hptr hb hv hc hc0 hc1 hsp hmt hlen hcn
      have hms : x.ms.length ≤ 1000000 := by omega
      have hcx := cn_le x.ms
      have hcx2 : s + cn x.ms ≤ 1000000 := by
        have e2 := HI.out.2.1
        have := cn_le (marks (L.take i))
        omega
      have HSP := Lib.hid hsp
      have HMT := Lib.hid hmt
      have HX := Lib.hid hxe
      have HCC := Lib.hid (And.intro hc (And.intro hb hx))
      clear hx hb hv hsp hmt hlen hcn hi1 hxe hcap
      obtain ⟨ln, hln⟩ : ∃ ln, x.ms.length = ln := ⟨_, rfl⟩
      obtain ⟨cx, hcxe⟩ : ∃ cx, cn x.ms = cx := ⟨_, rfl⟩
      rw [hln] at hc hc0 hms hcx
      rw [hcxe] at hc1 hcx hcx2
      have HLN := Lib.hid hln
      have HCX := Lib.hid hcxe
      clear hln hcxe hc
      have fin : (a < ln ∨ (en = true ∧ a = ln)) → FindPost w L at_ en (.returned (.tuple #[.int .i64 (i : Int), .int .i64 (a : Int), .int .i64 (s : Int)])) (w.drewN n) := by
        intro hk
        have hl : (L.take i).length = i := by rw [List.length_take]; omega
        exact ⟨L.take i, x, L.drop (i + 1), a, HSP.out, HI.out.1, by rw [HLN.out]; exact hk, by rw [hl, HI.out.2.1], n, rfl⟩
      have HFIN := Lib.hid fin
      clear fin
      by_cases hk : a < ln
      · go_wp2
        go_ret3
        exact HFIN.out (.inl hk)
      · cases en with
        | true =>
          by_cases hk2 : a = ln
          · subst hk2
            go_wp2
            go_ret3
            exact HFIN.out (.inr (by simp))
          · have hk3 : ((a : Int) == (ln : Int)) = false := by simp; omega
            have hw1 : IntKind.i64.wrap ((a : Int) - (ln : Int)) = (a : Int) - (ln : Int) := by rw [IntKind.wrap_i64]; omega
            have hw2 : IntKind.i64.wrap ((s : Int) + (cx : Int)) = (s : Int) + (cx : Int) := by rw [IntKind.wrap_i64]; omega
            go_wp2
            go_quiet (fail)
            go_wp2
            go_roundw
            case rel => exact ⟨i + 1, a - ln, s + cx, n + nq, by rw [show ((a - ln : Nat) : Int) = (a : Int) - (ln : Int) by omega], by go_num, by go_num, by omega, by omega, by omega, ⟨by rw [HMT.out, List.length_append, HLN.out]; have := HI.out.1; omega, by rw [HMT.out, cn_app, HCX.out, ← HI.out.2.1], fun _ _ => by omega⟩, ⟨by simp⟩⟩
            case measure => simp [intOf]; omega
        | false =>
          have hk3 : ln ≤ a := by omega
          have hw1 : IntKind.i64.wrap ((a : Int) - (ln : Int)) = (a : Int) - (ln : Int) := by rw [IntKind.wrap_i64]; omega
          have hw2 : IntKind.i64.wrap ((s : Int) + (cx : Int)) = (s : Int) + (cx : Int) := by rw [IntKind.wrap_i64]; omega
          go_wp2
          go_quiet (fail)
          go_wp2
          go_roundw
          case rel => exact ⟨i + 1, a - ln, s + cx, n + nq, by rw [show ((a - ln : Nat) : Int) = (a : Int) - (ln : Int) by omega], by go_num, by go_num, by omega, by omega, by omega, ⟨by rw [HMT.out, List.length_append, HLN.out]; have := HI.out.1; omega, by rw [HMT.out, cn_app, HCX.out, ← HI.out.2.1], fun h => by cases h⟩, ⟨by simp⟩⟩
          case measure => simp [intOf]; omega
    · exfalso
      obtain rfl : i = L.length := by omega
      have h1 := HI.out.1
      rw [List.take_length] at h1
      rcases HAT.out with h | ⟨h, h2⟩
      · omega
      · have hne := HR.out.ne
        have : 0 < L.length := List.length_pos_iff.2 hne
        have := HI.out.2.2 h this
        omega
end Go.Proofs.Ytbbiocmlicoipaa.PC
