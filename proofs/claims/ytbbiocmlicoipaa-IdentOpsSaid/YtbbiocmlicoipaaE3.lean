/- ident.With comes to what With by places tells; vectors of at most some thousands, whose authors rise. -/
import Derived.Test.YtbbiocmlicoipaaE2
namespace Go.Proofs.Ytbbiocmlicoipaa.PC
open Go.RowKit Go.Proofs.YtbbiocmlicoipaaW.PrintWords Go.Proofs.YtbbiocmlicoipaaW.PrintLast Go.Proofs.YtbbiocmlicoipaaW.PrintMore Go.Proofs.Ytbbiocmlicoipaa.K Go.Proofs.Ytbbiocmlicoipaa.I
attribute [local go_sem] max2_int min2_int max_two min_two max_three min_three max_four min_four
set_option linter.unusedVariables false
set_option linter.unusedSimpArgs false
theorem owns_of_srow {w : World} {base : Nat} {e : TypeId} {sz : Nat} {v : Value} {n : Nat} {xs : List Value} (h : SRow w e sz True v n xs) (hb : ∀ g, v.ownBlock = some g → base ≤ g) : w.ownsRow base e sz v n xs := by
  refine ⟨h.1, ?_⟩
  rcases h.2 with h2 | ⟨g, cap, cur, hv, hg, hn, hc, hs, hq, ht⟩
  · exact .inl h2
  · exact .inr ⟨g, cap, cur, hv, hb g (by rw [hv]; rfl), hg, hn, hc, (hq trivial).symm, ht⟩
theorem ins_flat (xs : List S54) (i : Nat) (e : S54) : (xs.flatMap fl54).take (i * 2) ++ fl54 e ++ (xs.flatMap fl54).drop (i * 2) = (xs.take i ++ [e] ++ xs.drop i).flatMap fl54 := by
  rw [flat_take (sz := 2) (fun _ => rfl), flat_drop (sz := 2) (fun _ => rfl), List.flatMap_append, List.flatMap_append, List.flatMap_cons, List.flatMap_nil, List.append_nil]
theorem ownBlock_lt {w : World} {base : Nat} {e : TypeId} {sz : Nat} {v : Value} {n : Nat} {xs : List Value} (h : w.ownsRow base e sz v n xs) : ∀ g, v.ownBlock = some g → g < w.heap.size := by
  intro g hg
  rcases h.2 with ⟨rfl, _⟩ | ⟨g', cap, cur, rfl, _, hh, _⟩
  · simp [Value.ownBlock] at hg
  · simp [Value.ownBlock] at hg
    subst hg
    exact lt_of hh
theorem own_ge {w : World} {base : Nat} {e : TypeId} {sz : Nat} {v : Value} {n : Nat} {xs : List Value} (h : w.ownsRow base e sz v n xs) : ∀ g, v.ownBlock = some g → base ≤ g := by
  intro g hg
  rcases h.2 with ⟨rfl, _⟩ | ⟨g', cap, cur, rfl, hb, hh, _⟩
  · simp [Value.ownBlock] at hg
  · simp [Value.ownBlock] at hg
    subst hg
    exact hb
theorem blk_alloc_new (w : World) (o : Obj) : (w.alloc o).heap[w.heap.size]? = some o := Array.getElem?_push_size
theorem alloc_size (w : World) (o : Obj) : (w.alloc o).heap.size = w.heap.size + 1 := Array.size_push _
/-- slices.Insert of one entry. -/
theorem ins54 (w : World) {base : Nat} (v : Value) (xs : List S54) (i vb : Nat) (a s : Int) (h : w.ownsRow base 54 2 v xs.length (xs.flatMap fl54)) (hi : i ≤ xs.length) (hv : w.heap[vb]? = some (.cells #[.int .i64 a, .int .i64 s] 54 (0, 0))) (hne : v.ownBlock ≠ some vb) (hb : (xs.length + 1) * 16 ≤ 140737488355328) :
    Calls Try.prog 51 #[v, .int .i64 i, .slice (some ⟨vb, 0, none⟩) 1 1] w fun e w' => ∃ v', e = .returned v' ∧ Ins w 54 2 True v (xs.length + 1) ((xs.take i ++ [(⟨a, s⟩ : S54)] ++ xs.drop i).flatMap fl54) v' w' := by
  rw [← ins_flat]
  exact insE_calls w True v xs.length i vb (xs.flatMap fl54) (fl54 ⟨a, s⟩) (srow_of_owns h) hi hv hne rfl (by intro v hv; simp [fl54] at hv; rcases hv with rfl | rfl <;> rfl) (flat_one xs) hb
set_option maxHeartbeats 4000000 in
set_option maxRecDepth 100000 in
/-- With where the author has no entry, and none is put. -/
theorem with_none (xs : List S54) (a s : Int) (A : Option Addr) (c : Nat) (w : World) (hr : Kd.C k54 w A xs.length xs) (hup : upS xs) (hl : xs.length ≤ 1000000) (hh : has xs a = false) (h0 : ¬ 0 < s) :
    Calls Try.prog 30 #[.slice A xs.length c, .int .i64 a, .int .i64 s] w fun e w' => ∃ v, e = .returned v ∧ Kd.R k54 54 w' w.heap.size (fun _ => True) v xs ∧ Below w.heap.size w w' := by
  have hcl := cloneE_calls w A c xs hr hl
  have hpl := fun W (B : Option Addr) (d : Nat) (h1 : Kd.C k54 W B xs.length xs) (h2 : xs.length ≤ d) => place_calls xs a B d W h1 h2 hup hl
  rw [hh] at hpl
  generalize cnt xs a = i at *
  have HPL := Lib.hid hpl
  have HCL := Lib.hid hcl
  clear hpl hcl hh hup hr
  go_enter Try.func30, Try.ntmps30
  go_wp2_with (first
    | (go_at_call 49; refine HCL.out.mono ?_; rintro e w1 ⟨v, rfl, ho, hb⟩; obtain ⟨B, cap, rfl, hnc⟩ : ∃ B cap, v = .slice B xs.length cap ∧ xs.length ≤ cap := (by rcases (owns54 ho).2 with ⟨rfl, h0⟩ | ⟨g, cap, cur, rfl, _, _, hn, _⟩; (rw [h0]; exact ⟨_, _, rfl, Nat.le_refl _⟩); exact ⟨_, _, rfl, hn⟩); have HO := Lib.hid ho; have HB1 := Lib.hid hb; clear ho hb)
    | (go_at_call 50; refine (HPL.out _ B cap (Kd.R_reads' HO.out).2.2 hnc).mono ?_; rintro e w2 ⟨rfl, hb2⟩; have HB2 := Lib.hid hb2; clear hb2))
  go_ret
  exact ⟨_, rfl, Kd.R_below HO.out HB2.out, below_step HB1.out HB2.out⟩
set_option maxHeartbeats 4000000 in
set_option maxRecDepth 100000 in
/-- With where the author has no entry, and one is put. -/
theorem with_new (xs : List S54) (a s : Int) (A : Option Addr) (c : Nat) (w : World) (hr : Kd.C k54 w A xs.length xs) (hup : upS xs) (hl : xs.length ≤ 1000000) (hh : has xs a = false) (h0 : 0 < s) :
    Calls Try.prog 30 #[.slice A xs.length c, .int .i64 a, .int .i64 s] w fun e w' => ∃ v, e = .returned v ∧ Kd.R k54 54 w' w.heap.size (fun _ => True) v (xs.take (cnt xs a) ++ [⟨a, s⟩] ++ xs.drop (cnt xs a)) ∧ Below w.heap.size w w' := by
  have hcl := cloneE_calls w A c xs hr hl
  have hpl := fun W (B : Option Addr) (d : Nat) (h1 : Kd.C k54 W B xs.length xs) (h2 : xs.length ≤ d) => place_calls xs a B d W h1 h2 hup hl
  rw [hh] at hpl
  have hcn := cnt_le xs a
  generalize cnt xs a = i at *
  have hlen : (xs.take i ++ [(⟨a, s⟩ : S54)] ++ xs.drop i).length = xs.length + 1 := by simp only [List.length_append, List.length_take, List.length_drop, List.length_singleton]; omega
  have HPL := Lib.hid hpl
  have HCL := Lib.hid hcl
  have HLEN := Lib.hid hlen
  clear hpl hcl hh hup hr hlen
  go_enter Try.func30, Try.ntmps30
  go_wp2_with (first
    | (go_at_call 49; refine HCL.out.mono ?_; rintro e w1 ⟨v, rfl, ho, hb⟩; obtain ⟨B, cap, rfl, hnc⟩ : ∃ B cap, v = .slice B xs.length cap ∧ xs.length ≤ cap := (by rcases (owns54 ho).2 with ⟨rfl, h0⟩ | ⟨g, cap, cur, rfl, _, _, hn, _⟩; (rw [h0]; exact ⟨_, _, rfl, Nat.le_refl _⟩); exact ⟨_, _, rfl, hn⟩); have HO := Lib.hid ho; have HB1 := Lib.hid hb; clear ho hb)
    | (go_at_call 50; refine (HPL.out _ B cap (Kd.R_reads' HO.out).2.2 hnc).mono ?_; rintro e w2 ⟨rfl, hb2⟩; have HB2 := Lib.hid hb2; have HO2 := Lib.hid (owns54 (Kd.R_below HO.out hb2)); clear hb2)
    | (go_at_call 51; refine (ins54 (w2.alloc (Obj.cells #[.int .i64 a, .int .i64 s] 54 (0, 0))) _ xs i w2.heap.size a s ((HO2.out).alloc _) hcn (blk_alloc_new _ _) ?hvb ?hbt).mono ?_; (case hvb => have h1 := ownBlock_lt HO2.out; exact fun e => Nat.lt_irrefl _ (h1 _ e)); (case hbt => omega); rintro e w4 ⟨v4, rfl, hI⟩; have HI := Lib.hid hI; clear hI))
  go_ret
  have hsz : w.heap.size ≤ w2.heap.size := Nat.le_trans HB1.out.size HB2.out.size
  obtain ⟨hS, hg, hB, hN⟩ := HI.out
  have hob : ∀ g, (Value.slice B xs.length cap).ownBlock = some g → w.heap.size ≤ g := own_ge HO2.out
  refine ⟨_, rfl, R54 ?_, Below.grown ((below_step HB1.out HB2.out).alloc hsz _) hg (by rw [alloc_size]; omega) hob⟩
  rw [HLEN.out]
  refine owns_of_srow hS fun g hg => ?_
  rcases hB with hB | ⟨b, hb, hle⟩
  · exact hob g (hB.symm.trans hg)
  · have hg := hb.symm.trans hg
    cases hg
    rw [alloc_size] at hle
    omega
/-- With comes to With by places. -/
theorem with_calls (xs : List S54) (a s : Int) (A : Option Addr) (c : Nat) (w : World) (hr : Kd.C k54 w A xs.length xs) (hup : upS xs) (hl : xs.length ≤ 1000000) :
    Calls Try.prog 30 #[.slice A xs.length c, .int .i64 a, .int .i64 s] w fun e w' => ∃ v, e = .returned v ∧ Kd.R k54 54 w' w.heap.size (fun _ => True) v (wtS xs a s) ∧ Below w.heap.size w w' := by
  by_cases hh : has xs a = true
  · exact with_has xs a s A c w hr hup hl hh
  · have hh' : has xs a = false := by simpa using hh
    unfold wtS
    rw [if_neg hh]
    by_cases h0 : 0 < s
    · rw [if_pos h0]
      exact with_new xs a s A c w hr hup hl hh' h0
    · rw [if_neg h0]
      exact with_none xs a s A c w hr hup hl hh' h0
end Go.Proofs.Ytbbiocmlicoipaa.PC
