/- The laws' shown of ident comes to true. -/
import Derived.Test.YtbbiocmlicoipaaE5
import Derived.Test.YtbbiocmlicoipaaC1
namespace Go.Proofs.Ytbbiocmlicoipaa.PC
open Go.RowKit Go.Proofs.YtbbiocmlicoipaaW.PrintWords Go.Proofs.YtbbiocmlicoipaaW.PrintLast Go.Proofs.YtbbiocmlicoipaaW.PrintMore Go.Proofs.Ytbbiocmlicoipaa.K Go.Proofs.Ytbbiocmlicoipaa.I
attribute [local go_sem] max2_int min2_int max_two min_two max_three min_three max_four min_four
set_option linter.unusedVariables false
set_option linter.unusedSimpArgs false
theorem lit54 {w : World} {g : Nat} {xs : List S54} (h : w.heap[g]? = some (.cells (xs.flatMap fl54).toArray 54 (0, 0))) (hl : xs.length ≤ maxLen) : Kd.C k54 w (some ⟨g, 0, none⟩) xs.length xs := by
  have hf : (xs.flatMap fl54).length = xs.length * 2 := flat_len (sz := 2) (fun _ => rfl) xs
  have ho : w.ownsRow 0 54 2 (.slice (some ⟨g, 0, none⟩) xs.length xs.length) xs.length (xs.flatMap fl54) :=
    ⟨hf, .inr ⟨g, xs.length, _, rfl, Nat.zero_le _, h, Nat.le_refl _, hl, by rw [List.size_toArray, hf], List.take_of_length_le (by rw [hf]; exact Nat.le_refl _)⟩⟩
  exact (Kd.R_reads' (R54 ho)).2.2
def v12 : List S54 := [⟨5, 3⟩, ⟨7, 1⟩]
theorem join12 : joinS [⟨5, 1⟩] [⟨5, 3⟩, ⟨7, 1⟩] = v12 := by rfl
theorem gap12 : gp (ens []) (ens v12) = 4 := by decide
theorem vec12 : ident_Vector.f 5 v12 = some true := by decide +kernel
theorem right12 : ident_Right.f 5 1 0 1 true 0 0 97 = some true := by decide +kernel
theorem blk_alloc_two (w : World) (o o' : Obj) : ((w.alloc o).alloc o').heap[w.heap.size + 1]? = some o' := by
  have := blk_alloc_new (w.alloc o) o'
  rw [alloc_size] at this
  exact this
theorem C54_nil (w : World) : Kd.C k54 w none 0 [] := (Kd.R_reads' (R54 (World.ownsRow_nil w 0 54 2) : Kd.R k54 54 w 0 (fun _ => True) (.slice none 0 0) [])).2.2
theorem auth12 : ident_Author.f 1 2 = some (65538, true) := by decide +kernel
theorem parts12 : ident_Parts.f 65538 = some (1, 2, true) := by decide +kernel
theorem fit12 : fit (ens v12) := by
  intro e he
  simp [ens, v12, toE] at he
  rcases he with rfl | rfl <;> decide
set_option maxHeartbeats 4000000 in
set_option maxRecDepth 100000 in
theorem shown12_calls (w : World) : Calls Try.prog 27 #[] w fun e w' => e = .returned (.bool true) ∧ Below w.heap.size w w' := by
  go_enter Try.func27, Try.ntmps27
  go_wp2_with (first
    | (go_at_call 28; refine (ident_Author.calls 1 2 65538 true _ auth12).mono ?_; rintro e w1 ⟨rfl, ⟨n1, rfl⟩⟩)
    | (go_at_call 29; refine (ident_Parts.calls 65538 1 2 true _ parts12).mono ?_; rintro e w2 ⟨rfl, ⟨n2, rfl⟩⟩)
    | (go_at_call 36; refine (join_calls [⟨5, 1⟩] [⟨5, 3⟩, ⟨7, 1⟩] _ _ _ _ _ (lit54 (blk_alloc (blk_alloc_new (w.drewN (n1 + n2)) _) _) (by decide)) (by simp [upS]) (lit54 (blk_alloc_two _ _ _) (by decide)) (by decide)).mono ?_; rintro e w3 ⟨v, rfl, ho, hb3⟩; rw [join12] at ho; obtain ⟨B, cap, rfl, hcap, hnil⟩ := R54_form ho; obtain ⟨ad, rfl, hx0, hx1⟩ := at_T54 (Kd.R_reads' ho).2.2 0 (by decide) (by decide); have HO := Lib.hid ho; have HB3 := Lib.hid hb3; clear ho hb3 hnil; simp only [show (rd_T54 v12 0).f0 = 5 from rfl, show (rd_T54 v12 0).f1 = 3 from rfl, show v12.length = 2 from rfl, show (0 : Int).toNat = 0 from rfl, Nat.zero_mul] at hx0 hx1 hcap; rw [show ad.add 0 = ad by (cases ad; rfl)] at hx0 hx1)
    | (go_at_call 38; refine (gap_calls [] v12 none (some ad) 0 cap w3 (C54_nil _) (Nat.le_refl _) (Kd.R_reads' HO.out).2.2 vec_nil fit12 (by decide) (by decide)).mono ?_; rw [gap12]; rintro e w4 ⟨rfl, hb4⟩; have HB4 := Lib.hid hb4; clear hb4)
    | (go_at_call 32; refine (ident_Vector.calls 5 (some ad) cap v12 true _ (Kd.C_below (Kd.R_reads' HO.out).2.2 HB4.out) hcap vec12).mono ?_; rintro e w5 ⟨rfl, hb5⟩; have HB5 := Lib.hid hb5; clear hb5)
    | (go_at_call 34; refine (ident_Right.calls 5 1 0 1 true 0 0 97 true _ right12).mono ?_; rintro e w6 ⟨rfl, hb6⟩; have HB6 := Lib.hid hb6; clear hb6))
  go_ret
  exact ⟨rfl, below_step (below_step (below_step (below_step ((((pw_below_drewN (Below.refl _ w) (n1 + n2)).alloc (Nat.le_refl _) _)).alloc (by rw [alloc_size]; exact Nat.le_succ _) _) HB3.out) HB4.out) HB5.out) HB6.out⟩
end Go.Proofs.Ytbbiocmlicoipaa.PC
