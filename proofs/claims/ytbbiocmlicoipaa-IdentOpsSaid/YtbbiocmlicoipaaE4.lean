/- ident.Join, Gap and Covers come to what the plain functions tell; vectors of at most some thousands, whose authors rise. -/
import Derived.Test.YtbbiocmlicoipaaE3
import Derived.Test.YtbbiocmlicoipaaC1
namespace Go.Proofs.Ytbbiocmlicoipaa.PC
open Go.RowKit Go.Proofs.YtbbiocmlicoipaaW.PrintWords Go.Proofs.YtbbiocmlicoipaaW.PrintLast Go.Proofs.YtbbiocmlicoipaaW.PrintMore Go.Proofs.Ytbbiocmlicoipaa.K Go.Proofs.Ytbbiocmlicoipaa.I
attribute [local go_sem] max2_int min2_int max_two min_two max_three min_three max_four min_four
set_option linter.unusedVariables false
set_option linter.unusedSimpArgs false
theorem R54_form {w : World} {base : Nat} {ok : Nat → Prop} {v : Value} {xs : List S54} (h : Kd.R k54 54 w base ok v xs) : ∃ B cap, v = .slice B xs.length cap ∧ xs.length ≤ cap ∧ (B = none → cap = 0) := by
  rcases (owns54 h).2 with ⟨rfl, h0⟩ | ⟨g, cap, cur, rfl, _, _, hn, _⟩
  · rw [h0]; exact ⟨_, _, rfl, Nat.le_refl _, fun _ => rfl⟩
  · exact ⟨_, _, rfl, hn, fun h => by cases h⟩
def joinS (xs ys : List S54) : List S54 := ys.foldl (fun acc e => wtS acc e.f0 e.f1) xs
theorem wtS_up {xs : List S54} (h : upS xs) (a s : Int) : upS (wtS xs a s) := up_upS (by rw [wtS_eq h]; exact wt_up (upS_up h) a s)
theorem ens_len (xs : List S54) : (ens xs).length = xs.length := List.length_map _
theorem wtS_len {xs : List S54} (h : upS xs) (a s : Int) : (wtS xs a s).length ≤ xs.length + 1 := by
  rw [← ens_len, wtS_eq h, ← ens_len xs]
  exact wt_len _ _ _
theorem joinS_up {xs : List S54} (h : upS xs) (ys : List S54) : upS (joinS xs ys) := by
  induction ys generalizing xs with
  | nil => exact h
  | cons e ys ih => exact ih (wtS_up h _ _)
theorem joinS_len {xs : List S54} (h : upS xs) (ys : List S54) : (joinS xs ys).length ≤ xs.length + ys.length := by
  induction ys generalizing xs with
  | nil => exact Nat.le_refl _
  | cons e ys ih =>
    have := ih (wtS_up h e.f0 e.f1)
    have h2 := wtS_len h e.f0 e.f1
    rw [List.length_cons]
    show (joinS (wtS xs e.f0 e.f1) ys).length ≤ _
    omega
theorem joinS_eq {xs : List S54} (h : upS xs) (ys : List S54) : ens (joinS xs ys) = jn (ens xs) (ens ys) := by
  induction ys generalizing xs with
  | nil => rfl
  | cons e ys ih =>
    show ens (joinS (wtS xs e.f0 e.f1) ys) = jn (wt (ens xs) e.f0 e.f1) (ens ys)
    rw [ih (wtS_up h _ _), wtS_eq h]
theorem joinS_succ (xs ys : List S54) (i : Nat) (h : i < ys.length) : joinS xs (ys.take (i + 1)) = wtS (joinS xs (ys.take i)) (rd_T54 ys (i : Int)).f0 (rd_T54 ys (i : Int)).f1 := by
  have := rd54_nat ys i h
  unfold joinS
  rw [List.take_add_one, List.foldl_append, this]
  rfl
set_option maxHeartbeats 4000000 in
set_option maxRecDepth 100000 in
theorem join_calls (xs ys : List S54) (A B : Option Addr) (c d : Nat) (w : World) (hr : Kd.C k54 w A xs.length xs) (hup : upS xs) (hr2 : Kd.C k54 w B ys.length ys) (hl : xs.length + ys.length ≤ 1000000) :
    Calls Try.prog 36 #[.slice A xs.length c, .slice B ys.length d] w fun e w' => ∃ v, e = .returned v ∧ Kd.R k54 54 w' w.heap.size (fun _ => True) v (joinS xs ys) ∧ Below w.heap.size w w' := by
  have HR := Lib.hid hr
  have HR2 := Lib.hid hr2
  have HUP := Lib.hid hup
  clear hr hr2 hup
  go_enter Try.func36, Try.ntmps36
  go_wp2
  go_loopw [0, 9] (fun v0 v9 w' => ∃ (i : Nat) (A' : Option Addr) (c' n : Nat), v0 = .slice A' n c' ∧ v9 = .int .i64 i ∧ i ≤ ys.length ∧ Aside0 (n = (joinS xs (ys.take i)).length ∧ Kd.C k54 w' A' (joinS xs (ys.take i)).length (joinS xs (ys.take i))) ∧ Aside0 (Below w.heap.size w w')) (fun v0 v9 _ => ys.length - (intOf v9).toNat)
  case atStart => exact ⟨0, A, c, xs.length, rfl, rfl, by omega, ⟨rfl, HR.out⟩, ⟨Below.refl _ _⟩⟩
  case round =>
    obtain ⟨i, A', c', n, rfl, rfl, hi, HI, HB⟩ := hrel
    by_cases hlt : i < ys.length
    · obtain ⟨ad, eA, hx0, hx1⟩ := at_T54 HR2.out (i : Int) (by omega) (by omega)
      subst eA
      simp only [Int.toNat_natCast] at hx0 hx1
      replace hx0 := (HB.out.cell (World.block_lt_of_cell? w _ hx0)).trans hx0
      replace hx1 := (HB.out.cell (World.block_lt_of_cell? w _ hx1)).trans hx1
      have HS := Aside0.mk (joinS_succ xs ys i hlt)
      have hlen : (joinS xs (ys.take i)).length ≤ 1000000 := by
        have := joinS_len HUP.out (ys.take i)
        rw [List.length_take] at this
        omega
      have HU := Aside0.mk (joinS_up HUP.out (ys.take i))
      have HL := Aside0.mk hlen
      clear hlen
      generalize joinS xs (ys.take i) = zs at *
      generalize rd_T54 ys (i : Int) = ev at hx0 hx1 HS
      obtain ⟨rfl, _⟩ := HI.out
      go_wp2_with (go_at_call 30; refine (with_calls zs ev.f0 ev.f1 A' c' _ (Kd.C_below HI.out.2 ((Below.refl _ _).alloc (Nat.le_refl _) _))  HU.out HL.out).mono ?_; rintro e w' ⟨v, rfl, ho, hb⟩; obtain ⟨B', cap, rfl, hcap, hnil⟩ := R54_form ho; have HO := Aside0.mk ho; have HB2 := Aside0.mk hb; have HNI := Aside0.mk hnil; clear ho hb hnil)
      go_roundw
      case rel =>
        refine ⟨i + 1, B', cap, _, rfl, by go_num, by omega, ⟨by rw [HS.out], by rw [HS.out]; exact (Kd.R_reads' HO.out).2.2⟩, ⟨below_step HB.out (below_step ((Below.refl _ _).alloc (Nat.le_refl _) _) HB2.out)⟩⟩
      case measure => simp [intOf]; omega
    · obtain rfl : i = ys.length := by omega
      have HS := Aside0.mk (congrArg (joinS xs) (List.take_length (l := ys)))
      have hlen : (joinS xs (ys.take ys.length)).length ≤ 1000000 := by
        have := joinS_len HUP.out (ys.take ys.length)
        rw [List.length_take] at this
        omega
      have HL := Aside0.mk hlen
      clear hlen
      generalize joinS xs (ys.take ys.length) = zs at *
      obtain ⟨rfl, _⟩ := HI.out
      go_wp2_with (go_at_call 49; refine (cloneE_calls _ A' c' zs HI.out.2  HL.out).mono ?_; rintro e w' ⟨v, rfl, ho, hb⟩; have HO := Aside0.mk ho; have HB2 := Aside0.mk hb; clear ho hb)
      go_ret
      have := HO.out
      rw [HS.out] at this
      exact ⟨_, rfl, R54 (own_less (owns54 this) HB.out.size), below_step HB.out HB2.out⟩
end Go.Proofs.Ytbbiocmlicoipaa.PC
