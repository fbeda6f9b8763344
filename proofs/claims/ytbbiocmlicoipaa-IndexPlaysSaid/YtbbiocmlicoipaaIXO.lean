/- Rows of marks and of steps handed in, opened; what the walk reads of them; no condition. -/
import Derived.Test.YtbbiocmlicoipaaK3
import Derived.Test.YtbbiocmlicoipaaC0
import Derived.Test.YtbbiocmlicoipaaRows
import Derived.ProofKit
import Derived.OpenShut
import Derived.ChangeOld
import Derived.KernelRfl
namespace Go.Proofs.Ytbbiocmlicoipaa.OpenS
open Go.RowKit Go.ChangeShapes Go.WideShapes Go.ChangeAt Go.Proofs.Ytbbiocmlicoipaa.PC Go.Proofs.Ytbbiocmlicoipaa.K Go.Proofs.YtbbiocmlicoipaaW.PrintWords
set_option linter.unusedVariables false
/-- A step: its place, its mark, whether it is set. -/
structure Stp where
  at_ : Int
  seen : Bool
  set_ : Bool
def fS (s : Stp) : List Value := [.int .i64 s.at_, .bool s.seen, .bool s.set_]
section
variable {H : Type} {enc : TypeId × Value → H} {w : World} {base : Nat} {spare : Nat → Bool} {held : Bool}
theorem openBools {ts : List TypeId} {ds : List (DataW H)} {j : Nat} {a : Option Addr} {len cap : Nat} {d : DataW H} {ps : List MemPlace} (hsz : (DataW.weightsEach Try.prog ts ds).all (· ≤ reachBytes) = true) (ht : ts[j]? = some 40) (hd : ds[j]? = some d)
    (h : DataW.Trod enc Try.prog w base spare held 40 (.slice a len cap) d ps) :
    ∃ zs : List Bool, zs.length = len ∧ Kd.C Kd.bool w a zs.length zs ∧ zs.length ≤ cap ∧ zs.length * 1 ≤ 140737488351232 ∧ ∀ y ∈ zs, True :=
  open_rows (K := Kd.bool.K w) (sz := 1) hsz ht hd Try.underlying40 (by kernel_rfl) (by kernel_rfl) (fun x c hx => by rw [show c = [Value.bool x] from hx]; rfl) (fun n cs x hx => by
    obtain ⟨b, hb, _⟩ := DataW.trod_bool Try.underlying4 hx
    exact ⟨b, hb, trivial⟩) h
theorem openSteps {ts : List TypeId} {ds : List (DataW H)} {j : Nat} {a : Option Addr} {len cap : Nat} {d : DataW H} {ps : List MemPlace} (hsz : (DataW.weightsEach Try.prog ts ds).all (· ≤ reachBytes) = true) (ht : ts[j]? = some 22) (hd : ds[j]? = some d)
    (h : DataW.Trod enc Try.prog w base spare held 22 (.slice a len cap) d ps) :
    ∃ zs : List Stp, zs.length = len ∧ ReadsRow (fun s c => c = fS s) 3 w a zs.length zs ∧ zs.length ≤ cap ∧ zs.length * 16 ≤ 140737488351232 ∧ ∀ y ∈ zs, (Lit.int .i64 y.at_).wf = true :=
  open_rows (K := fun s c => c = fS s) (sz := 3) hsz ht hd Try.underlying22 (by kernel_rfl) (by kernel_rfl) (fun x c hx => by rw [hx]; rfl) (fun n cs x hx => by
    obtain ⟨xs, n', _, _, hl, hlen, hf⟩ := DataW.trod_struct Try.underlying28 hx
    have hc : Try.prog.cellsOf 28 = 3 := by kernel_rfl
    have hi : Try.prog.cellsOf 3 = 1 := by kernel_rfl
    have hb : Try.prog.cellsOf 4 = 1 := by kernel_rfl
    rw [hc] at hl
    match cs, hl, xs, hlen with
    | [c0, c1, c2], _, [y0, y1, y2], _ =>
      have g0 := hf 0 _ rfl
      have g1 := hf 1 _ rfl
      have g2 := hf 2 _ rfl
      simp [hi, hb] at g0 g1 g2
      obtain ⟨a, ha, _, wa⟩ := DataW.trod_int Try.underlying3 (x := y0) (by simpa using g0)
      obtain ⟨b, hb, _⟩ := DataW.trod_bool Try.underlying4 (x := y1) (by simpa using g1)
      obtain ⟨c, hc, _⟩ := DataW.trod_bool Try.underlying4 (x := y2) (by simpa using g2)
      simp only [List.cons.injEq, and_true] at ha hb hc
      rw [ha, hb, hc]
      exact ⟨⟨a, b, c⟩, rfl, wa⟩) h
end
theorem cell_bool {w wr : World} {A : Option Addr} {l : List Bool} (h : Kd.C Kd.bool w A l.length l) (hb : Below w.heap.size w wr) (i : Nat) (hi : i < l.length) : ∃ ad, A = some ad ∧ wr.cell? (ad.add i) = some (.bool l[i]) := by
  obtain ⟨ad, e, hc⟩ := h.2.2 (by omega)
  obtain ⟨c, _, hk, hcell⟩ := hc i l[i] (List.getElem?_eq_getElem hi)
  have hk : c = [Value.bool l[i]] := hk
  subst hk
  have h0 := hcell 0 _ rfl
  have h0 : w.cell? (ad.add i) = some (.bool l[i]) := by
    have e2 : i * Kd.bool.sz + 0 = i := by show i * 1 + 0 = i; omega
    rw [e2] at h0; exact h0
  exact ⟨ad, e, (hb.cell (World.block_lt_of_cell? w _ h0)).trans h0⟩
theorem cell_step {w wr : World} {A : Option Addr} {l : List Stp} (h : ReadsRow (fun s c => c = fS s) 3 w A l.length l) (hb : Below w.heap.size w wr) (i : Nat) (hi : i < l.length) : ∃ ad, A = some ad ∧ wr.cell? (ad.add (i * 3)) = some (.int .i64 l[i].at_) ∧ wr.cell? ⟨(ad.add (i * 3)).block, (ad.add (i * 3)).off + 1, none⟩ = some (.bool l[i].seen) ∧ wr.cell? ⟨(ad.add (i * 3)).block, (ad.add (i * 3)).off + 2, none⟩ = some (.bool l[i].set_) := by
  obtain ⟨ad, e, hc⟩ := h.2.2 (by omega)
  obtain ⟨c, _, hk, hcell⟩ := hc i l[i] (List.getElem?_eq_getElem hi)
  have hk : c = fS l[i] := hk
  subst hk
  have h0 := hcell 0 _ rfl
  have h1 := hcell 1 _ rfl
  have h2 := hcell 2 _ rfl
  refine ⟨ad, e, (hb.cell (World.block_lt_of_cell? w _ h0)).trans h0, ?_, ?_⟩
  · have e2 := (hb.cell (World.block_lt_of_cell? w _ h1)).trans h1
    rw [add_field _ _ 1 (by omega)] at e2
    exact e2
  · have e2 := (hb.cell (World.block_lt_of_cell? w _ h2)).trans h2
    rw [add_field _ _ 2 (by omega)] at e2
    exact e2
end Go.Proofs.Ytbbiocmlicoipaa.OpenS
