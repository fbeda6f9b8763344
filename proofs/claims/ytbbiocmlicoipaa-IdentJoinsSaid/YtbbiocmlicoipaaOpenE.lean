/- A slice of entries handed in, opened: its entries; no condition. -/
import Derived.Test.YtbbiocmlicoipaaK3
import Derived.Test.YtbbiocmlicoipaaC0
import Derived.Test.YtbbiocmlicoipaaOpenS
namespace Go.Proofs.Ytbbiocmlicoipaa.OpenS
open Go.RowKit Go.ChangeShapes Go.WideShapes Go.ChangeAt Go.Joins Go.Proofs.Ytbbiocmlicoipaa.PC Go.Proofs.Ytbbiocmlicoipaa.K Go.Proofs.YtbbiocmlicoipaaW.PrintWords
set_option linter.unusedVariables false
variable {H : Type} {enc : TypeId × Value → H} {w : World} {base : Nat} {spare : Nat → Bool} {held : Bool}
/-- The two numbers of an entry's cells. -/
theorem cells54 {fuel : Nat} {cs : List Value} {x : DataW H × List MemPlace} (h : DataW.trod enc Try.prog w base spare held fuel 54 cs = some x) : ∃ y : S54, k54.K w y cs ∧ (Lit.int .i64 y.f0).wf = true ∧ (Lit.int .i64 y.f1).wf = true := by
  obtain ⟨xs, n, _, _, hl, hlen, hf⟩ := DataW.trod_struct Try.underlying54 h
  have hc : Try.prog.cellsOf 54 = 2 := by kernel_rfl
  have hi : Try.prog.cellsOf 3 = 1 := by kernel_rfl
  rw [hc] at hl
  match cs, hl, xs, hlen with
  | [c0, c1], _, [y0, y1], _ =>
    have g0 := hf 0 _ rfl
    have g1 := hf 1 _ rfl
    simp [hi] at g0 g1
    obtain ⟨a, ha, _, wa⟩ := DataW.trod_int Try.underlying3 (x := y0) (by simpa using g0)
    obtain ⟨b, hb, _, wb⟩ := DataW.trod_int Try.underlying3 (x := y1) (by simpa using g1)
    simp only [List.cons.injEq, and_true] at ha hb
    rw [ha, hb]
    exact ⟨⟨a, b⟩, k54_mk w ⟨a, b⟩, wa, wb⟩
theorem openEnts {ts : List TypeId} {ds : List (DataW H)} {j : Nat} {a : Option Addr} {len cap : Nat} {d : DataW H} {ps : List MemPlace} (hsz : (DataW.weightsEach Try.prog ts ds).all (· ≤ reachBytes) = true) (ht : ts[j]? = some 51) (hd : ds[j]? = some d)
    (h : DataW.Trod enc Try.prog w base spare held 51 (.slice a len cap) d ps) :
    ∃ zs : List S54, zs.length = len ∧ Kd.C k54 w a zs.length zs ∧ zs.length ≤ cap ∧ zs.length * 16 ≤ 140737488351232 ∧ ∀ y ∈ zs, (Lit.int .i64 y.f0).wf = true ∧ (Lit.int .i64 y.f1).wf = true :=
  open_rows (K := k54.K w) (sz := 2) hsz ht hd Try.underlying51 (by kernel_rfl) (by kernel_rfl) (fun x c hx => by rw [k54_open hx]; rfl) (fun n cs x hx => cells54 hx) h
end Go.Proofs.Ytbbiocmlicoipaa.OpenS
