/- An ID and an operation handed in, opened: their numbers; no condition. -/
import Derived.Test.YtbbiocmlicoipaaRows
import Derived.ProofKit
import Derived.OpenShut
import Derived.ChangeOld
import Derived.Lib.SmallJoins
import Derived.KernelRfl
namespace Go.Proofs.Ytbbiocmlicoipaa.OpenS
open Go.ChangeShapes Go.WideShapes Go.ChangeAt Go.Joins
set_option linter.unusedVariables false
variable {H : Type} {enc : TypeId × Value → H} {w : World} {base : Nat} {spare : Nat → Bool} {held : Bool}
/-- The two numbers of an ID's cells. -/
theorem cells59 {fuel : Nat} {cs : List Value} {x : DataW H × List MemPlace} (h : DataW.trod enc Try.prog w base spare held fuel 59 cs = some x) : ∃ a b, cs = [.int .i64 a, .int .i64 b] ∧ (Lit.int .i64 a).wf = true ∧ (Lit.int .i64 b).wf = true := by
  obtain ⟨xs, n, _, _, hl, hlen, hf⟩ := DataW.trod_struct Try.underlying59 h
  have hc : Try.prog.cellsOf 59 = 2 := by kernel_rfl
  have hi : Try.prog.cellsOf 3 = 1 := by kernel_rfl
  rw [hc] at hl
  match cs, hl, xs, hlen with
  | [c0, c1], _, [y0, y1], _ =>
    have g0 := hf 0 _ rfl
    have g1 := hf 1 _ rfl
    simp [hi] at g0 g1
    obtain ⟨a, ha, _, wa⟩ := DataW.trod_int Try.underlying3 (x := y0) (by simpa using g0)
    obtain ⟨b, hb, _, wb⟩ := DataW.trod_int Try.underlying3 (x := y1) (by simpa using g1)
    simp only [List.cons.injEq, and_true] at ha hb
    exact ⟨a, b, by rw [ha, hb], wa, wb⟩
theorem open59 {r : Reach} {b0 : Nat} {v : Value} {d : DataW H} {p : List MemPlace} (hv : Value.okWide Try.prog w r b0 59 v) (h : DataW.Trod enc Try.prog w base spare held 59 v d p) :
    ∃ a b, v = .agg #[.int .i64 a, .int .i64 b] ∧ (Lit.int .i64 a).wf = true ∧ (Lit.int .i64 b).wf = true := by
  obtain ⟨cs, rfl, hsz⟩ := okWide_struct Try.underlying59 hv
  obtain ⟨fuel, hf⟩ := h
  obtain ⟨a, b, hc, wa, wb⟩ := cells59 hf
  have hc : cs.toList = [.int .i64 a, .int .i64 b] := by simpa [Value.cells] using hc
  exact ⟨a, b, by rw [show cs = cs.toList.toArray by simp, hc], wa, wb⟩
theorem open61 {r : Reach} {b0 : Nat} {v : Value} {d : DataW H} {p : List MemPlace} (hv : Value.okWide Try.prog w r b0 61 v) (h : DataW.Trod enc Try.prog w base spare held 61 v d p) :
    ∃ a b c e f g i, v = .agg #[.int .i64 a, .int .i64 b, .int .i64 c, .bool e, .int .i64 f, .int .i64 g, .int .i32 i] ∧ (Lit.int .i64 a).wf = true ∧ (Lit.int .i64 b).wf = true ∧ (Lit.int .i64 c).wf = true ∧ (Lit.int .i64 f).wf = true ∧ (Lit.int .i64 g).wf = true ∧ (Lit.int .i32 i).wf = true := by
  obtain ⟨cs, rfl, hsz⟩ := okWide_struct Try.underlying61 hv
  obtain ⟨fuel, hf⟩ := h
  obtain ⟨xs, n, _, _, hl, hlen, hff⟩ := DataW.trod_struct Try.underlying61 hf
  have hc : Try.prog.cellsOf 61 = 7 := by kernel_rfl
  have h3 : Try.prog.cellsOf 3 = 1 := by kernel_rfl
  have h4 : Try.prog.cellsOf 4 = 1 := by kernel_rfl
  have h21 : Try.prog.cellsOf 21 = 1 := by kernel_rfl
  have h59 : Try.prog.cellsOf 59 = 2 := by kernel_rfl
  rw [hc] at hl
  obtain ⟨l⟩ := cs
  simp only [Value.cells] at hl hff
  match l, hl, xs, hlen with
  | [c0, c1, c2, c3, c4, c5, c6], _, [y0, y1, y2, y3, y4], _ =>
    have g0 := hff 0 _ rfl
    have g1 := hff 1 _ rfl
    have g2 := hff 2 _ rfl
    have g3 := hff 3 _ rfl
    have g4 := hff 4 _ rfl
    simp [h3, h4, h21, h59] at g0 g1 g2 g3 g4
    obtain ⟨a, b, e0, wa, wb⟩ := cells59 (x := y0) (by simpa using g0)
    obtain ⟨c, e1, _, wc⟩ := DataW.trod_int Try.underlying3 (x := y1) (by simpa using g1)
    obtain ⟨e, e2, _⟩ := DataW.trod_bool Try.underlying4 (x := y2) (by simpa using g2)
    obtain ⟨f, g, e3, wf, wg⟩ := cells59 (x := y3) (by simpa using g3)
    obtain ⟨i, e4, _, wi⟩ := DataW.trod_int Try.underlying21 (x := y4) (by simpa using g4)
    simp only [List.cons.injEq, and_true] at e0 e1 e2 e3 e4
    exact ⟨a, b, c, e, f, g, i, by rw [e0.1, e0.2, e1, e2, e3.1, e3.2, e4], wa, wb, wc, wf, wg, wi⟩
end Go.Proofs.Ytbbiocmlicoipaa.OpenS
