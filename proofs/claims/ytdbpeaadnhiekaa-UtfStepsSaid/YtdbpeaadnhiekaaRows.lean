/-
  No cell of these rows narrows 'for every input' (looked for: loops, veiled, ifaces, maps, wideKeys, modest, calm, conditions, laid).
  DERIVED. THE GIVEN ROWS OF THIS SEAT. 8 by the template 'for every input the law returns true; each argument reads behind the call as it read before'; 0 by the template 'total and deterministic' (their statements: YtdbpeaadnhiekaaTotals.lean).
  GIVEN WITH THE SEED: the statements are not yours to turn. If you find one false, say at which input.
  Laid BY PROGRAM, IN A SANDBOX (cutbox-rows.mjs): the forced cells as the released guide's own fill.sh prints them over the translation f32e33d4e556d068… (all of the seat's roots in one cut). By AI agents, Wed Nov 11 2026. No macro, syntax, notation, axiom, sorry.
-/
import Derived.Test.YtdbpeaadnhiekaaChecked
import GoSem.Claim
import GoSem.ClaimJoined
import GoSem.ClaimMapViews
import Derived.JoinedTies
import Derived.KernelRfl
namespace Go.Proofs.Ytdbpeaadnhiekaa
/- THE CELL 'sum', in the pinned program and in every row, IS THE sha256 OF THE DUMP (.gsa) THAT YtdbpeaadnhiekaaProg.lean LOADS. Nothing in Lean hashes anything: it is a label: what it is worth is what the hold of that sum in a sandbox is worth. -/
noncomputable def Try.pinned : Pinned := { name := "ytdbpeaadnhiekaa", sum := "f32e33d4e556d068513b0241768ba0b62fbb71fe590d7e2e15844f569f1e3302", checked := Try.checked }
namespace Rows
def none {H : Type} : Left H := { results := [], args := [] }

/-- 'foolscaplaw01.UtfTells': WHATEVER THE INPUT: true; the input reads as it did. -/
def utfTellsSpec : ChangeSpec := { name := "utfTells", fn := fun _ => fun
  | [d1, d2, d3] => { results := [.lit (.bool true)], args := [d1, d2, d3] }
  | _ => none }
def utfTellsRow : OpenClaim := { program := "ytdbpeaadnhiekaa", sum := "f32e33d4e556d068513b0241768ba0b62fbb71fe590d7e2e15844f569f1e3302", func := "foolscap/foolscaplaw01.UtfTells", spec := "utfTells", recurses := true, apart := false }
def UtfTellsSaid : Prop := utfTellsRow.holds Try.pinned (OpenSpec.ofChange utfTellsSpec)

/-- ITS FALSE NEIGHBOUR: 'it returns false'. Refute it at one input. -/
def utfTellsWrong : ChangeSpec := { name := "utfTells", fn := fun _ => fun
  | [d1, d2, d3] => { results := [.lit (.bool false)], args := [d1, d2, d3] }
  | _ => none }
def UtfTellsWrongFalsely : Prop := utfTellsRow.holds Try.pinned (OpenSpec.ofChange utfTellsWrong)

/-- 'foolscaplaw01.UtfBack': WHATEVER THE INPUT: true; the input reads as it did. -/
def utfBackSpec : ChangeSpec := { name := "utfBack", fn := fun _ => fun
  | [d1, d2] => { results := [.lit (.bool true)], args := [d1, d2] }
  | _ => none }
def utfBackRow : OpenClaim := { program := "ytdbpeaadnhiekaa", sum := "f32e33d4e556d068513b0241768ba0b62fbb71fe590d7e2e15844f569f1e3302", func := "foolscap/foolscaplaw01.UtfBack", spec := "utfBack", apart := false }
def UtfBackSaid : Prop := utfBackRow.holds Try.pinned (OpenSpec.ofChange utfBackSpec)

/-- ITS FALSE NEIGHBOUR: 'it returns false'. Refute it at one input. -/
def utfBackWrong : ChangeSpec := { name := "utfBack", fn := fun _ => fun
  | [d1, d2] => { results := [.lit (.bool false)], args := [d1, d2] }
  | _ => none }
def UtfBackWrongFalsely : Prop := utfBackRow.holds Try.pinned (OpenSpec.ofChange utfBackWrong)

/-- 'foolscaplaw01.UtfParts': WHATEVER THE INPUT: true; the input reads as it did. -/
def utfPartsSpec : ChangeSpec := { name := "utfParts", fn := fun _ => fun
  | [d1, d2] => { results := [.lit (.bool true)], args := [d1, d2] }
  | _ => none }
def utfPartsRow : OpenClaim := { program := "ytdbpeaadnhiekaa", sum := "f32e33d4e556d068513b0241768ba0b62fbb71fe590d7e2e15844f569f1e3302", func := "foolscap/foolscaplaw01.UtfParts", spec := "utfParts", apart := false }
def UtfPartsSaid : Prop := utfPartsRow.holds Try.pinned (OpenSpec.ofChange utfPartsSpec)

/-- ITS FALSE NEIGHBOUR: 'it returns false'. Refute it at one input. -/
def utfPartsWrong : ChangeSpec := { name := "utfParts", fn := fun _ => fun
  | [d1, d2] => { results := [.lit (.bool false)], args := [d1, d2] }
  | _ => none }
def UtfPartsWrongFalsely : Prop := utfPartsRow.holds Try.pinned (OpenSpec.ofChange utfPartsWrong)

/-- 'foolscaplaw01.UtfOne': WHATEVER THE INPUT: true; the input reads as it did. -/
def utfOneSpec : ChangeSpec := { name := "utfOne", fn := fun _ => fun
  | [d1, d2, d3] => { results := [.lit (.bool true)], args := [d1, d2, d3] }
  | _ => none }
def utfOneRow : OpenClaim := { program := "ytdbpeaadnhiekaa", sum := "f32e33d4e556d068513b0241768ba0b62fbb71fe590d7e2e15844f569f1e3302", func := "foolscap/foolscaplaw01.UtfOne", spec := "utfOne", apart := false }
def UtfOneSaid : Prop := utfOneRow.holds Try.pinned (OpenSpec.ofChange utfOneSpec)

/-- ITS FALSE NEIGHBOUR: 'it returns false'. Refute it at one input. -/
def utfOneWrong : ChangeSpec := { name := "utfOne", fn := fun _ => fun
  | [d1, d2, d3] => { results := [.lit (.bool false)], args := [d1, d2, d3] }
  | _ => none }
def UtfOneWrongFalsely : Prop := utfOneRow.holds Try.pinned (OpenSpec.ofChange utfOneWrong)

/-- 'foolscaplaw01.UtfOrder': WHATEVER THE INPUT: true; the input reads as it did. -/
def utfOrderSpec : ChangeSpec := { name := "utfOrder", fn := fun _ => fun
  | [d1, d2] => { results := [.lit (.bool true)], args := [d1, d2] }
  | _ => none }
def utfOrderRow : OpenClaim := { program := "ytdbpeaadnhiekaa", sum := "f32e33d4e556d068513b0241768ba0b62fbb71fe590d7e2e15844f569f1e3302", func := "foolscap/foolscaplaw01.UtfOrder", spec := "utfOrder", apart := false }
def UtfOrderSaid : Prop := utfOrderRow.holds Try.pinned (OpenSpec.ofChange utfOrderSpec)

/-- ITS FALSE NEIGHBOUR: 'it returns false'. Refute it at one input. -/
def utfOrderWrong : ChangeSpec := { name := "utfOrder", fn := fun _ => fun
  | [d1, d2] => { results := [.lit (.bool false)], args := [d1, d2] }
  | _ => none }
def UtfOrderWrongFalsely : Prop := utfOrderRow.holds Try.pinned (OpenSpec.ofChange utfOrderWrong)

/-- 'foolscaplaw01.UtfSteps': WHATEVER THE INPUT: true; the input reads as it did. -/
def utfStepsSpec : ChangeSpec := { name := "utfSteps", fn := fun _ => fun
  | [d] => { results := [.lit (.bool true)], args := [d] }
  | _ => none }
def utfStepsRow : OpenClaim := { program := "ytdbpeaadnhiekaa", sum := "f32e33d4e556d068513b0241768ba0b62fbb71fe590d7e2e15844f569f1e3302", func := "foolscap/foolscaplaw01.UtfSteps", spec := "utfSteps", apart := false }
def UtfStepsSaid : Prop := utfStepsRow.holds Try.pinned (OpenSpec.ofChange utfStepsSpec)

/-- ITS FALSE NEIGHBOUR: 'it returns false'. Refute it at one input. -/
def utfStepsWrong : ChangeSpec := { name := "utfSteps", fn := fun _ => fun
  | [d] => { results := [.lit (.bool false)], args := [d] }
  | _ => none }
def UtfStepsWrongFalsely : Prop := utfStepsRow.holds Try.pinned (OpenSpec.ofChange utfStepsWrong)

/-- 'foolscaplaw01.UtfSums': WHATEVER THE INPUT: true; the input reads as it did. -/
def utfSumsSpec : ChangeSpec := { name := "utfSums", fn := fun _ => fun
  | [d1, d2] => { results := [.lit (.bool true)], args := [d1, d2] }
  | _ => none }
def utfSumsRow : OpenClaim := { program := "ytdbpeaadnhiekaa", sum := "f32e33d4e556d068513b0241768ba0b62fbb71fe590d7e2e15844f569f1e3302", func := "foolscap/foolscaplaw01.UtfSums", spec := "utfSums", apart := false }
def UtfSumsSaid : Prop := utfSumsRow.holds Try.pinned (OpenSpec.ofChange utfSumsSpec)

/-- ITS FALSE NEIGHBOUR: 'it returns false'. Refute it at one input. -/
def utfSumsWrong : ChangeSpec := { name := "utfSums", fn := fun _ => fun
  | [d1, d2] => { results := [.lit (.bool false)], args := [d1, d2] }
  | _ => none }
def UtfSumsWrongFalsely : Prop := utfSumsRow.holds Try.pinned (OpenSpec.ofChange utfSumsWrong)

/-- 'foolscaplaw01.UtfPlain': WHATEVER THE INPUT: true; the input reads as it did. -/
def utfPlainSpec : ChangeSpec := { name := "utfPlain", fn := fun _ => fun
  | [d1, d2] => { results := [.lit (.bool true)], args := [d1, d2] }
  | _ => none }
def utfPlainRow : OpenClaim := { program := "ytdbpeaadnhiekaa", sum := "f32e33d4e556d068513b0241768ba0b62fbb71fe590d7e2e15844f569f1e3302", func := "foolscap/foolscaplaw01.UtfPlain", spec := "utfPlain", apart := false }
def UtfPlainSaid : Prop := utfPlainRow.holds Try.pinned (OpenSpec.ofChange utfPlainSpec)

/-- ITS FALSE NEIGHBOUR: 'it returns false'. Refute it at one input. -/
def utfPlainWrong : ChangeSpec := { name := "utfPlain", fn := fun _ => fun
  | [d1, d2] => { results := [.lit (.bool false)], args := [d1, d2] }
  | _ => none }
def UtfPlainWrongFalsely : Prop := utfPlainRow.holds Try.pinned (OpenSpec.ofChange utfPlainWrong)

/- THE SECOND FORM. 'bulk': how many values and letters a reading holds, each counted each time it is reached (what is shared counts as often as it is met; a slice's spare places count too). A statement '..UptoSaid' is the law's where the arguments, and the package variables that the reading takes, are together of bulk at most 1048576: NARROWER than '..Said'. Prove '..Said' where nothing that the law and all that it calls make is longer than what came in: it says more and counts as full. Else prove '..UptoSaid'. A law counts once. -/
mutual
def uptoBulk {H : Type} : DataW H → Nat
  | .lit (.string bytes) => bytes.length + 1
  | .lit _ => 1
  | .nil => 1
  | .ptr d => uptoBulk d + 1
  | .slice elems spare => uptoBulkAll elems + uptoBulkAll spare + 1
  | .agg parts => uptoBulkAll parts + 1
  | .iface _ d => uptoBulk d + 1
  | .map entries => uptoBulkEntries entries + 1
  | .held _ => 1
def uptoBulkAll {H : Type} : List (DataW H) → Nat
  | [] => 0
  | d :: r => uptoBulk d + uptoBulkAll r
def uptoBulkEntries {H : Type} : List (Lit × DataW H) → Nat
  | [] => 0
  | x :: r => uptoBulkEntry x + uptoBulkEntries r
def uptoBulkEntry {H : Type} : Lit × DataW H → Nat
  | (.string bytes, d) => bytes.length + uptoBulk d + 1
  | (_, d) => uptoBulk d + 1
 end
def uptoSmall : (H : Type) → List (DataW H) → Bool := fun _ ds => decide (uptoBulkAll ds ≤ 1048576)
def OpenSpec.upto (s : _root_.Go.ChangeSpec) : _root_.Go.OpenSpec := { _root_.Go.OpenSpec.ofChange s with cond := some uptoSmall }

/-- 'foolscaplaw01.UtfTells', WHERE WHAT IT READS IS OF BULK AT MOST 1048576: true; the input reads as it did. -/
def utfTellsUptoRow : OpenClaim := { program := "ytdbpeaadnhiekaa", sum := "f32e33d4e556d068513b0241768ba0b62fbb71fe590d7e2e15844f569f1e3302", func := "foolscap/foolscaplaw01.UtfTells", spec := "utfTells", recurses := true, apart := false, narrowed := true }
def UtfTellsUptoSaid : Prop := utfTellsUptoRow.holds Try.pinned (OpenSpec.upto utfTellsSpec)

/-- 'foolscaplaw01.UtfBack', WHERE WHAT IT READS IS OF BULK AT MOST 1048576: true; the input reads as it did. -/
def utfBackUptoRow : OpenClaim := { program := "ytdbpeaadnhiekaa", sum := "f32e33d4e556d068513b0241768ba0b62fbb71fe590d7e2e15844f569f1e3302", func := "foolscap/foolscaplaw01.UtfBack", spec := "utfBack", apart := false, narrowed := true }
def UtfBackUptoSaid : Prop := utfBackUptoRow.holds Try.pinned (OpenSpec.upto utfBackSpec)

/-- 'foolscaplaw01.UtfParts', WHERE WHAT IT READS IS OF BULK AT MOST 1048576: true; the input reads as it did. -/
def utfPartsUptoRow : OpenClaim := { program := "ytdbpeaadnhiekaa", sum := "f32e33d4e556d068513b0241768ba0b62fbb71fe590d7e2e15844f569f1e3302", func := "foolscap/foolscaplaw01.UtfParts", spec := "utfParts", apart := false, narrowed := true }
def UtfPartsUptoSaid : Prop := utfPartsUptoRow.holds Try.pinned (OpenSpec.upto utfPartsSpec)

/-- 'foolscaplaw01.UtfOne', WHERE WHAT IT READS IS OF BULK AT MOST 1048576: true; the input reads as it did. -/
def utfOneUptoRow : OpenClaim := { program := "ytdbpeaadnhiekaa", sum := "f32e33d4e556d068513b0241768ba0b62fbb71fe590d7e2e15844f569f1e3302", func := "foolscap/foolscaplaw01.UtfOne", spec := "utfOne", apart := false, narrowed := true }
def UtfOneUptoSaid : Prop := utfOneUptoRow.holds Try.pinned (OpenSpec.upto utfOneSpec)

/-- 'foolscaplaw01.UtfOrder', WHERE WHAT IT READS IS OF BULK AT MOST 1048576: true; the input reads as it did. -/
def utfOrderUptoRow : OpenClaim := { program := "ytdbpeaadnhiekaa", sum := "f32e33d4e556d068513b0241768ba0b62fbb71fe590d7e2e15844f569f1e3302", func := "foolscap/foolscaplaw01.UtfOrder", spec := "utfOrder", apart := false, narrowed := true }
def UtfOrderUptoSaid : Prop := utfOrderUptoRow.holds Try.pinned (OpenSpec.upto utfOrderSpec)

/-- 'foolscaplaw01.UtfSteps', WHERE WHAT IT READS IS OF BULK AT MOST 1048576: true; the input reads as it did. -/
def utfStepsUptoRow : OpenClaim := { program := "ytdbpeaadnhiekaa", sum := "f32e33d4e556d068513b0241768ba0b62fbb71fe590d7e2e15844f569f1e3302", func := "foolscap/foolscaplaw01.UtfSteps", spec := "utfSteps", apart := false, narrowed := true }
def UtfStepsUptoSaid : Prop := utfStepsUptoRow.holds Try.pinned (OpenSpec.upto utfStepsSpec)

/-- 'foolscaplaw01.UtfSums', WHERE WHAT IT READS IS OF BULK AT MOST 1048576: true; the input reads as it did. -/
def utfSumsUptoRow : OpenClaim := { program := "ytdbpeaadnhiekaa", sum := "f32e33d4e556d068513b0241768ba0b62fbb71fe590d7e2e15844f569f1e3302", func := "foolscap/foolscaplaw01.UtfSums", spec := "utfSums", apart := false, narrowed := true }
def UtfSumsUptoSaid : Prop := utfSumsUptoRow.holds Try.pinned (OpenSpec.upto utfSumsSpec)

/-- 'foolscaplaw01.UtfPlain', WHERE WHAT IT READS IS OF BULK AT MOST 1048576: true; the input reads as it did. -/
def utfPlainUptoRow : OpenClaim := { program := "ytdbpeaadnhiekaa", sum := "f32e33d4e556d068513b0241768ba0b62fbb71fe590d7e2e15844f569f1e3302", func := "foolscap/foolscaplaw01.UtfPlain", spec := "utfPlain", apart := false, narrowed := true }
def UtfPlainUptoSaid : Prop := utfPlainUptoRow.holds Try.pinned (OpenSpec.upto utfPlainSpec)

end Rows
end Go.Proofs.Ytdbpeaadnhiekaa
