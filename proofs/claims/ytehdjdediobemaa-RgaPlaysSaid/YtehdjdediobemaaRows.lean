/-
  No cell of these rows narrows 'for every input' (looked for: loops, veiled, ifaces, maps, wideKeys, modest, calm, conditions, laid).
  DERIVED. THE GIVEN ROWS OF THIS SEAT. 8 by the template 'for every input the law returns true; each argument reads behind the call as it read before'; 0 by the template 'total and deterministic' (their statements: YtehdjdediobemaaTotals.lean).
  GIVEN WITH THE SEED: the statements are not yours to turn. If you find one false, say at which input.
  Laid BY PROGRAM, IN A SANDBOX (cutbox-rows.mjs): the forced cells as the released guide's own fill.sh prints them over the translation 3dcf02266c9160e5… (all of the seat's roots in one cut). By AI agents, Wed Nov 11 2026. No macro, syntax, notation, axiom, sorry.
-/
import Derived.Test.YtehdjdediobemaaChecked
import GoSem.Claim
import GoSem.ClaimJoined
import GoSem.ClaimMapViews
import Derived.JoinedTies
import Derived.KernelRfl
namespace Go.Proofs.Ytehdjdediobemaa
/- THE CELL 'sum', in the pinned program and in every row, IS THE sha256 OF THE DUMP (.gsa) THAT YtehdjdediobemaaProg.lean LOADS. Nothing in Lean hashes anything: it is a label: what it is worth is what the hold of that sum in a sandbox is worth. -/
noncomputable def Try.pinned : Pinned := { name := "ytehdjdediobemaa", sum := "3dcf02266c9160e5da8754add9e0a4e232cceac9ff2a036348121d9ea6255b5c", checked := Try.checked }
namespace Rows
def none {H : Type} : Left H := { results := [], args := [] }

/-- 'foolscaplaw14.RgaFront': WHATEVER THE INPUT: true; the input reads as it did. -/
def rgaFrontSpec : ChangeSpec := { name := "rgaFront", fn := fun _ => fun
  | [d] => { results := [.lit (.bool true)], args := [d] }
  | _ => none }
def rgaFrontRow : OpenClaim := { program := "ytehdjdediobemaa", sum := "3dcf02266c9160e5da8754add9e0a4e232cceac9ff2a036348121d9ea6255b5c", func := "foolscap/foolscaplaw14.RgaFront", spec := "rgaFront", inPlace := ["slices.overlaps[foolscap/rga.element]", "slices.overlaps[bool]", "slices.overlaps[*foolscap/index.block]", "slices.overlaps[foolscap/api.Entry]"], unfollowed := true, recurses := true, apart := false }
def RgaFrontSaid : Prop := rgaFrontRow.holds Try.pinned (OpenSpec.ofChange rgaFrontSpec)

/-- ITS FALSE NEIGHBOUR: 'it returns false'. Refute it at one input. -/
def rgaFrontWrong : ChangeSpec := { name := "rgaFront", fn := fun _ => fun
  | [d] => { results := [.lit (.bool false)], args := [d] }
  | _ => none }
def RgaFrontWrongFalsely : Prop := rgaFrontRow.holds Try.pinned (OpenSpec.ofChange rgaFrontWrong)

/-- 'foolscaplaw14.RgaTwice': WHATEVER THE INPUT: true; the input reads as it did. -/
def rgaTwiceSpec : ChangeSpec := { name := "rgaTwice", fn := fun _ => fun
  | [d] => { results := [.lit (.bool true)], args := [d] }
  | _ => none }
def rgaTwiceRow : OpenClaim := { program := "ytehdjdediobemaa", sum := "3dcf02266c9160e5da8754add9e0a4e232cceac9ff2a036348121d9ea6255b5c", func := "foolscap/foolscaplaw14.RgaTwice", spec := "rgaTwice", inPlace := ["slices.overlaps[foolscap/rga.element]", "slices.overlaps[bool]", "slices.overlaps[*foolscap/index.block]", "slices.overlaps[foolscap/api.Entry]"], unfollowed := true, recurses := true, apart := false }
def RgaTwiceSaid : Prop := rgaTwiceRow.holds Try.pinned (OpenSpec.ofChange rgaTwiceSpec)

/-- ITS FALSE NEIGHBOUR: 'it returns false'. Refute it at one input. -/
def rgaTwiceWrong : ChangeSpec := { name := "rgaTwice", fn := fun _ => fun
  | [d] => { results := [.lit (.bool false)], args := [d] }
  | _ => none }
def RgaTwiceWrongFalsely : Prop := rgaTwiceRow.holds Try.pinned (OpenSpec.ofChange rgaTwiceWrong)

/-- 'foolscaplaw14.RgaTypes': WHATEVER THE INPUT: true; the input reads as it did. -/
def rgaTypesSpec : ChangeSpec := { name := "rgaTypes", fn := fun _ => fun
  | [d1, d2] => { results := [.lit (.bool true)], args := [d1, d2] }
  | _ => none }
def rgaTypesRow : OpenClaim := { program := "ytehdjdediobemaa", sum := "3dcf02266c9160e5da8754add9e0a4e232cceac9ff2a036348121d9ea6255b5c", func := "foolscap/foolscaplaw14.RgaTypes", spec := "rgaTypes", inPlace := ["slices.overlaps[foolscap/rga.element]", "slices.overlaps[bool]", "slices.overlaps[*foolscap/index.block]", "slices.overlaps[foolscap/api.Entry]"], unfollowed := true, recurses := true, apart := false }
def RgaTypesSaid : Prop := rgaTypesRow.holds Try.pinned (OpenSpec.ofChange rgaTypesSpec)

/-- ITS FALSE NEIGHBOUR: 'it returns false'. Refute it at one input. -/
def rgaTypesWrong : ChangeSpec := { name := "rgaTypes", fn := fun _ => fun
  | [d1, d2] => { results := [.lit (.bool false)], args := [d1, d2] }
  | _ => none }
def RgaTypesWrongFalsely : Prop := rgaTypesRow.holds Try.pinned (OpenSpec.ofChange rgaTypesWrong)

/-- 'foolscaplaw14.RgaMeets': WHATEVER THE INPUT: true; the input reads as it did. -/
def rgaMeetsSpec : ChangeSpec := { name := "rgaMeets", fn := fun _ => fun
  | [d1, d2] => { results := [.lit (.bool true)], args := [d1, d2] }
  | _ => none }
def rgaMeetsRow : OpenClaim := { program := "ytehdjdediobemaa", sum := "3dcf02266c9160e5da8754add9e0a4e232cceac9ff2a036348121d9ea6255b5c", func := "foolscap/foolscaplaw14.RgaMeets", spec := "rgaMeets", inPlace := ["slices.overlaps[foolscap/rga.element]", "slices.overlaps[bool]", "slices.overlaps[*foolscap/index.block]", "slices.overlaps[foolscap/api.Entry]"], unfollowed := true, recurses := true, apart := false }
def RgaMeetsSaid : Prop := rgaMeetsRow.holds Try.pinned (OpenSpec.ofChange rgaMeetsSpec)

/-- ITS FALSE NEIGHBOUR: 'it returns false'. Refute it at one input. -/
def rgaMeetsWrong : ChangeSpec := { name := "rgaMeets", fn := fun _ => fun
  | [d1, d2] => { results := [.lit (.bool false)], args := [d1, d2] }
  | _ => none }
def RgaMeetsWrongFalsely : Prop := rgaMeetsRow.holds Try.pinned (OpenSpec.ofChange rgaMeetsWrong)

/-- 'foolscaplaw14.RgaGone': WHATEVER THE INPUT: true; the input reads as it did. -/
def rgaGoneSpec : ChangeSpec := { name := "rgaGone", fn := fun _ => fun
  | [d1, d2, d3] => { results := [.lit (.bool true)], args := [d1, d2, d3] }
  | _ => none }
def rgaGoneRow : OpenClaim := { program := "ytehdjdediobemaa", sum := "3dcf02266c9160e5da8754add9e0a4e232cceac9ff2a036348121d9ea6255b5c", func := "foolscap/foolscaplaw14.RgaGone", spec := "rgaGone", inPlace := ["slices.overlaps[foolscap/rga.element]", "slices.overlaps[bool]", "slices.overlaps[*foolscap/index.block]", "slices.overlaps[foolscap/api.Entry]"], unfollowed := true, recurses := true, apart := false }
def RgaGoneSaid : Prop := rgaGoneRow.holds Try.pinned (OpenSpec.ofChange rgaGoneSpec)

/-- ITS FALSE NEIGHBOUR: 'it returns false'. Refute it at one input. -/
def rgaGoneWrong : ChangeSpec := { name := "rgaGone", fn := fun _ => fun
  | [d1, d2, d3] => { results := [.lit (.bool false)], args := [d1, d2, d3] }
  | _ => none }
def RgaGoneWrongFalsely : Prop := rgaGoneRow.holds Try.pinned (OpenSpec.ofChange rgaGoneWrong)

/-- 'foolscaplaw14.RgaKeeps': WHATEVER THE INPUT: true; the input reads as it did. -/
def rgaKeepsSpec : ChangeSpec := { name := "rgaKeeps", fn := fun _ => fun
  | [d] => { results := [.lit (.bool true)], args := [d] }
  | _ => none }
def rgaKeepsRow : OpenClaim := { program := "ytehdjdediobemaa", sum := "3dcf02266c9160e5da8754add9e0a4e232cceac9ff2a036348121d9ea6255b5c", func := "foolscap/foolscaplaw14.RgaKeeps", spec := "rgaKeeps", inPlace := ["slices.overlaps[foolscap/rga.element]", "slices.overlaps[bool]", "slices.overlaps[*foolscap/index.block]", "slices.overlaps[foolscap/api.Entry]"], unfollowed := true, recurses := true, apart := false }
def RgaKeepsSaid : Prop := rgaKeepsRow.holds Try.pinned (OpenSpec.ofChange rgaKeepsSpec)

/-- ITS FALSE NEIGHBOUR: 'it returns false'. Refute it at one input. -/
def rgaKeepsWrong : ChangeSpec := { name := "rgaKeeps", fn := fun _ => fun
  | [d] => { results := [.lit (.bool false)], args := [d] }
  | _ => none }
def RgaKeepsWrongFalsely : Prop := rgaKeepsRow.holds Try.pinned (OpenSpec.ofChange rgaKeepsWrong)

/-- 'foolscaplaw14.RgaPlaces': WHATEVER THE INPUT: true; the input reads as it did. -/
def rgaPlacesSpec : ChangeSpec := { name := "rgaPlaces", fn := fun _ => fun
  | [d] => { results := [.lit (.bool true)], args := [d] }
  | _ => none }
def rgaPlacesRow : OpenClaim := { program := "ytehdjdediobemaa", sum := "3dcf02266c9160e5da8754add9e0a4e232cceac9ff2a036348121d9ea6255b5c", func := "foolscap/foolscaplaw14.RgaPlaces", spec := "rgaPlaces", inPlace := ["slices.overlaps[foolscap/rga.element]", "slices.overlaps[bool]", "slices.overlaps[*foolscap/index.block]", "slices.overlaps[foolscap/api.Entry]"], unfollowed := true, recurses := true, apart := false }
def RgaPlacesSaid : Prop := rgaPlacesRow.holds Try.pinned (OpenSpec.ofChange rgaPlacesSpec)

/-- ITS FALSE NEIGHBOUR: 'it returns false'. Refute it at one input. -/
def rgaPlacesWrong : ChangeSpec := { name := "rgaPlaces", fn := fun _ => fun
  | [d] => { results := [.lit (.bool false)], args := [d] }
  | _ => none }
def RgaPlacesWrongFalsely : Prop := rgaPlacesRow.holds Try.pinned (OpenSpec.ofChange rgaPlacesWrong)

/-- 'foolscaplaw14.RgaPlays': WHATEVER THE INPUT: true; the input reads as it did. -/
def rgaPlaysSpec : ChangeSpec := { name := "rgaPlays", fn := fun _ => fun
  | [d1, d2, d3] => { results := [.lit (.bool true)], args := [d1, d2, d3] }
  | _ => none }
def rgaPlaysRow : OpenClaim := { program := "ytehdjdediobemaa", sum := "3dcf02266c9160e5da8754add9e0a4e232cceac9ff2a036348121d9ea6255b5c", func := "foolscap/foolscaplaw14.RgaPlays", spec := "rgaPlays", inPlace := ["slices.overlaps[foolscap/rga.element]", "slices.overlaps[bool]", "slices.overlaps[*foolscap/index.block]", "slices.overlaps[foolscap/api.Entry]"], unfollowed := true, recurses := true, apart := false }
def RgaPlaysSaid : Prop := rgaPlaysRow.holds Try.pinned (OpenSpec.ofChange rgaPlaysSpec)

/-- ITS FALSE NEIGHBOUR: 'it returns false'. Refute it at one input. -/
def rgaPlaysWrong : ChangeSpec := { name := "rgaPlays", fn := fun _ => fun
  | [d1, d2, d3] => { results := [.lit (.bool false)], args := [d1, d2, d3] }
  | _ => none }
def RgaPlaysWrongFalsely : Prop := rgaPlaysRow.holds Try.pinned (OpenSpec.ofChange rgaPlaysWrong)

/- THE SECOND FORM. 'bulk': how many values and letters a reading holds, each counted each time it is reached (what is shared counts as often as it is met; a slice's spare places count too). A statement '..UptoSaid' is the law's where the arguments, and the package variables that the reading takes, are together of bulk at most 1048576: NARROWER than '..Said'. Prove '..Said' where nothing that the law and all that it calls make is longer than what came in: it says more and counts as full. Else prove '..UptoSaid'. A law counts once. -/
mutual
def uptoBulk {H : Type} : DataW H → Nat
  | .lit (.string bytes) => bytes.length + 1
  | .lit _ => 1
  | .nil => 1
  | .ptr d => uptoBulk d + 1
  | .slice elems spare => uptoBulkAll elems + uptoBulkAll spare + 1
  | .agg parts => uptoBulkAll parts + 1
  | .iface _ d => uptoBulk d + 1
  | .map entries => uptoBulkEntries entries + 1
  | .held _ => 1
def uptoBulkAll {H : Type} : List (DataW H) → Nat
  | [] => 0
  | d :: r => uptoBulk d + uptoBulkAll r
def uptoBulkEntries {H : Type} : List (Lit × DataW H) → Nat
  | [] => 0
  | x :: r => uptoBulkEntry x + uptoBulkEntries r
def uptoBulkEntry {H : Type} : Lit × DataW H → Nat
  | (.string bytes, d) => bytes.length + uptoBulk d + 1
  | (_, d) => uptoBulk d + 1
 end
def uptoSmall : (H : Type) → List (DataW H) → Bool := fun _ ds => decide (uptoBulkAll ds ≤ 1048576)
def OpenSpec.upto (s : _root_.Go.ChangeSpec) : _root_.Go.OpenSpec := { _root_.Go.OpenSpec.ofChange s with cond := some uptoSmall }

/-- 'foolscaplaw14.RgaFront', WHERE WHAT IT READS IS OF BULK AT MOST 1048576: true; the input reads as it did. -/
def rgaFrontUptoRow : OpenClaim := { program := "ytehdjdediobemaa", sum := "3dcf02266c9160e5da8754add9e0a4e232cceac9ff2a036348121d9ea6255b5c", func := "foolscap/foolscaplaw14.RgaFront", spec := "rgaFront", inPlace := ["slices.overlaps[foolscap/rga.element]", "slices.overlaps[bool]", "slices.overlaps[*foolscap/index.block]", "slices.overlaps[foolscap/api.Entry]"], unfollowed := true, recurses := true, apart := false, narrowed := true }
def RgaFrontUptoSaid : Prop := rgaFrontUptoRow.holds Try.pinned (OpenSpec.upto rgaFrontSpec)

/-- 'foolscaplaw14.RgaTwice', WHERE WHAT IT READS IS OF BULK AT MOST 1048576: true; the input reads as it did. -/
def rgaTwiceUptoRow : OpenClaim := { program := "ytehdjdediobemaa", sum := "3dcf02266c9160e5da8754add9e0a4e232cceac9ff2a036348121d9ea6255b5c", func := "foolscap/foolscaplaw14.RgaTwice", spec := "rgaTwice", inPlace := ["slices.overlaps[foolscap/rga.element]", "slices.overlaps[bool]", "slices.overlaps[*foolscap/index.block]", "slices.overlaps[foolscap/api.Entry]"], unfollowed := true, recurses := true, apart := false, narrowed := true }
def RgaTwiceUptoSaid : Prop := rgaTwiceUptoRow.holds Try.pinned (OpenSpec.upto rgaTwiceSpec)

/-- 'foolscaplaw14.RgaTypes', WHERE WHAT IT READS IS OF BULK AT MOST 1048576: true; the input reads as it did. -/
def rgaTypesUptoRow : OpenClaim := { program := "ytehdjdediobemaa", sum := "3dcf02266c9160e5da8754add9e0a4e232cceac9ff2a036348121d9ea6255b5c", func := "foolscap/foolscaplaw14.RgaTypes", spec := "rgaTypes", inPlace := ["slices.overlaps[foolscap/rga.element]", "slices.overlaps[bool]", "slices.overlaps[*foolscap/index.block]", "slices.overlaps[foolscap/api.Entry]"], unfollowed := true, recurses := true, apart := false, narrowed := true }
def RgaTypesUptoSaid : Prop := rgaTypesUptoRow.holds Try.pinned (OpenSpec.upto rgaTypesSpec)

/-- 'foolscaplaw14.RgaMeets', WHERE WHAT IT READS IS OF BULK AT MOST 1048576: true; the input reads as it did. -/
def rgaMeetsUptoRow : OpenClaim := { program := "ytehdjdediobemaa", sum := "3dcf02266c9160e5da8754add9e0a4e232cceac9ff2a036348121d9ea6255b5c", func := "foolscap/foolscaplaw14.RgaMeets", spec := "rgaMeets", inPlace := ["slices.overlaps[foolscap/rga.element]", "slices.overlaps[bool]", "slices.overlaps[*foolscap/index.block]", "slices.overlaps[foolscap/api.Entry]"], unfollowed := true, recurses := true, apart := false, narrowed := true }
def RgaMeetsUptoSaid : Prop := rgaMeetsUptoRow.holds Try.pinned (OpenSpec.upto rgaMeetsSpec)

/-- 'foolscaplaw14.RgaGone', WHERE WHAT IT READS IS OF BULK AT MOST 1048576: true; the input reads as it did. -/
def rgaGoneUptoRow : OpenClaim := { program := "ytehdjdediobemaa", sum := "3dcf02266c9160e5da8754add9e0a4e232cceac9ff2a036348121d9ea6255b5c", func := "foolscap/foolscaplaw14.RgaGone", spec := "rgaGone", inPlace := ["slices.overlaps[foolscap/rga.element]", "slices.overlaps[bool]", "slices.overlaps[*foolscap/index.block]", "slices.overlaps[foolscap/api.Entry]"], unfollowed := true, recurses := true, apart := false, narrowed := true }
def RgaGoneUptoSaid : Prop := rgaGoneUptoRow.holds Try.pinned (OpenSpec.upto rgaGoneSpec)

/-- 'foolscaplaw14.RgaKeeps', WHERE WHAT IT READS IS OF BULK AT MOST 1048576: true; the input reads as it did. -/
def rgaKeepsUptoRow : OpenClaim := { program := "ytehdjdediobemaa", sum := "3dcf02266c9160e5da8754add9e0a4e232cceac9ff2a036348121d9ea6255b5c", func := "foolscap/foolscaplaw14.RgaKeeps", spec := "rgaKeeps", inPlace := ["slices.overlaps[foolscap/rga.element]", "slices.overlaps[bool]", "slices.overlaps[*foolscap/index.block]", "slices.overlaps[foolscap/api.Entry]"], unfollowed := true, recurses := true, apart := false, narrowed := true }
def RgaKeepsUptoSaid : Prop := rgaKeepsUptoRow.holds Try.pinned (OpenSpec.upto rgaKeepsSpec)

/-- 'foolscaplaw14.RgaPlaces', WHERE WHAT IT READS IS OF BULK AT MOST 1048576: true; the input reads as it did. -/
def rgaPlacesUptoRow : OpenClaim := { program := "ytehdjdediobemaa", sum := "3dcf02266c9160e5da8754add9e0a4e232cceac9ff2a036348121d9ea6255b5c", func := "foolscap/foolscaplaw14.RgaPlaces", spec := "rgaPlaces", inPlace := ["slices.overlaps[foolscap/rga.element]", "slices.overlaps[bool]", "slices.overlaps[*foolscap/index.block]", "slices.overlaps[foolscap/api.Entry]"], unfollowed := true, recurses := true, apart := false, narrowed := true }
def RgaPlacesUptoSaid : Prop := rgaPlacesUptoRow.holds Try.pinned (OpenSpec.upto rgaPlacesSpec)

/-- 'foolscaplaw14.RgaPlays', WHERE WHAT IT READS IS OF BULK AT MOST 1048576: true; the input reads as it did. -/
def rgaPlaysUptoRow : OpenClaim := { program := "ytehdjdediobemaa", sum := "3dcf02266c9160e5da8754add9e0a4e232cceac9ff2a036348121d9ea6255b5c", func := "foolscap/foolscaplaw14.RgaPlays", spec := "rgaPlays", inPlace := ["slices.overlaps[foolscap/rga.element]", "slices.overlaps[bool]", "slices.overlaps[*foolscap/index.block]", "slices.overlaps[foolscap/api.Entry]"], unfollowed := true, recurses := true, apart := false, narrowed := true }
def RgaPlaysUptoSaid : Prop := rgaPlaysUptoRow.holds Try.pinned (OpenSpec.upto rgaPlaysSpec)

end Rows
end Go.Proofs.Ytehdjdediobemaa
