/-
  No cell of these rows narrows 'for every input' (looked for: loops, veiled, ifaces, maps, wideKeys, modest, calm, conditions, laid).
  DERIVED. THE GIVEN ROWS OF THIS SEAT. 6 by the template 'for every input the law returns true; each argument reads behind the call as it read before'; 0 by the template 'total and deterministic' (their statements: YtefnpalkkhhkfaaTotals.lean).
  GIVEN WITH THE SEED: the statements are not yours to turn. If you find one false, say at which input.
  Laid BY PROGRAM, IN A SANDBOX (cutbox-rows.mjs): the forced cells as the released guide's own fill.sh prints them over the translation b5fcd1828501b02e… (all of the seat's roots in one cut). By AI agents, Wed Nov 11 2026. No macro, syntax, notation, axiom, sorry.
-/
import Derived.Test.YtefnpalkkhhkfaaChecked
import GoSem.Claim
import GoSem.ClaimJoined
import GoSem.ClaimMapViews
import Derived.JoinedTies
import Derived.KernelRfl
namespace Go.Proofs.Ytefnpalkkhhkfaa
/- THE CELL 'sum', in the pinned program and in every row, IS THE sha256 OF THE DUMP (.gsa) THAT YtefnpalkkhhkfaaProg.lean LOADS. Nothing in Lean hashes anything: it is a label: what it is worth is what the hold of that sum in a sandbox is worth. -/
noncomputable def Try.pinned : Pinned := { name := "ytefnpalkkhhkfaa", sum := "b5fcd1828501b02efd34b2c690312b2146b13e006714352c3c7117a1a2508d6c", checked := Try.checked }
namespace Rows
def none {H : Type} : Left H := { results := [], args := [] }

/-- 'foolscaplaw18.CursorTells': WHATEVER THE INPUT: true; the input reads as it did. -/
def cursorTellsSpec : ChangeSpec := { name := "cursorTells", fn := fun _ => fun
  | [d1, d2, d3, d4] => { results := [.lit (.bool true)], args := [d1, d2, d3, d4] }
  | _ => none }
def cursorTellsRow : OpenClaim := { program := "ytefnpalkkhhkfaa", sum := "b5fcd1828501b02efd34b2c690312b2146b13e006714352c3c7117a1a2508d6c", func := "foolscap/foolscaplaw18.CursorTells", spec := "cursorTells", inPlace := ["slices.overlaps[foolscap/rga.element]", "slices.overlaps[bool]", "slices.overlaps[*foolscap/index.block]", "slices.overlaps[foolscap/api.Entry]"], unfollowed := true, recurses := true, apart := false }
def CursorTellsSaid : Prop := cursorTellsRow.holds Try.pinned (OpenSpec.ofChange cursorTellsSpec)

/-- ITS FALSE NEIGHBOUR: 'it returns false'. Refute it at one input. -/
def cursorTellsWrong : ChangeSpec := { name := "cursorTells", fn := fun _ => fun
  | [d1, d2, d3, d4] => { results := [.lit (.bool false)], args := [d1, d2, d3, d4] }
  | _ => none }
def CursorTellsWrongFalsely : Prop := cursorTellsRow.holds Try.pinned (OpenSpec.ofChange cursorTellsWrong)

/-- 'foolscaplaw18.CursorBounds': WHATEVER THE INPUT: true; the input reads as it did. -/
def cursorBoundsSpec : ChangeSpec := { name := "cursorBounds", fn := fun _ => fun
  | [d1, d2] => { results := [.lit (.bool true)], args := [d1, d2] }
  | _ => none }
def cursorBoundsRow : OpenClaim := { program := "ytefnpalkkhhkfaa", sum := "b5fcd1828501b02efd34b2c690312b2146b13e006714352c3c7117a1a2508d6c", func := "foolscap/foolscaplaw18.CursorBounds", spec := "cursorBounds", inPlace := ["slices.overlaps[foolscap/rga.element]", "slices.overlaps[bool]", "slices.overlaps[*foolscap/index.block]", "slices.overlaps[foolscap/api.Entry]"], unfollowed := true, recurses := true, apart := false }
def CursorBoundsSaid : Prop := cursorBoundsRow.holds Try.pinned (OpenSpec.ofChange cursorBoundsSpec)

/-- ITS FALSE NEIGHBOUR: 'it returns false'. Refute it at one input. -/
def cursorBoundsWrong : ChangeSpec := { name := "cursorBounds", fn := fun _ => fun
  | [d1, d2] => { results := [.lit (.bool false)], args := [d1, d2] }
  | _ => none }
def CursorBoundsWrongFalsely : Prop := cursorBoundsRow.holds Try.pinned (OpenSpec.ofChange cursorBoundsWrong)

/-- 'foolscaplaw18.CursorBack': WHATEVER THE INPUT: true; the input reads as it did. -/
def cursorBackSpec : ChangeSpec := { name := "cursorBack", fn := fun _ => fun
  | [d] => { results := [.lit (.bool true)], args := [d] }
  | _ => none }
def cursorBackRow : OpenClaim := { program := "ytefnpalkkhhkfaa", sum := "b5fcd1828501b02efd34b2c690312b2146b13e006714352c3c7117a1a2508d6c", func := "foolscap/foolscaplaw18.CursorBack", spec := "cursorBack", inPlace := ["slices.overlaps[foolscap/rga.element]", "slices.overlaps[bool]", "slices.overlaps[*foolscap/index.block]", "slices.overlaps[foolscap/api.Entry]"], unfollowed := true, recurses := true, apart := false }
def CursorBackSaid : Prop := cursorBackRow.holds Try.pinned (OpenSpec.ofChange cursorBackSpec)

/-- ITS FALSE NEIGHBOUR: 'it returns false'. Refute it at one input. -/
def cursorBackWrong : ChangeSpec := { name := "cursorBack", fn := fun _ => fun
  | [d] => { results := [.lit (.bool false)], args := [d] }
  | _ => none }
def CursorBackWrongFalsely : Prop := cursorBackRow.holds Try.pinned (OpenSpec.ofChange cursorBackWrong)

/-- 'foolscaplaw18.CursorOrder': WHATEVER THE INPUT: true; the input reads as it did. -/
def cursorOrderSpec : ChangeSpec := { name := "cursorOrder", fn := fun _ => fun
  | [d] => { results := [.lit (.bool true)], args := [d] }
  | _ => none }
def cursorOrderRow : OpenClaim := { program := "ytefnpalkkhhkfaa", sum := "b5fcd1828501b02efd34b2c690312b2146b13e006714352c3c7117a1a2508d6c", func := "foolscap/foolscaplaw18.CursorOrder", spec := "cursorOrder", inPlace := ["slices.overlaps[foolscap/rga.element]", "slices.overlaps[bool]", "slices.overlaps[*foolscap/index.block]", "slices.overlaps[foolscap/api.Entry]"], unfollowed := true, recurses := true, apart := false }
def CursorOrderSaid : Prop := cursorOrderRow.holds Try.pinned (OpenSpec.ofChange cursorOrderSpec)

/-- ITS FALSE NEIGHBOUR: 'it returns false'. Refute it at one input. -/
def cursorOrderWrong : ChangeSpec := { name := "cursorOrder", fn := fun _ => fun
  | [d] => { results := [.lit (.bool false)], args := [d] }
  | _ => none }
def CursorOrderWrongFalsely : Prop := cursorOrderRow.holds Try.pinned (OpenSpec.ofChange cursorOrderWrong)

/-- 'foolscaplaw18.CursorGone': WHATEVER THE INPUT: true; the input reads as it did. -/
def cursorGoneSpec : ChangeSpec := { name := "cursorGone", fn := fun _ => fun
  | [d1, d2] => { results := [.lit (.bool true)], args := [d1, d2] }
  | _ => none }
def cursorGoneRow : OpenClaim := { program := "ytefnpalkkhhkfaa", sum := "b5fcd1828501b02efd34b2c690312b2146b13e006714352c3c7117a1a2508d6c", func := "foolscap/foolscaplaw18.CursorGone", spec := "cursorGone", inPlace := ["slices.overlaps[foolscap/rga.element]", "slices.overlaps[bool]", "slices.overlaps[*foolscap/index.block]", "slices.overlaps[foolscap/api.Entry]"], unfollowed := true, recurses := true, apart := false }
def CursorGoneSaid : Prop := cursorGoneRow.holds Try.pinned (OpenSpec.ofChange cursorGoneSpec)

/-- ITS FALSE NEIGHBOUR: 'it returns false'. Refute it at one input. -/
def cursorGoneWrong : ChangeSpec := { name := "cursorGone", fn := fun _ => fun
  | [d1, d2] => { results := [.lit (.bool false)], args := [d1, d2] }
  | _ => none }
def CursorGoneWrongFalsely : Prop := cursorGoneRow.holds Try.pinned (OpenSpec.ofChange cursorGoneWrong)

/-- 'foolscaplaw18.CursorStays': WHATEVER THE INPUT: true; the input reads as it did. -/
def cursorStaysSpec : ChangeSpec := { name := "cursorStays", fn := fun _ => fun
  | [d1, d2, d3, d4] => { results := [.lit (.bool true)], args := [d1, d2, d3, d4] }
  | _ => none }
def cursorStaysRow : OpenClaim := { program := "ytefnpalkkhhkfaa", sum := "b5fcd1828501b02efd34b2c690312b2146b13e006714352c3c7117a1a2508d6c", func := "foolscap/foolscaplaw18.CursorStays", spec := "cursorStays", inPlace := ["slices.overlaps[foolscap/rga.element]", "slices.overlaps[bool]", "slices.overlaps[*foolscap/index.block]", "slices.overlaps[foolscap/api.Entry]"], unfollowed := true, recurses := true, apart := false }
def CursorStaysSaid : Prop := cursorStaysRow.holds Try.pinned (OpenSpec.ofChange cursorStaysSpec)

/-- ITS FALSE NEIGHBOUR: 'it returns false'. Refute it at one input. -/
def cursorStaysWrong : ChangeSpec := { name := "cursorStays", fn := fun _ => fun
  | [d1, d2, d3, d4] => { results := [.lit (.bool false)], args := [d1, d2, d3, d4] }
  | _ => none }
def CursorStaysWrongFalsely : Prop := cursorStaysRow.holds Try.pinned (OpenSpec.ofChange cursorStaysWrong)

/- THE SECOND FORM. 'bulk': how many values and letters a reading holds, each counted each time it is reached (what is shared counts as often as it is met; a slice's spare places count too). A statement '..UptoSaid' is the law's where the arguments, and the package variables that the reading takes, are together of bulk at most 1048576: NARROWER than '..Said'. Prove '..Said' where nothing that the law and all that it calls make is longer than what came in: it says more and counts as full. Else prove '..UptoSaid'. A law counts once. -/
mutual
def uptoBulk {H : Type} : DataW H → Nat
  | .lit (.string bytes) => bytes.length + 1
  | .lit _ => 1
  | .nil => 1
  | .ptr d => uptoBulk d + 1
  | .slice elems spare => uptoBulkAll elems + uptoBulkAll spare + 1
  | .agg parts => uptoBulkAll parts + 1
  | .iface _ d => uptoBulk d + 1
  | .map entries => uptoBulkEntries entries + 1
  | .held _ => 1
def uptoBulkAll {H : Type} : List (DataW H) → Nat
  | [] => 0
  | d :: r => uptoBulk d + uptoBulkAll r
def uptoBulkEntries {H : Type} : List (Lit × DataW H) → Nat
  | [] => 0
  | x :: r => uptoBulkEntry x + uptoBulkEntries r
def uptoBulkEntry {H : Type} : Lit × DataW H → Nat
  | (.string bytes, d) => bytes.length + uptoBulk d + 1
  | (_, d) => uptoBulk d + 1
 end
def uptoSmall : (H : Type) → List (DataW H) → Bool := fun _ ds => decide (uptoBulkAll ds ≤ 1048576)
def OpenSpec.upto (s : _root_.Go.ChangeSpec) : _root_.Go.OpenSpec := { _root_.Go.OpenSpec.ofChange s with cond := some uptoSmall }

/-- 'foolscaplaw18.CursorTells', WHERE WHAT IT READS IS OF BULK AT MOST 1048576: true; the input reads as it did. -/
def cursorTellsUptoRow : OpenClaim := { program := "ytefnpalkkhhkfaa", sum := "b5fcd1828501b02efd34b2c690312b2146b13e006714352c3c7117a1a2508d6c", func := "foolscap/foolscaplaw18.CursorTells", spec := "cursorTells", inPlace := ["slices.overlaps[foolscap/rga.element]", "slices.overlaps[bool]", "slices.overlaps[*foolscap/index.block]", "slices.overlaps[foolscap/api.Entry]"], unfollowed := true, recurses := true, apart := false, narrowed := true }
def CursorTellsUptoSaid : Prop := cursorTellsUptoRow.holds Try.pinned (OpenSpec.upto cursorTellsSpec)

/-- 'foolscaplaw18.CursorBounds', WHERE WHAT IT READS IS OF BULK AT MOST 1048576: true; the input reads as it did. -/
def cursorBoundsUptoRow : OpenClaim := { program := "ytefnpalkkhhkfaa", sum := "b5fcd1828501b02efd34b2c690312b2146b13e006714352c3c7117a1a2508d6c", func := "foolscap/foolscaplaw18.CursorBounds", spec := "cursorBounds", inPlace := ["slices.overlaps[foolscap/rga.element]", "slices.overlaps[bool]", "slices.overlaps[*foolscap/index.block]", "slices.overlaps[foolscap/api.Entry]"], unfollowed := true, recurses := true, apart := false, narrowed := true }
def CursorBoundsUptoSaid : Prop := cursorBoundsUptoRow.holds Try.pinned (OpenSpec.upto cursorBoundsSpec)

/-- 'foolscaplaw18.CursorBack', WHERE WHAT IT READS IS OF BULK AT MOST 1048576: true; the input reads as it did. -/
def cursorBackUptoRow : OpenClaim := { program := "ytefnpalkkhhkfaa", sum := "b5fcd1828501b02efd34b2c690312b2146b13e006714352c3c7117a1a2508d6c", func := "foolscap/foolscaplaw18.CursorBack", spec := "cursorBack", inPlace := ["slices.overlaps[foolscap/rga.element]", "slices.overlaps[bool]", "slices.overlaps[*foolscap/index.block]", "slices.overlaps[foolscap/api.Entry]"], unfollowed := true, recurses := true, apart := false, narrowed := true }
def CursorBackUptoSaid : Prop := cursorBackUptoRow.holds Try.pinned (OpenSpec.upto cursorBackSpec)

/-- 'foolscaplaw18.CursorOrder', WHERE WHAT IT READS IS OF BULK AT MOST 1048576: true; the input reads as it did. -/
def cursorOrderUptoRow : OpenClaim := { program := "ytefnpalkkhhkfaa", sum := "b5fcd1828501b02efd34b2c690312b2146b13e006714352c3c7117a1a2508d6c", func := "foolscap/foolscaplaw18.CursorOrder", spec := "cursorOrder", inPlace := ["slices.overlaps[foolscap/rga.element]", "slices.overlaps[bool]", "slices.overlaps[*foolscap/index.block]", "slices.overlaps[foolscap/api.Entry]"], unfollowed := true, recurses := true, apart := false, narrowed := true }
def CursorOrderUptoSaid : Prop := cursorOrderUptoRow.holds Try.pinned (OpenSpec.upto cursorOrderSpec)

/-- 'foolscaplaw18.CursorGone', WHERE WHAT IT READS IS OF BULK AT MOST 1048576: true; the input reads as it did. -/
def cursorGoneUptoRow : OpenClaim := { program := "ytefnpalkkhhkfaa", sum := "b5fcd1828501b02efd34b2c690312b2146b13e006714352c3c7117a1a2508d6c", func := "foolscap/foolscaplaw18.CursorGone", spec := "cursorGone", inPlace := ["slices.overlaps[foolscap/rga.element]", "slices.overlaps[bool]", "slices.overlaps[*foolscap/index.block]", "slices.overlaps[foolscap/api.Entry]"], unfollowed := true, recurses := true, apart := false, narrowed := true }
def CursorGoneUptoSaid : Prop := cursorGoneUptoRow.holds Try.pinned (OpenSpec.upto cursorGoneSpec)

/-- 'foolscaplaw18.CursorStays', WHERE WHAT IT READS IS OF BULK AT MOST 1048576: true; the input reads as it did. -/
def cursorStaysUptoRow : OpenClaim := { program := "ytefnpalkkhhkfaa", sum := "b5fcd1828501b02efd34b2c690312b2146b13e006714352c3c7117a1a2508d6c", func := "foolscap/foolscaplaw18.CursorStays", spec := "cursorStays", inPlace := ["slices.overlaps[foolscap/rga.element]", "slices.overlaps[bool]", "slices.overlaps[*foolscap/index.block]", "slices.overlaps[foolscap/api.Entry]"], unfollowed := true, recurses := true, apart := false, narrowed := true }
def CursorStaysUptoSaid : Prop := cursorStaysUptoRow.holds Try.pinned (OpenSpec.upto cursorStaysSpec)

end Rows
end Go.Proofs.Ytefnpalkkhhkfaa
