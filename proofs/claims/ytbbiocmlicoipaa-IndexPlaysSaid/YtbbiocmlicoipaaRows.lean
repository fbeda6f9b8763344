/-
  No cell of these rows narrows 'for every input' (looked for: loops, veiled, ifaces, maps, wideKeys, modest, calm, conditions, laid).
  DERIVED. THE GIVEN ROWS OF THIS SEAT. 11 by the template 'for every input the law returns true; each argument reads behind the call as it read before'; 0 by the template 'total and deterministic' (their statements: YtbbiocmlicoipaaTotals.lean).
  GIVEN WITH THE SEED: the statements are not yours to turn. If you find one false, say at which input.
  Laid BY PROGRAM, IN A SANDBOX (cutbox-rows.mjs): the forced cells as the released guide's own fill.sh prints them over the translation 5871e8faf113912a… (all of the seat's roots in one cut). By AI agents, Wed Nov 11 2026. No macro, syntax, notation, axiom, sorry.
-/
import Derived.Test.YtbbiocmlicoipaaChecked
import GoSem.Claim
import GoSem.ClaimJoined
import GoSem.ClaimMapViews
import Derived.JoinedTies
import Derived.KernelRfl
namespace Go.Proofs.Ytbbiocmlicoipaa
/- THE CELL 'sum', in the pinned program and in every row, IS THE sha256 OF THE DUMP (.gsa) THAT YtbbiocmlicoipaaProg.lean LOADS. Nothing in Lean hashes anything: it is a label: what it is worth is what the hold of that sum in a sandbox is worth. -/
noncomputable def Try.pinned : Pinned := { name := "ytbbiocmlicoipaa", sum := "5871e8faf113912a3037aca05298d06e6d8536caca84ce2523acdd3d525d8157", checked := Try.checked }
namespace Rows
def none {H : Type} : Left H := { results := [], args := [] }

/-- 'foolscaplaw13.IndexBack': WHATEVER THE INPUT: true; the input reads as it did. -/
def indexBackSpec : ChangeSpec := { name := "indexBack", fn := fun _ => fun
  | [d] => { results := [.lit (.bool true)], args := [d] }
  | _ => none }
def indexBackRow : OpenClaim := { program := "ytbbiocmlicoipaa", sum := "5871e8faf113912a3037aca05298d06e6d8536caca84ce2523acdd3d525d8157", func := "foolscap/foolscaplaw13.IndexBack", spec := "indexBack", inPlace := ["slices.overlaps[bool]", "slices.overlaps[*foolscap/index.block]"], apart := false }
def IndexBackSaid : Prop := indexBackRow.holds Try.pinned (OpenSpec.ofChange indexBackSpec)

/-- ITS FALSE NEIGHBOUR: 'it returns false'. Refute it at one input. -/
def indexBackWrong : ChangeSpec := { name := "indexBack", fn := fun _ => fun
  | [d] => { results := [.lit (.bool false)], args := [d] }
  | _ => none }
def IndexBackWrongFalsely : Prop := indexBackRow.holds Try.pinned (OpenSpec.ofChange indexBackWrong)

/-- 'foolscaplaw13.IndexOrder': WHATEVER THE INPUT: true; the input reads as it did. -/
def indexOrderSpec : ChangeSpec := { name := "indexOrder", fn := fun _ => fun
  | [d] => { results := [.lit (.bool true)], args := [d] }
  | _ => none }
def indexOrderRow : OpenClaim := { program := "ytbbiocmlicoipaa", sum := "5871e8faf113912a3037aca05298d06e6d8536caca84ce2523acdd3d525d8157", func := "foolscap/foolscaplaw13.IndexOrder", spec := "indexOrder", inPlace := ["slices.overlaps[bool]", "slices.overlaps[*foolscap/index.block]"], apart := false }
def IndexOrderSaid : Prop := indexOrderRow.holds Try.pinned (OpenSpec.ofChange indexOrderSpec)

/-- ITS FALSE NEIGHBOUR: 'it returns false'. Refute it at one input. -/
def indexOrderWrong : ChangeSpec := { name := "indexOrder", fn := fun _ => fun
  | [d] => { results := [.lit (.bool false)], args := [d] }
  | _ => none }
def IndexOrderWrongFalsely : Prop := indexOrderRow.holds Try.pinned (OpenSpec.ofChange indexOrderWrong)

/-- 'foolscaplaw13.IndexParts': WHATEVER THE INPUT: true; the input reads as it did. -/
def indexPartsSpec : ChangeSpec := { name := "indexParts", fn := fun _ => fun
  | [d1, d2] => { results := [.lit (.bool true)], args := [d1, d2] }
  | _ => none }
def indexPartsRow : OpenClaim := { program := "ytbbiocmlicoipaa", sum := "5871e8faf113912a3037aca05298d06e6d8536caca84ce2523acdd3d525d8157", func := "foolscap/foolscaplaw13.IndexParts", spec := "indexParts", inPlace := ["slices.overlaps[bool]", "slices.overlaps[*foolscap/index.block]"], apart := false }
def IndexPartsSaid : Prop := indexPartsRow.holds Try.pinned (OpenSpec.ofChange indexPartsSpec)

/-- ITS FALSE NEIGHBOUR: 'it returns false'. Refute it at one input. -/
def indexPartsWrong : ChangeSpec := { name := "indexParts", fn := fun _ => fun
  | [d1, d2] => { results := [.lit (.bool false)], args := [d1, d2] }
  | _ => none }
def IndexPartsWrongFalsely : Prop := indexPartsRow.holds Try.pinned (OpenSpec.ofChange indexPartsWrong)

/-- 'foolscaplaw13.IndexPlays': WHATEVER THE INPUT: true; the input reads as it did. -/
def indexPlaysSpec : ChangeSpec := { name := "indexPlays", fn := fun _ => fun
  | [d] => { results := [.lit (.bool true)], args := [d] }
  | _ => none }
def indexPlaysRow : OpenClaim := { program := "ytbbiocmlicoipaa", sum := "5871e8faf113912a3037aca05298d06e6d8536caca84ce2523acdd3d525d8157", func := "foolscap/foolscaplaw13.IndexPlays", spec := "indexPlays", inPlace := ["slices.overlaps[bool]", "slices.overlaps[*foolscap/index.block]"], apart := false }
def IndexPlaysSaid : Prop := indexPlaysRow.holds Try.pinned (OpenSpec.ofChange indexPlaysSpec)

/-- ITS FALSE NEIGHBOUR: 'it returns false'. Refute it at one input. -/
def indexPlaysWrong : ChangeSpec := { name := "indexPlays", fn := fun _ => fun
  | [d] => { results := [.lit (.bool false)], args := [d] }
  | _ => none }
def IndexPlaysWrongFalsely : Prop := indexPlaysRow.holds Try.pinned (OpenSpec.ofChange indexPlaysWrong)

/-- 'foolscaplaw13.IndexSets': WHATEVER THE INPUT: true; the input reads as it did. -/
def indexSetsSpec : ChangeSpec := { name := "indexSets", fn := fun _ => fun
  | [d1, d2, d3] => { results := [.lit (.bool true)], args := [d1, d2, d3] }
  | _ => none }
def indexSetsRow : OpenClaim := { program := "ytbbiocmlicoipaa", sum := "5871e8faf113912a3037aca05298d06e6d8536caca84ce2523acdd3d525d8157", func := "foolscap/foolscaplaw13.IndexSets", spec := "indexSets", inPlace := ["slices.overlaps[bool]", "slices.overlaps[*foolscap/index.block]"], apart := false }
def IndexSetsSaid : Prop := indexSetsRow.holds Try.pinned (OpenSpec.ofChange indexSetsSpec)

/-- ITS FALSE NEIGHBOUR: 'it returns false'. Refute it at one input. -/
def indexSetsWrong : ChangeSpec := { name := "indexSets", fn := fun _ => fun
  | [d1, d2, d3] => { results := [.lit (.bool false)], args := [d1, d2, d3] }
  | _ => none }
def IndexSetsWrongFalsely : Prop := indexSetsRow.holds Try.pinned (OpenSpec.ofChange indexSetsWrong)

/-- 'foolscaplaw12.IdentAuthors': WHATEVER THE INPUT: true; the input reads as it did. -/
def identAuthorsSpec : ChangeSpec := { name := "identAuthors", fn := fun _ => fun
  | [d1, d2, d3, d4, d5] => { results := [.lit (.bool true)], args := [d1, d2, d3, d4, d5] }
  | _ => none }
def identAuthorsRow : OpenClaim := { program := "ytbbiocmlicoipaa", sum := "5871e8faf113912a3037aca05298d06e6d8536caca84ce2523acdd3d525d8157", func := "foolscap/foolscaplaw12.IdentAuthors", spec := "identAuthors", inPlace := ["slices.overlaps[foolscap/api.Entry]"], unfollowed := true, recurses := true, apart := false }
def IdentAuthorsSaid : Prop := identAuthorsRow.holds Try.pinned (OpenSpec.ofChange identAuthorsSpec)

/-- ITS FALSE NEIGHBOUR: 'it returns false'. Refute it at one input. -/
def identAuthorsWrong : ChangeSpec := { name := "identAuthors", fn := fun _ => fun
  | [d1, d2, d3, d4, d5] => { results := [.lit (.bool false)], args := [d1, d2, d3, d4, d5] }
  | _ => none }
def IdentAuthorsWrongFalsely : Prop := identAuthorsRow.holds Try.pinned (OpenSpec.ofChange identAuthorsWrong)

/-- 'foolscaplaw12.IdentWiths': WHATEVER THE INPUT: true; the input reads as it did. -/
def identWithsSpec : ChangeSpec := { name := "identWiths", fn := fun _ => fun
  | [d] => { results := [.lit (.bool true)], args := [d] }
  | _ => none }
def identWithsRow : OpenClaim := { program := "ytbbiocmlicoipaa", sum := "5871e8faf113912a3037aca05298d06e6d8536caca84ce2523acdd3d525d8157", func := "foolscap/foolscaplaw12.IdentWiths", spec := "identWiths", inPlace := ["slices.overlaps[foolscap/api.Entry]"], unfollowed := true, recurses := true, apart := false }
def IdentWithsSaid : Prop := identWithsRow.holds Try.pinned (OpenSpec.ofChange identWithsSpec)

/-- ITS FALSE NEIGHBOUR: 'it returns false'. Refute it at one input. -/
def identWithsWrong : ChangeSpec := { name := "identWiths", fn := fun _ => fun
  | [d] => { results := [.lit (.bool false)], args := [d] }
  | _ => none }
def IdentWithsWrongFalsely : Prop := identWithsRow.holds Try.pinned (OpenSpec.ofChange identWithsWrong)

/-- 'foolscaplaw12.IdentOps': WHATEVER THE INPUT: true; the input reads as it did. -/
def identOpsSpec : ChangeSpec := { name := "identOps", fn := fun _ => fun
  | [d] => { results := [.lit (.bool true)], args := [d] }
  | _ => none }
def identOpsRow : OpenClaim := { program := "ytbbiocmlicoipaa", sum := "5871e8faf113912a3037aca05298d06e6d8536caca84ce2523acdd3d525d8157", func := "foolscap/foolscaplaw12.IdentOps", spec := "identOps", inPlace := ["slices.overlaps[foolscap/api.Entry]"], unfollowed := true, recurses := true, apart := false }
def IdentOpsSaid : Prop := identOpsRow.holds Try.pinned (OpenSpec.ofChange identOpsSpec)

/-- ITS FALSE NEIGHBOUR: 'it returns false'. Refute it at one input. -/
def identOpsWrong : ChangeSpec := { name := "identOps", fn := fun _ => fun
  | [d] => { results := [.lit (.bool false)], args := [d] }
  | _ => none }
def IdentOpsWrongFalsely : Prop := identOpsRow.holds Try.pinned (OpenSpec.ofChange identOpsWrong)

/-- 'foolscaplaw12.IdentJoins': WHATEVER THE INPUT: true; the input reads as it did. -/
def identJoinsSpec : ChangeSpec := { name := "identJoins", fn := fun _ => fun
  | [d1, d2, d3] => { results := [.lit (.bool true)], args := [d1, d2, d3] }
  | _ => none }
def identJoinsRow : OpenClaim := { program := "ytbbiocmlicoipaa", sum := "5871e8faf113912a3037aca05298d06e6d8536caca84ce2523acdd3d525d8157", func := "foolscap/foolscaplaw12.IdentJoins", spec := "identJoins", inPlace := ["slices.overlaps[foolscap/api.Entry]"], unfollowed := true, recurses := true, apart := false }
def IdentJoinsSaid : Prop := identJoinsRow.holds Try.pinned (OpenSpec.ofChange identJoinsSpec)

/-- ITS FALSE NEIGHBOUR: 'it returns false'. Refute it at one input. -/
def identJoinsWrong : ChangeSpec := { name := "identJoins", fn := fun _ => fun
  | [d1, d2, d3] => { results := [.lit (.bool false)], args := [d1, d2, d3] }
  | _ => none }
def IdentJoinsWrongFalsely : Prop := identJoinsRow.holds Try.pinned (OpenSpec.ofChange identJoinsWrong)

/-- 'foolscaplaw12.IdentTells': WHATEVER THE INPUT: true; the input reads as it did. -/
def identTellsSpec : ChangeSpec := { name := "identTells", fn := fun _ => fun
  | [d1, d2, d3, d4, d5] => { results := [.lit (.bool true)], args := [d1, d2, d3, d4, d5] }
  | _ => none }
def identTellsRow : OpenClaim := { program := "ytbbiocmlicoipaa", sum := "5871e8faf113912a3037aca05298d06e6d8536caca84ce2523acdd3d525d8157", func := "foolscap/foolscaplaw12.IdentTells", spec := "identTells", inPlace := ["slices.overlaps[foolscap/api.Entry]"], unfollowed := true, recurses := true, apart := false }
def IdentTellsSaid : Prop := identTellsRow.holds Try.pinned (OpenSpec.ofChange identTellsSpec)

/-- ITS FALSE NEIGHBOUR: 'it returns false'. Refute it at one input. -/
def identTellsWrong : ChangeSpec := { name := "identTells", fn := fun _ => fun
  | [d1, d2, d3, d4, d5] => { results := [.lit (.bool false)], args := [d1, d2, d3, d4, d5] }
  | _ => none }
def IdentTellsWrongFalsely : Prop := identTellsRow.holds Try.pinned (OpenSpec.ofChange identTellsWrong)

/-- 'foolscaplaw12.IdentOrder': WHATEVER THE INPUT: true; the input reads as it did. -/
def identOrderSpec : ChangeSpec := { name := "identOrder", fn := fun _ => fun
  | [d1, d2, d3] => { results := [.lit (.bool true)], args := [d1, d2, d3] }
  | _ => none }
def identOrderRow : OpenClaim := { program := "ytbbiocmlicoipaa", sum := "5871e8faf113912a3037aca05298d06e6d8536caca84ce2523acdd3d525d8157", func := "foolscap/foolscaplaw12.IdentOrder", spec := "identOrder", inPlace := ["slices.overlaps[foolscap/api.Entry]"], unfollowed := true, recurses := true, apart := false }
def IdentOrderSaid : Prop := identOrderRow.holds Try.pinned (OpenSpec.ofChange identOrderSpec)

/-- ITS FALSE NEIGHBOUR: 'it returns false'. Refute it at one input. -/
def identOrderWrong : ChangeSpec := { name := "identOrder", fn := fun _ => fun
  | [d1, d2, d3] => { results := [.lit (.bool false)], args := [d1, d2, d3] }
  | _ => none }
def IdentOrderWrongFalsely : Prop := identOrderRow.holds Try.pinned (OpenSpec.ofChange identOrderWrong)

/- THE SECOND FORM. 'bulk': how many values and letters a reading holds, each counted each time it is reached (what is shared counts as often as it is met; a slice's spare places count too). A statement '..UptoSaid' is the law's where the arguments, and the package variables that the reading takes, are together of bulk at most 1048576: NARROWER than '..Said'. Prove '..Said' where nothing that the law and all that it calls make is longer than what came in: it says more and counts as full. Else prove '..UptoSaid'. A law counts once. -/
mutual
def uptoBulk {H : Type} : DataW H → Nat
  | .lit (.string bytes) => bytes.length + 1
  | .lit _ => 1
  | .nil => 1
  | .ptr d => uptoBulk d + 1
  | .slice elems spare => uptoBulkAll elems + uptoBulkAll spare + 1
  | .agg parts => uptoBulkAll parts + 1
  | .iface _ d => uptoBulk d + 1
  | .map entries => uptoBulkEntries entries + 1
  | .held _ => 1
def uptoBulkAll {H : Type} : List (DataW H) → Nat
  | [] => 0
  | d :: r => uptoBulk d + uptoBulkAll r
def uptoBulkEntries {H : Type} : List (Lit × DataW H) → Nat
  | [] => 0
  | x :: r => uptoBulkEntry x + uptoBulkEntries r
def uptoBulkEntry {H : Type} : Lit × DataW H → Nat
  | (.string bytes, d) => bytes.length + uptoBulk d + 1
  | (_, d) => uptoBulk d + 1
 end
def uptoSmall : (H : Type) → List (DataW H) → Bool := fun _ ds => decide (uptoBulkAll ds ≤ 1048576)
def OpenSpec.upto (s : _root_.Go.ChangeSpec) : _root_.Go.OpenSpec := { _root_.Go.OpenSpec.ofChange s with cond := some uptoSmall }

/-- 'foolscaplaw13.IndexBack', WHERE WHAT IT READS IS OF BULK AT MOST 1048576: true; the input reads as it did. -/
def indexBackUptoRow : OpenClaim := { program := "ytbbiocmlicoipaa", sum := "5871e8faf113912a3037aca05298d06e6d8536caca84ce2523acdd3d525d8157", func := "foolscap/foolscaplaw13.IndexBack", spec := "indexBack", inPlace := ["slices.overlaps[bool]", "slices.overlaps[*foolscap/index.block]"], apart := false, narrowed := true }
def IndexBackUptoSaid : Prop := indexBackUptoRow.holds Try.pinned (OpenSpec.upto indexBackSpec)

/-- 'foolscaplaw13.IndexOrder', WHERE WHAT IT READS IS OF BULK AT MOST 1048576: true; the input reads as it did. -/
def indexOrderUptoRow : OpenClaim := { program := "ytbbiocmlicoipaa", sum := "5871e8faf113912a3037aca05298d06e6d8536caca84ce2523acdd3d525d8157", func := "foolscap/foolscaplaw13.IndexOrder", spec := "indexOrder", inPlace := ["slices.overlaps[bool]", "slices.overlaps[*foolscap/index.block]"], apart := false, narrowed := true }
def IndexOrderUptoSaid : Prop := indexOrderUptoRow.holds Try.pinned (OpenSpec.upto indexOrderSpec)

/-- 'foolscaplaw13.IndexParts', WHERE WHAT IT READS IS OF BULK AT MOST 1048576: true; the input reads as it did. -/
def indexPartsUptoRow : OpenClaim := { program := "ytbbiocmlicoipaa", sum := "5871e8faf113912a3037aca05298d06e6d8536caca84ce2523acdd3d525d8157", func := "foolscap/foolscaplaw13.IndexParts", spec := "indexParts", inPlace := ["slices.overlaps[bool]", "slices.overlaps[*foolscap/index.block]"], apart := false, narrowed := true }
def IndexPartsUptoSaid : Prop := indexPartsUptoRow.holds Try.pinned (OpenSpec.upto indexPartsSpec)

/-- 'foolscaplaw13.IndexPlays', WHERE WHAT IT READS IS OF BULK AT MOST 1048576: true; the input reads as it did. -/
def indexPlaysUptoRow : OpenClaim := { program := "ytbbiocmlicoipaa", sum := "5871e8faf113912a3037aca05298d06e6d8536caca84ce2523acdd3d525d8157", func := "foolscap/foolscaplaw13.IndexPlays", spec := "indexPlays", inPlace := ["slices.overlaps[bool]", "slices.overlaps[*foolscap/index.block]"], apart := false, narrowed := true }
def IndexPlaysUptoSaid : Prop := indexPlaysUptoRow.holds Try.pinned (OpenSpec.upto indexPlaysSpec)

/-- 'foolscaplaw13.IndexSets', WHERE WHAT IT READS IS OF BULK AT MOST 1048576: true; the input reads as it did. -/
def indexSetsUptoRow : OpenClaim := { program := "ytbbiocmlicoipaa", sum := "5871e8faf113912a3037aca05298d06e6d8536caca84ce2523acdd3d525d8157", func := "foolscap/foolscaplaw13.IndexSets", spec := "indexSets", inPlace := ["slices.overlaps[bool]", "slices.overlaps[*foolscap/index.block]"], apart := false, narrowed := true }
def IndexSetsUptoSaid : Prop := indexSetsUptoRow.holds Try.pinned (OpenSpec.upto indexSetsSpec)

/-- 'foolscaplaw12.IdentAuthors', WHERE WHAT IT READS IS OF BULK AT MOST 1048576: true; the input reads as it did. -/
def identAuthorsUptoRow : OpenClaim := { program := "ytbbiocmlicoipaa", sum := "5871e8faf113912a3037aca05298d06e6d8536caca84ce2523acdd3d525d8157", func := "foolscap/foolscaplaw12.IdentAuthors", spec := "identAuthors", inPlace := ["slices.overlaps[foolscap/api.Entry]"], unfollowed := true, recurses := true, apart := false, narrowed := true }
def IdentAuthorsUptoSaid : Prop := identAuthorsUptoRow.holds Try.pinned (OpenSpec.upto identAuthorsSpec)

/-- 'foolscaplaw12.IdentWiths', WHERE WHAT IT READS IS OF BULK AT MOST 1048576: true; the input reads as it did. -/
def identWithsUptoRow : OpenClaim := { program := "ytbbiocmlicoipaa", sum := "5871e8faf113912a3037aca05298d06e6d8536caca84ce2523acdd3d525d8157", func := "foolscap/foolscaplaw12.IdentWiths", spec := "identWiths", inPlace := ["slices.overlaps[foolscap/api.Entry]"], unfollowed := true, recurses := true, apart := false, narrowed := true }
def IdentWithsUptoSaid : Prop := identWithsUptoRow.holds Try.pinned (OpenSpec.upto identWithsSpec)

/-- 'foolscaplaw12.IdentOps', WHERE WHAT IT READS IS OF BULK AT MOST 1048576: true; the input reads as it did. -/
def identOpsUptoRow : OpenClaim := { program := "ytbbiocmlicoipaa", sum := "5871e8faf113912a3037aca05298d06e6d8536caca84ce2523acdd3d525d8157", func := "foolscap/foolscaplaw12.IdentOps", spec := "identOps", inPlace := ["slices.overlaps[foolscap/api.Entry]"], unfollowed := true, recurses := true, apart := false, narrowed := true }
def IdentOpsUptoSaid : Prop := identOpsUptoRow.holds Try.pinned (OpenSpec.upto identOpsSpec)

/-- 'foolscaplaw12.IdentJoins', WHERE WHAT IT READS IS OF BULK AT MOST 1048576: true; the input reads as it did. -/
def identJoinsUptoRow : OpenClaim := { program := "ytbbiocmlicoipaa", sum := "5871e8faf113912a3037aca05298d06e6d8536caca84ce2523acdd3d525d8157", func := "foolscap/foolscaplaw12.IdentJoins", spec := "identJoins", inPlace := ["slices.overlaps[foolscap/api.Entry]"], unfollowed := true, recurses := true, apart := false, narrowed := true }
def IdentJoinsUptoSaid : Prop := identJoinsUptoRow.holds Try.pinned (OpenSpec.upto identJoinsSpec)

/-- 'foolscaplaw12.IdentTells', WHERE WHAT IT READS IS OF BULK AT MOST 1048576: true; the input reads as it did. -/
def identTellsUptoRow : OpenClaim := { program := "ytbbiocmlicoipaa", sum := "5871e8faf113912a3037aca05298d06e6d8536caca84ce2523acdd3d525d8157", func := "foolscap/foolscaplaw12.IdentTells", spec := "identTells", inPlace := ["slices.overlaps[foolscap/api.Entry]"], unfollowed := true, recurses := true, apart := false, narrowed := true }
def IdentTellsUptoSaid : Prop := identTellsUptoRow.holds Try.pinned (OpenSpec.upto identTellsSpec)

/-- 'foolscaplaw12.IdentOrder', WHERE WHAT IT READS IS OF BULK AT MOST 1048576: true; the input reads as it did. -/
def identOrderUptoRow : OpenClaim := { program := "ytbbiocmlicoipaa", sum := "5871e8faf113912a3037aca05298d06e6d8536caca84ce2523acdd3d525d8157", func := "foolscap/foolscaplaw12.IdentOrder", spec := "identOrder", inPlace := ["slices.overlaps[foolscap/api.Entry]"], unfollowed := true, recurses := true, apart := false, narrowed := true }
def IdentOrderUptoSaid : Prop := identOrderUptoRow.holds Try.pinned (OpenSpec.upto identOrderSpec)

end Rows
end Go.Proofs.Ytbbiocmlicoipaa
