/- The words and facts of the program that the walks of the utf functions use; no condition. (The lines of this text began as lines that a program of the kit had written for this statement; the walk of one function is turned.) -/
import Derived.Test.YtdbpeaadnhiekaaProg
import Derived.Below
import Derived.Deep.Draws
import Derived.Deep.AppendLies
import Derived.Maps.AppendAt
import Derived.OwnWalk
import Derived.Laws.BytesArg
import Derived.Laws.MakeOwn
import Derived.Laws.OwnMore
import Derived.Deep.OwnRows
import Derived.Tactics
import Derived.Lib.ConvBytes
import Derived.Laws.Slices
import Derived.WalkKit
import Derived.KernelRfl
import Derived.RowKit3
import Derived.Deep.LoopGhost
import Derived.Deep.QuietTactic
import Derived.BigQuiet
import Derived.WideLaws
import Derived.Deep.DeepCutAuto
import Derived.Deep.CutBlock
import Derived.Deep.RegionHeld3
import Derived.Laws.Rows
import Derived.Lib.AppendStr
import Derived.ArgAppend
import Derived.Laws.IdiomCopy
import Derived.OrdersHeld
import Derived.Laws.BitsLemmas
import Derived.RowKit
import Derived.Test.YtdbpeaadnhiekaaWWords
import Derived.Test.YtdbpeaadnhiekaaWLast
import Derived.Test.YtdbpeaadnhiekaaWTab
import Derived.Test.YtdbpeaadnhiekaaWFour
import Derived.Test.YtdbpeaadnhiekaaWQPut
import Derived.Test.YtdbpeaadnhiekaaWApart
import Derived.Test.YtdbpeaadnhiekaaWArr
import Derived.Test.YtdbpeaadnhiekaaWZeros
import Derived.Test.YtdbpeaadnhiekaaWFoot
import Derived.Test.YtdbpeaadnhiekaaWKept
import Derived.Test.YtdbpeaadnhiekaaWShare
import Derived.Test.YtdbpeaadnhiekaaWN
import Derived.Test.YtdbpeaadnhiekaaWFootNe
import Derived.Test.YtdbpeaadnhiekaaWAt
import Derived.Test.YtdbpeaadnhiekaaWEqStruct
import Derived.Test.YtdbpeaadnhiekaaWRepsOne
import Derived.Test.YtdbpeaadnhiekaaWInv
import Derived.Test.YtdbpeaadnhiekaaWInvWords
import Derived.Test.YtdbpeaadnhiekaaWGuard
import Derived.Test.YtdbpeaadnhiekaaWNEv
import Derived.Test.YtdbpeaadnhiekaaWMore
namespace Go.Proofs.Ytdbpeaadnhiekaa.PU
open Go.RowKit Go.Proofs.YtdbpeaadnhiekaaW.PrintWords Go.Proofs.YtdbpeaadnhiekaaW.PrintLast Go.Proofs.YtdbpeaadnhiekaaW.PrintMore
attribute [local go_sem] max2_int min2_int max_two min_two max_three min_three max_four min_four   -- for this text's walks alone
set_option linter.unusedVariables false
set_option linter.unusedSimpArgs false



def errW : Option Int → Value
  | none => .nilIface
  | some c => .iface 0 (.int .i64 c)
theorem errW_none : errW none = .nilIface := rfl
theorem errW_some (c : Int) : errW (some c) = .iface 0 (.int .i64 c) := rfl

theorem info5 : (Try.prog.info? 5).map (fun i => (i.zero, i.size, i.bytes)) = some (some (.int .u8 0), 1, 1) := by kernel_rfl
theorem info21 : (Try.prog.info? 21).map (fun i => (i.zero, i.size, i.bytes)) = some (some (.int .i32 0), 1, 4) := by kernel_rfl
-- the values' own types

end Go.Proofs.Ytdbpeaadnhiekaa.PU
