-- PRINTED BY print.sh 35421559b90ae4d0a3588c463048766b98c2df88dd9212a6774a882060cdf62d: not written by this session
import Derived.Test.YtbpbhipjpjjcaaaDoorProg
import Derived.Below
import Derived.Deep.Draws
import Derived.Deep.AppendLies
import Derived.Maps.AppendAt
import Derived.OwnWalk
import Derived.Laws.BytesArg
import Derived.Laws.MakeOwn
import Derived.Laws.OwnMore
import Derived.Deep.OwnRows
import Derived.Tactics
import Derived.Lib.ConvBytes
import Derived.Laws.Slices
import Derived.WalkKit
import Derived.KernelRfl
import Derived.RowKit3
import Derived.Deep.LoopGhost
import Derived.Deep.QuietTactic
import Derived.BigQuiet
import Derived.WideLaws
import Derived.Deep.DeepCutAuto
import Derived.Deep.CutBlock
import Derived.Deep.RegionHeld3
import Derived.Laws.Rows
import Derived.Lib.AppendStr
import Derived.ArgAppend
import Derived.Laws.IdiomCopy
import Derived.OrdersHeld
import Derived.Laws.BitsLemmas
import Derived.RowKit
import Derived.Test.YtbpbhipjpjjcaaaDoorWWords
import Derived.Test.YtbpbhipjpjjcaaaDoorWLast
import Derived.Test.YtbpbhipjpjjcaaaDoorWTab
import Derived.Test.YtbpbhipjpjjcaaaDoorWFour
import Derived.Test.YtbpbhipjpjjcaaaDoorWQPut
import Derived.Test.YtbpbhipjpjjcaaaDoorWApart
import Derived.Test.YtbpbhipjpjjcaaaDoorWArr
import Derived.Test.YtbpbhipjpjjcaaaDoorWZeros
import Derived.Test.YtbpbhipjpjjcaaaDoorWFoot
import Derived.Test.YtbpbhipjpjjcaaaDoorWKept
import Derived.Test.YtbpbhipjpjjcaaaDoorWShare
import Derived.Test.YtbpbhipjpjjcaaaDoorWN
import Derived.Test.YtbpbhipjpjjcaaaDoorWFootNe
import Derived.Test.YtbpbhipjpjjcaaaDoorWAt
import Derived.Test.YtbpbhipjpjjcaaaDoorWEqStruct
import Derived.Test.YtbpbhipjpjjcaaaDoorWRepsOne
import Derived.Test.YtbpbhipjpjjcaaaDoorWInv
import Derived.Test.YtbpbhipjpjjcaaaDoorWInvWords
import Derived.Test.YtbpbhipjpjjcaaaDoorWGuard
import Derived.Test.YtbpbhipjpjjcaaaDoorWNEv
import Derived.Test.YtbpbhipjpjjcaaaDoorWMore
namespace Go.Proofs.YtbpbhipjpjjcaaaDoor.PHeapTwice
open Go.RowKit Go.Proofs.YtbpbhipjpjjcaaaDoorW.PrintWords Go.Proofs.YtbpbhipjpjjcaaaDoorW.PrintLast Go.Proofs.YtbpbhipjpjjcaaaDoorW.PrintMore
attribute [local go_sem] max2_int min2_int max_two min_two max_three min_three max_four min_four   -- for this text's walks alone
set_option linter.unusedVariables false
set_option linter.unusedSimpArgs false



def errW : Option Int → Value
  | none => .nilIface
  | some c => .iface 0 (.int .i64 c)
theorem errW_none : errW none = .nilIface := rfl
theorem errW_some (c : Int) : errW (some c) = .iface 0 (.int .i64 c) := rfl

theorem info4 : (Tryd.prog.info? 4).map (fun i => (i.zero, i.size, i.bytes)) = some (some (.bool false), 1, 1) := by kernel_rfl
theorem info5 : (Tryd.prog.info? 5).map (fun i => (i.zero, i.size, i.bytes)) = some (some (.int .u8 0), 1, 1) := by kernel_rfl
theorem info22 : (Tryd.prog.info? 22).map (fun i => (i.zero, i.size, i.bytes)) = some (some (.int .u64 0), 1, 8) := by kernel_rfl
theorem info23 : (Tryd.prog.info? 23).map (fun i => (i.zero, i.size, i.bytes)) = some (some (.int .u64 0), 1, 8) := by kernel_rfl
-- the values' own types

end Go.Proofs.YtbpbhipjpjjcaaaDoor.PHeapTwice
