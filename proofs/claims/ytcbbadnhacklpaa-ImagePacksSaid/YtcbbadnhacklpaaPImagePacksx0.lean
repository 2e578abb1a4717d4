/- For each Go function that is told here: a Lean function, and that the call comes to just its answers, wherever it has one. Written by a program of this session (wip/mkprint.py, wip/fixprint.py) FIXED. -/
import Derived.Test.YtcbbadnhacklpaaProg
import Derived.Below
import Derived.Deep.Draws
import Derived.Deep.AppendLies
import Derived.Maps.AppendAt
import Derived.OwnWalk
import Derived.Laws.BytesArg
import Derived.Laws.MakeOwn
import Derived.Laws.OwnMore
import Derived.Deep.OwnRows
import Derived.Tactics
import Derived.Lib.ConvBytes
import Derived.Laws.Slices
import Derived.WalkKit
import Derived.KernelRfl
import Derived.RowKit3
import Derived.Deep.LoopGhost
import Derived.Deep.QuietTactic
import Derived.BigQuiet
import Derived.WideLaws
import Derived.Deep.DeepCutAuto
import Derived.Deep.CutBlock
import Derived.Deep.RegionHeld3
import Derived.Laws.Rows
import Derived.Lib.AppendStr
import Derived.ArgAppend
import Derived.Laws.IdiomCopy
import Derived.OrdersHeld
import Derived.Laws.BitsLemmas
import Derived.RowKit
import Derived.Test.YtcbbadnhacklpaaWWords
import Derived.Test.YtcbbadnhacklpaaWLast
import Derived.Test.YtcbbadnhacklpaaWTab
import Derived.Test.YtcbbadnhacklpaaWFour
import Derived.Test.YtcbbadnhacklpaaWQPut
import Derived.Test.YtcbbadnhacklpaaWApart
import Derived.Test.YtcbbadnhacklpaaWArr
import Derived.Test.YtcbbadnhacklpaaWZeros
import Derived.Test.YtcbbadnhacklpaaWFoot
import Derived.Test.YtcbbadnhacklpaaWKept
import Derived.Test.YtcbbadnhacklpaaWShare
import Derived.Test.YtcbbadnhacklpaaWN
import Derived.Test.YtcbbadnhacklpaaWFootNe
import Derived.Test.YtcbbadnhacklpaaWAt
import Derived.Test.YtcbbadnhacklpaaWEqStruct
import Derived.Test.YtcbbadnhacklpaaWRepsOne
import Derived.Test.YtcbbadnhacklpaaWInv
import Derived.Test.YtcbbadnhacklpaaWInvWords
import Derived.Test.YtcbbadnhacklpaaWGuard
import Derived.Test.YtcbbadnhacklpaaWNEv
import Derived.Test.YtcbbadnhacklpaaWMore
namespace Go.Proofs.Ytcbbadnhacklpaa.PImagePacks
open Go.RowKit Go.Proofs.YtcbbadnhacklpaaW.PrintWords Go.Proofs.YtcbbadnhacklpaaW.PrintLast Go.Proofs.YtcbbadnhacklpaaW.PrintMore
attribute [local go_sem] max2_int min2_int max_two min_two max_three min_three max_four min_four   -- for this text's walks alone
set_option linter.unusedVariables false
set_option linter.unusedSimpArgs false



def errW : Option Int → Value
  | none => .nilIface
  | some c => .iface 0 (.int .i64 c)
theorem errW_none : errW none = .nilIface := rfl
theorem errW_some (c : Int) : errW (some c) = .iface 0 (.int .i64 c) := rfl

theorem info3 : (Try.prog.info? 3).map (fun i => (i.zero, i.size, i.bytes)) = some (some (.int .i64 0), 1, 8) := by kernel_rfl
theorem info5 : (Try.prog.info? 5).map (fun i => (i.zero, i.size, i.bytes)) = some (some (.int .u8 0), 1, 1) := by kernel_rfl
theorem info24 : (Try.prog.info? 24).map (fun i => (i.zero, i.size, i.bytes)) = some (some (.int .u64 0), 1, 8) := by kernel_rfl
-- the values' own types

end Go.Proofs.Ytcbbadnhacklpaa.PImagePacks
