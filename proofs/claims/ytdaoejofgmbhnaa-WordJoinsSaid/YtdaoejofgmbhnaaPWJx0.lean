/- Proves nothing by itself but how the Go functions of the claim PWJ run: each call comes to what the plain Lean function of the same name tells, where that tells anything. Written by wip/inject.py, a program of this session. -/
import Derived.Test.YtdaoejofgmbhnaaProg
import Derived.Below
import Derived.Deep.Draws
import Derived.Deep.AppendLies
import Derived.Maps.AppendAt
import Derived.OwnWalk
import Derived.Laws.BytesArg
import Derived.Laws.MakeOwn
import Derived.Laws.OwnMore
import Derived.Deep.OwnRows
import Derived.Tactics
import Derived.Lib.ConvBytes
import Derived.Laws.Slices
import Derived.WalkKit
import Derived.KernelRfl
import Derived.RowKit3
import Derived.Deep.LoopGhost
import Derived.Deep.QuietTactic
import Derived.BigQuiet
import Derived.WideLaws
import Derived.Deep.DeepCutAuto
import Derived.Deep.CutBlock
import Derived.Deep.RegionHeld3
import Derived.Laws.Rows
import Derived.Lib.AppendStr
import Derived.ArgAppend
import Derived.Laws.IdiomCopy
import Derived.OrdersHeld
import Derived.Laws.BitsLemmas
import Derived.RowKit
import Derived.Test.YtdaoejofgmbhnaaWWords
import Derived.Test.YtdaoejofgmbhnaaWLast
import Derived.Test.YtdaoejofgmbhnaaWTab
import Derived.Test.YtdaoejofgmbhnaaWFour
import Derived.Test.YtdaoejofgmbhnaaWQPut
import Derived.Test.YtdaoejofgmbhnaaWApart
import Derived.Test.YtdaoejofgmbhnaaWArr
import Derived.Test.YtdaoejofgmbhnaaWZeros
import Derived.Test.YtdaoejofgmbhnaaWFoot
import Derived.Test.YtdaoejofgmbhnaaWKept
import Derived.Test.YtdaoejofgmbhnaaWShare
import Derived.Test.YtdaoejofgmbhnaaWN
import Derived.Test.YtdaoejofgmbhnaaWFootNe
import Derived.Test.YtdaoejofgmbhnaaWAt
import Derived.Test.YtdaoejofgmbhnaaWEqStruct
import Derived.Test.YtdaoejofgmbhnaaWRepsOne
import Derived.Test.YtdaoejofgmbhnaaWInv
import Derived.Test.YtdaoejofgmbhnaaWInvWords
import Derived.Test.YtdaoejofgmbhnaaWGuard
import Derived.Test.YtdaoejofgmbhnaaWNEv
import Derived.Test.YtdaoejofgmbhnaaWMore
namespace Go.Proofs.Ytdaoejofgmbhnaa.PWJ
open Go.RowKit Go.Proofs.YtdaoejofgmbhnaaW.PrintWords Go.Proofs.YtdaoejofgmbhnaaW.PrintLast Go.Proofs.YtdaoejofgmbhnaaW.PrintMore
attribute [local go_sem] max2_int min2_int max_two min_two max_three min_three max_four min_four   -- for this text's walks alone
set_option linter.unusedVariables false
set_option linter.unusedSimpArgs false



def errW : Option Int → Value
  | none => .nilIface
  | some c => .iface 0 (.int .i64 c)
theorem errW_none : errW none = .nilIface := rfl
theorem errW_some (c : Int) : errW (some c) = .iface 0 (.int .i64 c) := rfl

theorem info5 : (Try.prog.info? 5).map (fun i => (i.zero, i.size, i.bytes)) = some (some (.int .u8 0), 1, 1) := by kernel_rfl
theorem info26 : (Try.prog.info? 26).map (fun i => (i.zero, i.size, i.bytes)) = some (some (.int .u16 0), 1, 2) := by kernel_rfl
-- the values' own types

end Go.Proofs.Ytdaoejofgmbhnaa.PWJ
