/- Proves nothing by itself but how the Go functions of the claim PHexa run: each call comes to what the plain Lean function of the same name tells, where that tells anything. Written by wip/inject.py, a program of this session. -/
import Derived.Test.YtbdfjaimgldokaaProg
import Derived.Below
import Derived.Deep.Draws
import Derived.Deep.AppendLies
import Derived.Maps.AppendAt
import Derived.OwnWalk
import Derived.Laws.BytesArg
import Derived.Laws.MakeOwn
import Derived.Laws.OwnMore
import Derived.Deep.OwnRows
import Derived.Tactics
import Derived.Lib.ConvBytes
import Derived.Laws.Slices
import Derived.WalkKit
import Derived.KernelRfl
import Derived.RowKit3
import Derived.Deep.LoopGhost
import Derived.Deep.QuietTactic
import Derived.BigQuiet
import Derived.WideLaws
import Derived.Deep.DeepCutAuto
import Derived.Deep.CutBlock
import Derived.Deep.RegionHeld3
import Derived.Laws.Rows
import Derived.Lib.AppendStr
import Derived.ArgAppend
import Derived.Laws.IdiomCopy
import Derived.OrdersHeld
import Derived.Laws.BitsLemmas
import Derived.RowKit
import Derived.Test.YtbdfjaimgldokaaHHexaPut
import Derived.Test.YtbdfjaimgldokaaWWords
import Derived.Test.YtbdfjaimgldokaaWLast
import Derived.Test.YtbdfjaimgldokaaWTab
import Derived.Test.YtbdfjaimgldokaaWFour
import Derived.Test.YtbdfjaimgldokaaWQPut
import Derived.Test.YtbdfjaimgldokaaWApart
import Derived.Test.YtbdfjaimgldokaaWArr
import Derived.Test.YtbdfjaimgldokaaWZeros
import Derived.Test.YtbdfjaimgldokaaWFoot
import Derived.Test.YtbdfjaimgldokaaWKept
import Derived.Test.YtbdfjaimgldokaaWShare
import Derived.Test.YtbdfjaimgldokaaWN
import Derived.Test.YtbdfjaimgldokaaWFootNe
import Derived.Test.YtbdfjaimgldokaaWAt
import Derived.Test.YtbdfjaimgldokaaWEqStruct
import Derived.Test.YtbdfjaimgldokaaWRepsOne
import Derived.Test.YtbdfjaimgldokaaWInv
import Derived.Test.YtbdfjaimgldokaaWInvWords
import Derived.Test.YtbdfjaimgldokaaWGuard
import Derived.Test.YtbdfjaimgldokaaWNEv
import Derived.Test.YtbdfjaimgldokaaWMore
namespace Go.Proofs.Ytbdfjaimgldokaa.PHexa
open Go.RowKit Go.Proofs.YtbdfjaimgldokaaW.PrintWords Go.Proofs.YtbdfjaimgldokaaW.PrintLast Go.Proofs.YtbdfjaimgldokaaW.PrintMore
attribute [local go_sem] max2_int min2_int max_two min_two max_three min_three max_four min_four   -- for this text's walks alone
set_option linter.unusedVariables false
set_option linter.unusedSimpArgs false



def errW : Option Int → Value
  | none => .nilIface
  | some c => .iface 0 (.int .i64 c)
theorem errW_none : errW none = .nilIface := rfl
theorem errW_some (c : Int) : errW (some c) = .iface 0 (.int .i64 c) := rfl

theorem info5 : (Try.prog.info? 5).map (fun i => (i.zero, i.size, i.bytes)) = some (some (.int .u8 0), 1, 1) := by kernel_rfl
-- the values' own types

end Go.Proofs.Ytbdfjaimgldokaa.PHexa
