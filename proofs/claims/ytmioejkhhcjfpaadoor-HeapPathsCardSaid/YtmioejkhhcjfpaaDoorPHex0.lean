-- Written by a program of this session over the translation.
import Derived.Test.YtmioejkhhcjfpaaDoorProg
import Derived.Below
import Derived.Deep.Draws
import Derived.Deep.AppendLies
import Derived.Maps.AppendAt
import Derived.OwnWalk
import Derived.Laws.BytesArg
import Derived.Laws.MakeOwn
import Derived.Laws.OwnMore
import Derived.Deep.OwnRows
import Derived.Tactics
import Derived.Lib.ConvBytes
import Derived.Laws.Slices
import Derived.WalkKit
import Derived.KernelRfl
import Derived.RowKit3
import Derived.Deep.LoopGhost
import Derived.Deep.QuietTactic
import Derived.BigQuiet
import Derived.WideLaws
import Derived.Deep.DeepCutAuto
import Derived.Deep.CutBlock
import Derived.Deep.RegionHeld3
import Derived.Laws.Rows
import Derived.Lib.AppendStr
import Derived.ArgAppend
import Derived.Laws.IdiomCopy
import Derived.OrdersHeld
import Derived.Laws.BitsLemmas
import Derived.RowKit
import Derived.Test.YtmioejkhhcjfpaaDoorWWords
import Derived.Test.YtmioejkhhcjfpaaDoorWLast
import Derived.Test.YtmioejkhhcjfpaaDoorWTab
import Derived.Test.YtmioejkhhcjfpaaDoorWFour
import Derived.Test.YtmioejkhhcjfpaaDoorWQPut
import Derived.Test.YtmioejkhhcjfpaaDoorWApart
import Derived.Test.YtmioejkhhcjfpaaDoorWArr
import Derived.Test.YtmioejkhhcjfpaaDoorWZeros
import Derived.Test.YtmioejkhhcjfpaaDoorWFoot
import Derived.Test.YtmioejkhhcjfpaaDoorWKept
import Derived.Test.YtmioejkhhcjfpaaDoorWShare
import Derived.Test.YtmioejkhhcjfpaaDoorWN
import Derived.Test.YtmioejkhhcjfpaaDoorWFootNe
import Derived.Test.YtmioejkhhcjfpaaDoorWAt
import Derived.Test.YtmioejkhhcjfpaaDoorWEqStruct
import Derived.Test.YtmioejkhhcjfpaaDoorWRepsOne
import Derived.Test.YtmioejkhhcjfpaaDoorWInv
import Derived.Test.YtmioejkhhcjfpaaDoorWInvWords
import Derived.Test.YtmioejkhhcjfpaaDoorWGuard
import Derived.Test.YtmioejkhhcjfpaaDoorWNEv
import Derived.Test.YtmioejkhhcjfpaaDoorWMore
namespace Go.Proofs.YtmioejkhhcjfpaaDoor.PHe
open Go.RowKit Go.Proofs.YtmioejkhhcjfpaaDoorW.PrintWords Go.Proofs.YtmioejkhhcjfpaaDoorW.PrintLast Go.Proofs.YtmioejkhhcjfpaaDoorW.PrintMore
attribute [local go_sem] max2_int min2_int max_two min_two max_three min_three max_four min_four   -- for this text's walks alone
set_option linter.unusedVariables false
set_option linter.unusedSimpArgs false

def errW : Option Int → Value
  | none => .nilIface
  | some c => .iface 0 (.int .i64 c)
theorem errW_none : errW none = .nilIface := rfl
theorem errW_some (c : Int) : errW (some c) = .iface 0 (.int .i64 c) := rfl

theorem info3 : (Tryd.prog.info? 3).map (fun i => (i.zero, i.size, i.bytes)) = some (some (.int .i64 0), 1, 8) := by kernel_rfl
-- the values' own types


end Go.Proofs.YtmioejkhhcjfpaaDoor.PHe
