/- What this claim reaches of a longer text of this session. -/
import Derived.Test.YtdipiigfjcaijaaDoorPDix0
import Derived.Test.YtdipiigfjcaijaaDoorStW
import Derived.Test.YtdipiigfjcaijaaDoorRef
import Derived.Test.YtdipiigfjcaijaaDoorStW
import Derived.Test.YtdipiigfjcaijaaDoorRef
import Derived.Test.YtdipiigfjcaijaaDoorBase
import Derived.Shelf.Spec.TrailingZeros
import Derived.Lib.ItoaNum
import Derived.Lib.LaidTab
import Derived.Test.YtdipiigfjcaijaaDoorShelf
import Derived.Test.YtdipiigfjcaijaaDoorStW
import Derived.Lib.ItoaNum
import Derived.Lib.LaidTab
import Derived.Test.YtdipiigfjcaijaaDoorStW
import Derived.Test.YtdipiigfjcaijaaDoorRangeCell
import Derived.Shelf.Spec.TrailingZeros
import Derived.Laws.Bits64
import Derived.Lib.Hide
import Derived.RangeFuncBox
import Derived.Maps.AppendAt
import Derived.Test.YtdipiigfjcaijaaDoorStW
namespace Go.Proofs.YtdipiigfjcaijaaDoor.PDi
open Go.RowKit Go.Proofs.YtdipiigfjcaijaaDoorW.PrintWords Go.Proofs.YtdipiigfjcaijaaDoorW.PrintLast Go.Proofs.YtdipiigfjcaijaaDoorW.PrintMore
attribute [local go_sem] max2_int min2_int max_two min_two max_three min_three max_four min_four   -- for this text's walks alone
set_option linter.unusedVariables false
set_option linter.unusedSimpArgs false
structure WfV (z : List S33) : Prop where
  len : z.length ≤ 9223372036854775807
  each : ∀ v ∈ z, (Lit.int .i64 v.f1).wf = true ∧ (Lit.int .i64 v.f2).wf = true ∧ (Lit.int .i64 v.f3).wf = true ∧ (Lit.int .i64 v.f4).wf = true ∧ v.f5.length ≤ maxLen ∧ ∀ x ∈ v.f5, (Lit.int .i64 x).wf = true
end Go.Proofs.YtdipiigfjcaijaaDoor.PDi
