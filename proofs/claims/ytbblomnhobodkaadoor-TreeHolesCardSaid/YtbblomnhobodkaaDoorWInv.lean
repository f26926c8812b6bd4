/- What this claim reaches of a longer text of this session. -/
import Derived.Test.YtbblomnhobodkaaDoorWLast
import Derived.Test.YtbblomnhobodkaaDoorWWords
namespace Go.Proofs.YtbblomnhobodkaaDoorW.PrintLast
def up (b : Nat → Bool) (i : Nat) : Nat → Bool := fun j => if j = i then true else b j
end Go.Proofs.YtbblomnhobodkaaDoorW.PrintLast
