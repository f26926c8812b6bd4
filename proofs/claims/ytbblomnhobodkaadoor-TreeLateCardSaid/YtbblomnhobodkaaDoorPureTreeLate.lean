/- What this claim reaches of a longer text of this session. -/
import Derived.Test.YtbblomnhobodkaaDoorPTwx29
import Derived.Test.YtbblomnhobodkaaDoorPureTreeLateF
namespace Go.Proofs.YtbblomnhobodkaaDoor.Pure
open Go.RowKit Go.Proofs.YtbblomnhobodkaaDoor Go.Proofs.YtbblomnhobodkaaDoor.PTw Go.Proofs.YtbblomnhobodkaaDoorW.PrintWords
theorem TreeLate : conclavelaw04_TreeLate.Pure := by
  intro f0 f1 f2 f3 f4 l5 ops a _ _ _ _ _ _ _
  obtain ⟨K, hK⟩ := treeLate_ev f0 f1 f2 f3 f4 l5 ops a
  exact ⟨K, hK K (Nat.le_refl _)⟩
end Go.Proofs.YtbblomnhobodkaaDoor.Pure
