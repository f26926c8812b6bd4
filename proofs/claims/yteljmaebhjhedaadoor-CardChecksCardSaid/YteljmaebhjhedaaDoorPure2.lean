/- What this claim reaches of a longer text of this session. -/
import Derived.Test.YteljmaebhjhedaaDoorStore
set_option linter.unusedVariables false
set_option linter.unusedSimpArgs false
namespace Go.Proofs.YteljmaebhjhedaaDoor
theorem known_mono {a b : Nat} (h : a ≤ b) {t : Int} (hk : knownB a t = true) : knownB b t = true := by
  rw [knownB_iff] at *; omega
end Go.Proofs.YteljmaebhjhedaaDoor
