/- The plain statement behind HeapFamily. -/
import Derived.Test.YtmioejkhhcjfpaaDoorPureHeap0
import Derived.Test.YtmioejkhhcjfpaaDoorPHex6
namespace Go.Proofs.YtmioejkhhcjfpaaDoor.Pure
open Go.RowKit Go.Proofs.YtmioejkhhcjfpaaDoor.PHe
set_option maxRecDepth 100000
theorem HeapFamily : conclavelaw03_HeapFamily.Pure := by
  intro x n _ _
  refine ⟨100, ?_⟩
  cases hi : inB x n with
  | true => exact of_places (P := fun x n => conclavelaw03_HeapFamily.f 100 x n = some true) (by decide +kernel) hi
  | false =>
    unfold conclavelaw03_HeapFamily.f
    rw [anch, Option.bind_some, if_pos rfl, refIn_eq, hi]
    rfl
end Go.Proofs.YtmioejkhhcjfpaaDoor.Pure
