/- The plain statement behind HeapPathUp. -/
import Derived.Test.YtmioejkhhcjfpaaDoorPureHeap0
import Derived.Test.YtmioejkhhcjfpaaDoorPHex3
namespace Go.Proofs.YtmioejkhhcjfpaaDoor.Pure
open Go.RowKit Go.Proofs.YtmioejkhhcjfpaaDoor.PHe
set_option maxRecDepth 100000
theorem HeapPathUp : conclavelaw03_HeapPathUp.Pure := by
  intro x n _ _
  refine ⟨100, ?_⟩
  cases hi : inB x n with
  | true => exact of_places (P := fun x n => conclavelaw03_HeapPathUp.f 100 x n = some true) (by decide +kernel) hi
  | false =>
    unfold conclavelaw03_HeapPathUp.f
    rw [anch, Option.bind_some, if_pos rfl]
    unfold heap_Path.f
    rw [in_eq, refIn_eq, hi]
    rfl
end Go.Proofs.YtmioejkhhcjfpaaDoor.Pure
