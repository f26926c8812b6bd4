/- The plain statement behind HeapCovers. -/
import Derived.Test.YtmioejkhhcjfpaaDoorPureHeap0
import Derived.Test.YtmioejkhhcjfpaaDoorPHex8
namespace Go.Proofs.YtmioejkhhcjfpaaDoor.Pure
open Go.RowKit Go.Proofs.YtmioejkhhcjfpaaDoor.PHe
set_option maxRecDepth 100000
theorem HeapCovers : conclavelaw03_HeapCovers.Pure := by
  intro i n _ _
  refine ⟨400, ?_⟩
  by_cases h : n ∈ ([1,2,4,8,16,32] : List Int) ∧ 0 ≤ i ∧ i < n
  · obtain ⟨h1, h2, h3⟩ := h
    have hi : inB i n = true := by simp only [inB, Bool.and_eq_true, decide_eq_true_eq]; exact ⟨⟨h1, h2⟩, by omega⟩
    exact of_places (P := fun i n => i < n → conclavelaw03_HeapCovers.f 400 i n = some true) (by decide +kernel) hi h3
  · have hh : n ∈ ([1,2,4,8,16,32] : List Int) → 0 ≤ i → ¬ i < n := fun a b c => h ⟨a, b, c⟩
    unfold conclavelaw03_HeapCovers.f
    rw [show conclavelaw03_anchor.f 400 = some true by decide +kernel, Option.bind_some, if_pos rfl, refRight_eq, Option.bind_some]
    by_cases h1 : n ∈ ([1,2,4,8,16,32] : List Int)
    · rw [if_pos (decide_eq_true h1)]
      by_cases h2 : i < 0
      · rw [if_pos h2]; rfl
      · rw [if_neg h2, decide_eq_true (show i ≥ n by have := hh h1 (by omega); omega)]; rfl
    · rw [decide_eq_false h1, if_neg (by decide)]; rfl
end Go.Proofs.YtmioejkhhcjfpaaDoor.Pure
