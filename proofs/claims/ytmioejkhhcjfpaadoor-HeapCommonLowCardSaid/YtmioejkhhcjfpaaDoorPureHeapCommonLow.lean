/- The plain statement behind HeapCommonLow. -/
import Derived.Test.YtmioejkhhcjfpaaDoorPureHeap0
import Derived.Test.YtmioejkhhcjfpaaDoorPHex9
namespace Go.Proofs.YtmioejkhhcjfpaaDoor.Pure
open Go.RowKit Go.Proofs.YtmioejkhhcjfpaaDoor.PHe
set_option maxRecDepth 100000
theorem common_low : ∀ n : Nat, n ∈ [1,2,4,8,16,32] → ∀ i : Nat, i < 32 → i < n → ∀ j : Nat, j < 32 → j < n → conclavelaw03_HeapCommonLow.f 400 i j n = some true := by decide +kernel
theorem HeapCommonLow : conclavelaw03_HeapCommonLow.Pure := by
  intro i j n _ _ _
  refine ⟨400, ?_⟩
  by_cases h : n ∈ ([1,2,4,8,16,32] : List Int) ∧ 0 ≤ i ∧ i < n ∧ 0 ≤ j ∧ j < n
  · obtain ⟨h1, h2, h3, h4, h5⟩ := h
    have hn : 1 ≤ n ∧ n ≤ 32 := by simp at h1; omega
    obtain ⟨m, rfl⟩ : ∃ m : Nat, n = m := ⟨n.toNat, by omega⟩
    obtain ⟨a, rfl⟩ : ∃ m : Nat, i = m := ⟨i.toNat, by omega⟩
    obtain ⟨b, rfl⟩ : ∃ m : Nat, j = m := ⟨j.toNat, by omega⟩
    exact common_low m (by simp at h1 ⊢; omega) a (by omega) (by omega) b (by omega) (by omega)
  · have hh : n ∈ ([1,2,4,8,16,32] : List Int) → 0 ≤ i → i < n → 0 ≤ j → ¬ j < n := fun a b c d e => h ⟨a, b, c, d, e⟩
    unfold conclavelaw03_HeapCommonLow.f
    rw [show conclavelaw03_anchor.f 400 = some true by decide +kernel, Option.bind_some, if_pos rfl, refRight_eq, Option.bind_some]
    by_cases h1 : n ∈ ([1,2,4,8,16,32] : List Int)
    · rw [if_pos (decide_eq_true h1)]
      by_cases h2 : i < 0
      · rw [if_pos h2]; rfl
      · rw [if_neg h2]
        by_cases h3 : j < 0
        · rw [if_pos h3]; rfl
        · rw [if_neg h3]
          by_cases h4 : i ≥ n
          · rw [if_pos h4]; rfl
          · rw [if_neg h4, decide_eq_true (show j ≥ n by have := hh h1 (by omega) (by omega) (by omega); omega)]; rfl
    · rw [decide_eq_false h1, if_neg (by decide)]; rfl
end Go.Proofs.YtmioejkhhcjfpaaDoor.Pure
