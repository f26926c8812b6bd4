/- Plain facts on places of trees: which there are; what holds at each of them. -/
import Derived.Test.YtmioejkhhcjfpaaDoorPHex1
import Derived.Test.YtmioejkhhcjfpaaDoorPHex2
namespace Go.Proofs.YtmioejkhhcjfpaaDoor.PHe
open Go.RowKit
set_option maxRecDepth 100000
theorem anch : conclavelaw03_anchor.f 100 = some true := by decide +kernel
def inB (x n : Int) : Bool := decide (n ∈ ([1,2,4,8,16,32] : List Int)) && decide (0 ≤ x) && decide (x < 2 * n - 1)
theorem wrap64_small {x : Int} (h0 : -9223372036854775808 ≤ x) (h1 : x ≤ 9223372036854775807) : wrap64 x = x := by unfold wrap64; omega
theorem refRight_eq (n : Int) : conclaveref03_Right.f n = some (decide (n ∈ ([1,2,4,8,16,32] : List Int))) := by
  unfold conclaveref03_Right.f
  by_cases h1 : n = 1
  · subst h1; rfl
  by_cases h2 : n = 2
  · subst h2; rfl
  by_cases h3 : n = 4
  · subst h3; rfl
  by_cases h4 : n = 8
  · subst h4; rfl
  by_cases h5 : n = 16
  · subst h5; rfl
  rw [if_neg h1, if_neg h2, if_neg h3, if_neg h4, if_neg h5]
  have : (n == 32) = decide (n = 32) := by rw [Bool.eq_iff_iff]; simp
  simp [h1, h2, h3, h4, h5, this]
theorem right_eq (n : Int) : heap_Right.f n = some (decide (n ∈ ([1,2,4,8,16,32] : List Int))) := by
  by_cases h : 1 ≤ n ∧ n ≤ 32
  · obtain ⟨m, rfl⟩ : ∃ m : Nat, n = m := ⟨n.toNat, by omega⟩
    have key : ∀ m : Nat, m < 33 → 1 ≤ m → heap_Right.f m = some (decide ((m : Int) ∈ ([1,2,4,8,16,32] : List Int))) := by decide +kernel
    exact key m (by omega) (by omega)
  · have : ¬ n ∈ ([1,2,4,8,16,32] : List Int) := by simp; omega
    rw [decide_eq_false this]
    unfold heap_Right.f
    by_cases h1 : n ≥ 1
    · rw [if_pos h1, if_neg (by omega)]
    · rw [if_neg h1]
theorem refIn_eq (x n : Int) : conclaveref03_In.f x n = some (inB x n) := by
  unfold conclaveref03_In.f inB
  rw [refRight_eq, Option.bind_some]
  by_cases h : n ∈ ([1,2,4,8,16,32] : List Int)
  · have hn : 1 ≤ n ∧ n ≤ 32 := by simp at h; omega
    rw [decide_eq_true h, wrap64_small (x := 2 * n) (by omega) (by omega), wrap64_small (by omega) (by omega)]
    by_cases h0 : x ≥ 0
    · simp [h0]
    · simp [h0]
  · rw [decide_eq_false h]; simp
theorem in_eq (x n : Int) : heap_in.f x n = some (inB x n) := by
  unfold heap_in.f inB
  rw [right_eq, Option.bind_some]
  by_cases h : n ∈ ([1,2,4,8,16,32] : List Int)
  · have hn : 1 ≤ n ∧ n ≤ 32 := by simp at h; omega
    rw [decide_eq_true h, wrap64_small (x := 2 * n) (by omega) (by omega), wrap64_small (by omega) (by omega)]
    by_cases h0 : x ≥ 0
    · simp [h0]; omega
    · simp [h0]
  · rw [decide_eq_false h]; simp
/-- What holds at each place of each tree holds wherever 'in' says yes. -/
theorem of_places {P : Int → Int → Prop} (h : ∀ n : Nat, n ∈ [1,2,4,8,16,32] → ∀ x : Nat, x < 63 → x < 2 * n - 1 → P x n) {x n : Int} (hi : inB x n = true) : P x n := by
  simp only [inB, Bool.and_eq_true, decide_eq_true_eq] at hi
  obtain ⟨⟨h1, h2⟩, h3⟩ := hi
  have hn : 1 ≤ n ∧ n ≤ 32 := by simp at h1; omega
  obtain ⟨m, rfl⟩ : ∃ m : Nat, n = m := ⟨n.toNat, by omega⟩
  obtain ⟨y, rfl⟩ : ∃ y : Nat, x = y := ⟨x.toNat, by omega⟩
  exact h m (by simp at h1 ⊢; omega) y (by omega) (by omega)
end Go.Proofs.YtmioejkhhcjfpaaDoor.PHe
