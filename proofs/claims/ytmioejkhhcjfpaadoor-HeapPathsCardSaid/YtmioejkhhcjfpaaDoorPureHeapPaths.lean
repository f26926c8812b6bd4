/- The plain statement behind HeapPaths: each part is looked at place by place. -/
import Derived.Test.YtmioejkhhcjfpaaDoorPureHeap0
import Derived.Test.YtmioejkhhcjfpaaDoorPHex7
namespace Go.Proofs.YtmioejkhhcjfpaaDoor.Pure
open Go.RowKit Go.Proofs.YtmioejkhhcjfpaaDoor.PHe
set_option maxRecDepth 100000

def underOk (x y n : Nat) : Bool := match heap_Under.f 100 x y n, conclaveref03_Under.f 100 x y n with
  | some a, some b => a == b
  | _, _ => false
theorem under_all : ∀ n : Nat, n ∈ [1,2,4,8,16,32] → ∀ x : Nat, x < 63 → x < 2 * n - 1 → ∀ y : Nat, y < 63 → y < 2 * n - 1 → underOk x y n = true := by decide +kernel
def commonOk (x y n : Nat) : Bool := match heap_Common.f 100 x y n, conclaveref03_Common.f 99 x y n with
  | some (a, 0), some b => a == b
  | _, _ => false
theorem common_all : ∀ n : Nat, n ∈ [1,2,4,8,16,32] → ∀ x : Nat, x < 32 → x < n → ∀ y : Nat, y < 32 → y < n → commonOk x y n = true := by decide +kernel
def pathOk (x n : Nat) : Bool := match heap_Path.f x n, heap_Copath.f x n with
  | some (p, 0), some (c, 0) => conclavelaw03_HeapPaths.j1 99 x n p 0 c 0 == some true
  | _, _ => false
theorem path_all : ∀ n : Nat, n ∈ [1,2,4,8,16,32] → ∀ x : Nat, x < 63 → x < 2 * n - 1 → pathOk x n = true := by decide +kernel

theorem under_any (x y n : Int) : ∃ b, heap_Under.f 100 x y n = some b ∧ conclaveref03_Under.f 100 x y n = some b := by
  cases hx : inB x n with
  | false =>
    refine ⟨false, ?_, ?_⟩
    · unfold heap_Under.f; rw [in_eq, hx]; rfl
    · unfold conclaveref03_Under.f; rw [refIn_eq, hx]; rfl
  | true =>
    cases hy : inB y n with
    | false =>
      refine ⟨false, ?_, ?_⟩
      · unfold heap_Under.f; rw [in_eq, hx, Option.bind_some, if_pos rfl, in_eq, hy]; rfl
      · unfold conclaveref03_Under.f; rw [refIn_eq, hx, Option.bind_some, if_pos rfl, refIn_eq, hy]; rfl
    | true =>
      simp only [inB, Bool.and_eq_true, decide_eq_true_eq] at hx hy
      obtain ⟨⟨h1, h2⟩, h3⟩ := hx
      obtain ⟨⟨_, h4⟩, h5⟩ := hy
      have hn : 1 ≤ n ∧ n ≤ 32 := by simp at h1; omega
      obtain ⟨m, rfl⟩ : ∃ m : Nat, n = m := ⟨n.toNat, by omega⟩
      obtain ⟨a, rfl⟩ : ∃ m : Nat, x = m := ⟨x.toNat, by omega⟩
      obtain ⟨b, rfl⟩ : ∃ m : Nat, y = m := ⟨y.toNat, by omega⟩
      have h := under_all m (by simp at h1 ⊢; omega) a (by omega) (by omega) b (by omega) (by omega)
      unfold underOk at h
      split at h
      · rename_i u v hu hv
        simp only [beq_iff_eq] at h
        subst h
        exact ⟨_, hu, hv⟩
      · cases h

theorem path_any (x n : Int) : ∃ p c e, heap_Path.f x n = some (p, e) ∧ heap_Copath.f x n = some (c, e) ∧ conclavelaw03_HeapPaths.j1 99 x n p e c e = some true := by
  cases hx : inB x n with
  | false =>
    refine ⟨[], [], 30, ?_, ?_, ?_⟩
    · unfold heap_Path.f; rw [in_eq, hx]; rfl
    · unfold heap_Copath.f; rw [in_eq, hx]; rfl
    · show conclavelaw03_HeapPaths.j1 (98 + 1) x n [] 30 [] 30 = some true
      simp only [conclavelaw03_HeapPaths.j1]
      rw [refIn_eq, hx]; rfl
  | true =>
    simp only [inB, Bool.and_eq_true, decide_eq_true_eq] at hx
    obtain ⟨⟨h1, h2⟩, h3⟩ := hx
    have hn : 1 ≤ n ∧ n ≤ 32 := by simp at h1; omega
    obtain ⟨m, rfl⟩ : ∃ m : Nat, n = m := ⟨n.toNat, by omega⟩
    obtain ⟨a, rfl⟩ : ∃ m : Nat, x = m := ⟨x.toNat, by omega⟩
    have h := path_all m (by simp at h1 ⊢; omega) a (by omega) (by omega)
    unfold pathOk at h
    split at h
    · rename_i p c hp hc
      exact ⟨p, c, 0, hp, hc, by simpa using h⟩
    · cases h

/-- Right leaves of a right tree. -/
def Leaf2 (x y n : Int) : Prop := n ∈ ([1,2,4,8,16,32] : List Int) ∧ 0 ≤ x ∧ 0 ≤ y ∧ x < n ∧ y < n
theorem common_yes {x y n : Int} (h : Leaf2 x y n) : ∃ m, heap_Common.f 100 x y n = some (m, 0) ∧ conclaveref03_Common.f 99 x y n = some m := by
  obtain ⟨h1, h2, h3, h4, h5⟩ := h
  have hn : 1 ≤ n ∧ n ≤ 32 := by simp at h1; omega
  obtain ⟨m, rfl⟩ : ∃ m : Nat, n = m := ⟨n.toNat, by omega⟩
  obtain ⟨a, rfl⟩ : ∃ m : Nat, x = m := ⟨x.toNat, by omega⟩
  obtain ⟨b, rfl⟩ : ∃ m : Nat, y = m := ⟨y.toNat, by omega⟩
  have h := common_all m (by simp at h1 ⊢; omega) a (by omega) (by omega) b (by omega) (by omega)
  unfold commonOk at h
  split at h
  · rename_i u v hu hv
    simp only [beq_iff_eq] at h
    subst h
    exact ⟨_, hu, hv⟩
  · cases h
theorem common_no {x y n : Int} (h : ¬ Leaf2 x y n) : heap_Common.f 100 x y n = some (0, 30) := by
  have hj : heap_Common.j0 100 x y true = some (0, 30) := rfl
  unfold heap_Common.f
  rw [right_eq, Option.bind_some]
  by_cases h1 : n ∈ ([1,2,4,8,16,32] : List Int)
  · rw [if_pos (decide_eq_true h1)]
    by_cases h2 : x < 0
    · rw [if_pos h2, hj]
    · rw [if_neg h2]
      by_cases h3 : x ≥ n
      · rw [if_pos h3, hj]
      · rw [if_neg h3]
        by_cases h4 : y < 0
        · rw [if_pos h4, hj]
        · rw [if_neg h4, decide_eq_true (show y ≥ n by
            by_cases h5 : y ≥ n
            · exact h5
            · exact absurd ⟨h1, by omega, by omega, by omega, by omega⟩ h), hj]
  · rw [decide_eq_false h1, if_neg (by decide), hj]

theorem HeapPaths : conclavelaw03_HeapPaths.Pure := by
  intro x y n _ _ _
  refine ⟨100, ?_⟩
  obtain ⟨b, u1, u2⟩ := under_any x y n
  obtain ⟨p, c, e, hp, hc, hj⟩ := path_any x n
  unfold conclavelaw03_HeapPaths.f
  rw [anch, Option.bind_some, if_pos rfl, hp, Option.bind_some, hc, Option.bind_some, u1, Option.bind_some, u2, Option.bind_some, bne_self_eq_false, if_neg (by decide)]
  by_cases hl : Leaf2 x y n
  · obtain ⟨m, m1, m2⟩ := common_yes hl
    obtain ⟨h1, h2, h3, h4, h5⟩ := hl
    rw [m1, Option.bind_some, refRight_eq, Option.bind_some, if_pos (decide_eq_true h1), if_pos h2, if_pos h3, if_pos h4, decide_eq_true h5]
    show conclavelaw03_HeapPaths.j0 (99 + 1) x y n p e c e m 0 true = some true
    simp only [conclavelaw03_HeapPaths.j0]
    rw [if_pos trivial, if_pos trivial, m2, Option.bind_some, if_pos rfl, hj]
  · have hf : conclavelaw03_HeapPaths.j0 100 x y n p e c e 0 30 false = some true := by
      show conclavelaw03_HeapPaths.j0 (99 + 1) x y n p e c e 0 30 false = some true
      simp only [conclavelaw03_HeapPaths.j0]
      rw [if_neg (by decide), if_pos trivial, if_pos trivial, hj]
    rw [common_no hl, Option.bind_some, refRight_eq, Option.bind_some]
    by_cases h1 : n ∈ ([1,2,4,8,16,32] : List Int)
    · rw [if_pos (decide_eq_true h1)]
      by_cases h2 : x ≥ 0
      · rw [if_pos h2]
        by_cases h3 : y ≥ 0
        · rw [if_pos h3]
          by_cases h4 : x < n
          · rw [if_pos h4, decide_eq_false (fun h5 => hl ⟨h1, h2, h3, h4, h5⟩), hf]
          · rw [if_neg h4, hf]
        · rw [if_neg h3, hf]
      · rw [if_neg h2, hf]
    · rw [decide_eq_false h1, if_neg (by decide), hf]
end Go.Proofs.YtmioejkhhcjfpaaDoor.Pure
