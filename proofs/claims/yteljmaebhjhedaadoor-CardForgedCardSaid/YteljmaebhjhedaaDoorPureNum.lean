/- What this claim reaches of a longer text of this session. -/
import Derived.Lib.ItoaNum
import Derived.Lib.ItoaLen
namespace Go.Proofs.YteljmaebhjhedaaDoor
open Go.Lib
theorem digit_eq {a b : Nat} (ha : a < 10) (hb : b < 10) (h : UInt8.ofNat (48 + a) = UInt8.ofNat (48 + b)) : a = b := by
  have := congrArg UInt8.toNat h
  simp at this
  omega
theorem decDigits_ne (u : Nat) : decDigits u ≠ [] := by
  intro h
  have h1 := decDigits_length u
  have h2 := nDigits_pos u
  rw [h] at h1
  simp at h1
  omega
theorem decDigits_inj : ∀ (u v : Nat), decDigits u = decDigits v → u = v := by
  intro u
  induction u using Nat.strongRecOn with
  | _ u ih =>
    intro v h
    rw [decDigits] at h
    rw [decDigits.eq_def v] at h
    by_cases hu : u < 10
    · by_cases hv : v < 10
      · rw [dif_pos hu, dif_pos hv] at h
        exact digit_eq hu hv (List.cons.inj h).1
      · rw [dif_pos hu, dif_neg hv] at h
        have := congrArg List.length h
        have h2 := List.length_pos_iff.2 (decDigits_ne (v / 10))
        simp only [List.length_append, List.length_cons, List.length_nil] at this
        omega
    · by_cases hv : v < 10
      · rw [dif_neg hu, dif_pos hv] at h
        have := congrArg List.length h
        have h2 := List.length_pos_iff.2 (decDigits_ne (u / 10))
        simp only [List.length_append, List.length_cons, List.length_nil] at this
        omega
      · rw [dif_neg hu, dif_neg hv] at h
        obtain ⟨h1, h2⟩ := List.append_inj' h rfl
        have h3 := ih (u / 10) (by omega) _ h1
        have h4 := digit_eq (Nat.mod_lt _ (by decide)) (Nat.mod_lt _ (by decide)) (List.cons.inj h2).1
        omega
theorem decDigits_ge (u : Nat) : ∀ x ∈ decDigits u, 48 ≤ x.toNat := by
  induction u using Nat.strongRecOn with
  | _ u ih =>
    intro x hx
    rw [decDigits] at hx
    by_cases hu : u < 10
    · rw [dif_pos hu] at hx
      simp at hx
      subst hx
      simp
      omega
    · rw [dif_neg hu, List.mem_append] at hx
      rcases hx with hx | hx
      · exact ih _ (by omega) x hx
      · have := Nat.mod_lt u (by decide : 0 < 10)
        simp at hx
        subst hx
        simp
        omega
theorem itoa_inj {a b : Int} (h : itoa a = itoa b) : a = b := by
  have head : ∀ (u v : Nat), 45 :: decDigits u ≠ decDigits v := by
    intro u v e
    have := decDigits_ge v 45 (by rw [← e]; exact List.mem_cons_self)
    revert this; decide
  unfold itoa at h
  by_cases ha : a < 0
  · by_cases hb : b < 0
    · rw [if_pos ha, if_pos hb] at h
      have := decDigits_inj _ _ (List.cons.inj h).2
      omega
    · rw [if_pos ha, if_neg hb] at h
      exact absurd h (head _ _)
  · by_cases hb : b < 0
    · rw [if_neg ha, if_pos hb] at h
      exact absurd h.symm (head _ _)
    · rw [if_neg ha, if_neg hb] at h
      have := decDigits_inj _ _ h
      omega
end Go.Proofs.YteljmaebhjhedaaDoor
