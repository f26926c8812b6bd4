/- What this claim reaches of a longer text of this session. -/
import Derived.Test.YtbblomnhobodkaaDoorPureTree0
set_option linter.unusedVariables false
set_option linter.unusedSimpArgs false
namespace Go.Proofs.YtbblomnhobodkaaDoor.Pure
open Go.RowKit Go.Proofs.YtbblomnhobodkaaDoor Go.Proofs.YtbblomnhobodkaaDoor.PTw Go.Proofs.YtbblomnhobodkaaDoorW.PrintWords
theorem tight_same {l : List S29} {n : Nat} (h : l.length = 2 * n - 1) (hn : 1 ≤ n) (hn2 : n ≤ 1000) : ∀ (d i : Nat), d + i = n → ∃ b, Evr (fun k => tree_tight.l0 k l (n : Int) (i : Int)) b ∧ Evr (fun k => conclaveref04_Tight.l0 k l (n : Int) (i : Int)) b := by
  intro d
  induction d with
  | zero => exact fun i hd => ⟨false, .succ (f := fun _ => some false) (fun k => by rw [tree_tight.l0, if_neg (by omega)]) (.const fun _ => rfl), .succ (f := fun _ => some false) (fun k => by rw [conclaveref04_Tight.l0, if_neg (by omega)]) (.const fun _ => rfl)⟩
  | succ d ih =>
    intro i hd
    obtain ⟨b, t1, t2⟩ := ih (i + 1) (by omega)
    have ef : fullB l n (i : Int) = (rd_T29 l (2 * (i : Int))).f0 := by
      unfold fullB
      rw [decide_eq_true (by omega), decide_eq_true (by omega), Bool.true_and, Bool.true_and]
    have e1 : ∀ k, tree_tight.l0 (k + 1) l (n : Int) (i : Int) = if (rd_T29 l (2 * (i : Int))).f0 = true then some true else tree_tight.l0 k l (n : Int) ((i + 1 : Nat) : Int) := fun k => by
      rw [tree_tight.l0, if_pos (by omega), wrap_id (a := 2 * (i : Int)) (by omega), if_pos (by omega), if_pos (by omega), wrap_id (by omega), show (i : Int) + 1 = ((i + 1 : Nat) : Int) by omega]
    have e2 : ∀ k, conclaveref04_Tight.l0 (k + 1) l (n : Int) (i : Int) = if (rd_T29 l (2 * (i : Int))).f0 = true then some true else conclaveref04_Tight.l0 k l (n : Int) ((i + 1 : Nat) : Int) := fun k => by
      rw [conclaveref04_Tight.l0, if_pos (by omega), (full_same h hn hn2 _).1, Option.bind_some, ef, wrap_id (by omega), show (i : Int) + 1 = ((i + 1 : Nat) : Int) by omega]
    by_cases c : (rd_T29 l (2 * (i : Int))).f0 = true
    · exact ⟨true, .succ e1 (.const fun k => by rw [if_pos c]), .succ e2 (.const fun k => by rw [if_pos c])⟩
    · exact ⟨b, .succ e1 (by simpa only [if_neg c] using t1), .succ e2 (by simpa only [if_neg c] using t2)⟩
end Go.Proofs.YtbblomnhobodkaaDoor.Pure
