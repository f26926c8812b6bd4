/- TreeGrows, plainly: for each number of those who come, whoever the leaf is (by the kernel, the leaf symbolic). -/
import Derived.Test.YtbblomnhobodkaaDoorPTvx14
set_option linter.unusedVariables false
namespace Go.Proofs.YtbblomnhobodkaaDoor.Pure
open Go.RowKit Go.Proofs.YtbblomnhobodkaaDoor Go.Proofs.YtbblomnhobodkaaDoor.PTv Go.Proofs.YtbblomnhobodkaaDoorW.PrintWords
section
variable (f0 : Bool) (f1 f2 f3 f4 : Int) (l5 : List Int)
set_option maxRecDepth 100000 in
theorem grows_1 : conclavelaw04_TreeGrows.f 300 f0 f1 f2 f3 f4 l5 1 = some true := by kernel_rfl
set_option maxRecDepth 100000 in
theorem grows_2 : conclavelaw04_TreeGrows.f 300 f0 f1 f2 f3 f4 l5 2 = some true := by kernel_rfl
set_option maxRecDepth 100000 in
theorem grows_3 : conclavelaw04_TreeGrows.f 300 f0 f1 f2 f3 f4 l5 3 = some true := by kernel_rfl
set_option maxRecDepth 100000 in
theorem grows_4 : conclavelaw04_TreeGrows.f 300 f0 f1 f2 f3 f4 l5 4 = some true := by kernel_rfl
set_option maxRecDepth 100000 in
theorem grows_5 : conclavelaw04_TreeGrows.f 300 f0 f1 f2 f3 f4 l5 5 = some true := by kernel_rfl
set_option maxRecDepth 100000 in
theorem grows_6 : conclavelaw04_TreeGrows.f 300 f0 f1 f2 f3 f4 l5 6 = some true := by kernel_rfl
set_option maxRecDepth 100000 in
theorem grows_7 : conclavelaw04_TreeGrows.f 300 f0 f1 f2 f3 f4 l5 7 = some true := by kernel_rfl
set_option maxRecDepth 100000 in
theorem grows_8 : conclavelaw04_TreeGrows.f 300 f0 f1 f2 f3 f4 l5 8 = some true := by kernel_rfl
set_option maxRecDepth 100000 in
theorem grows_9 : conclavelaw04_TreeGrows.f 300 f0 f1 f2 f3 f4 l5 9 = some true := by kernel_rfl
set_option maxRecDepth 100000 in
theorem grows_10 : conclavelaw04_TreeGrows.f 300 f0 f1 f2 f3 f4 l5 10 = some true := by kernel_rfl
set_option maxRecDepth 100000 in
theorem grows_11 : conclavelaw04_TreeGrows.f 300 f0 f1 f2 f3 f4 l5 11 = some true := by kernel_rfl
set_option maxRecDepth 100000 in
theorem grows_12 : conclavelaw04_TreeGrows.f 300 f0 f1 f2 f3 f4 l5 12 = some true := by kernel_rfl
set_option maxRecDepth 100000 in
theorem grows_13 : conclavelaw04_TreeGrows.f 300 f0 f1 f2 f3 f4 l5 13 = some true := by kernel_rfl
set_option maxRecDepth 100000 in
theorem grows_14 : conclavelaw04_TreeGrows.f 300 f0 f1 f2 f3 f4 l5 14 = some true := by kernel_rfl
set_option maxRecDepth 100000 in
theorem grows_15 : conclavelaw04_TreeGrows.f 300 f0 f1 f2 f3 f4 l5 15 = some true := by kernel_rfl
set_option maxRecDepth 100000 in
theorem grows_16 : conclavelaw04_TreeGrows.f 300 f0 f1 f2 f3 f4 l5 16 = some true := by kernel_rfl
set_option maxRecDepth 100000 in
theorem grows_17 : conclavelaw04_TreeGrows.f 300 f0 f1 f2 f3 f4 l5 17 = some true := by kernel_rfl
set_option maxRecDepth 100000 in
theorem grows_18 : conclavelaw04_TreeGrows.f 300 f0 f1 f2 f3 f4 l5 18 = some true := by kernel_rfl
set_option maxRecDepth 100000 in
theorem grows_19 : conclavelaw04_TreeGrows.f 300 f0 f1 f2 f3 f4 l5 19 = some true := by kernel_rfl
set_option maxRecDepth 100000 in
theorem grows_20 : conclavelaw04_TreeGrows.f 300 f0 f1 f2 f3 f4 l5 20 = some true := by kernel_rfl
set_option maxRecDepth 100000 in
theorem grows_21 : conclavelaw04_TreeGrows.f 300 f0 f1 f2 f3 f4 l5 21 = some true := by kernel_rfl
set_option maxRecDepth 100000 in
theorem grows_22 : conclavelaw04_TreeGrows.f 300 f0 f1 f2 f3 f4 l5 22 = some true := by kernel_rfl
set_option maxRecDepth 100000 in
theorem grows_23 : conclavelaw04_TreeGrows.f 300 f0 f1 f2 f3 f4 l5 23 = some true := by kernel_rfl
set_option maxRecDepth 100000 in
theorem grows_24 : conclavelaw04_TreeGrows.f 300 f0 f1 f2 f3 f4 l5 24 = some true := by kernel_rfl
set_option maxRecDepth 100000 in
theorem grows_25 : conclavelaw04_TreeGrows.f 300 f0 f1 f2 f3 f4 l5 25 = some true := by kernel_rfl
set_option maxRecDepth 100000 in
theorem grows_26 : conclavelaw04_TreeGrows.f 300 f0 f1 f2 f3 f4 l5 26 = some true := by kernel_rfl
set_option maxRecDepth 100000 in
theorem grows_27 : conclavelaw04_TreeGrows.f 300 f0 f1 f2 f3 f4 l5 27 = some true := by kernel_rfl
set_option maxRecDepth 100000 in
theorem grows_28 : conclavelaw04_TreeGrows.f 300 f0 f1 f2 f3 f4 l5 28 = some true := by kernel_rfl
set_option maxRecDepth 100000 in
theorem grows_29 : conclavelaw04_TreeGrows.f 300 f0 f1 f2 f3 f4 l5 29 = some true := by kernel_rfl
set_option maxRecDepth 100000 in
theorem grows_30 : conclavelaw04_TreeGrows.f 300 f0 f1 f2 f3 f4 l5 30 = some true := by kernel_rfl
set_option maxRecDepth 100000 in
theorem grows_31 : conclavelaw04_TreeGrows.f 300 f0 f1 f2 f3 f4 l5 31 = some true := by kernel_rfl
set_option maxRecDepth 100000 in
theorem grows_32 : conclavelaw04_TreeGrows.f 300 f0 f1 f2 f3 f4 l5 32 = some true := by kernel_rfl
set_option maxRecDepth 100000 in
theorem grows_33 : conclavelaw04_TreeGrows.f 300 f0 f1 f2 f3 f4 l5 33 = some true := by kernel_rfl
set_option maxRecDepth 100000 in
theorem grows_34 : conclavelaw04_TreeGrows.f 300 f0 f1 f2 f3 f4 l5 34 = some true := by kernel_rfl
set_option maxRecDepth 100000 in
theorem grows_35 : conclavelaw04_TreeGrows.f 300 f0 f1 f2 f3 f4 l5 35 = some true := by kernel_rfl
set_option maxRecDepth 100000 in
theorem grows_36 : conclavelaw04_TreeGrows.f 300 f0 f1 f2 f3 f4 l5 36 = some true := by kernel_rfl
set_option maxRecDepth 100000 in
theorem grows_37 : conclavelaw04_TreeGrows.f 300 f0 f1 f2 f3 f4 l5 37 = some true := by kernel_rfl
set_option maxRecDepth 100000 in
theorem grows_38 : conclavelaw04_TreeGrows.f 300 f0 f1 f2 f3 f4 l5 38 = some true := by kernel_rfl
set_option maxRecDepth 100000 in
theorem grows_39 : conclavelaw04_TreeGrows.f 300 f0 f1 f2 f3 f4 l5 39 = some true := by kernel_rfl
set_option maxRecDepth 100000 in
theorem grows_40 : conclavelaw04_TreeGrows.f 300 f0 f1 f2 f3 f4 l5 40 = some true := by kernel_rfl
theorem grows_at : ∀ n : Nat, 1 ≤ n → n ≤ 40 → conclavelaw04_TreeGrows.f 300 f0 f1 f2 f3 f4 l5 (n : Int) = some true
  | 0, h, _ => absurd h (by omega)
  | 1, _, _ => grows_1 f0 f1 f2 f3 f4 l5
  | 2, _, _ => grows_2 f0 f1 f2 f3 f4 l5
  | 3, _, _ => grows_3 f0 f1 f2 f3 f4 l5
  | 4, _, _ => grows_4 f0 f1 f2 f3 f4 l5
  | 5, _, _ => grows_5 f0 f1 f2 f3 f4 l5
  | 6, _, _ => grows_6 f0 f1 f2 f3 f4 l5
  | 7, _, _ => grows_7 f0 f1 f2 f3 f4 l5
  | 8, _, _ => grows_8 f0 f1 f2 f3 f4 l5
  | 9, _, _ => grows_9 f0 f1 f2 f3 f4 l5
  | 10, _, _ => grows_10 f0 f1 f2 f3 f4 l5
  | 11, _, _ => grows_11 f0 f1 f2 f3 f4 l5
  | 12, _, _ => grows_12 f0 f1 f2 f3 f4 l5
  | 13, _, _ => grows_13 f0 f1 f2 f3 f4 l5
  | 14, _, _ => grows_14 f0 f1 f2 f3 f4 l5
  | 15, _, _ => grows_15 f0 f1 f2 f3 f4 l5
  | 16, _, _ => grows_16 f0 f1 f2 f3 f4 l5
  | 17, _, _ => grows_17 f0 f1 f2 f3 f4 l5
  | 18, _, _ => grows_18 f0 f1 f2 f3 f4 l5
  | 19, _, _ => grows_19 f0 f1 f2 f3 f4 l5
  | 20, _, _ => grows_20 f0 f1 f2 f3 f4 l5
  | 21, _, _ => grows_21 f0 f1 f2 f3 f4 l5
  | 22, _, _ => grows_22 f0 f1 f2 f3 f4 l5
  | 23, _, _ => grows_23 f0 f1 f2 f3 f4 l5
  | 24, _, _ => grows_24 f0 f1 f2 f3 f4 l5
  | 25, _, _ => grows_25 f0 f1 f2 f3 f4 l5
  | 26, _, _ => grows_26 f0 f1 f2 f3 f4 l5
  | 27, _, _ => grows_27 f0 f1 f2 f3 f4 l5
  | 28, _, _ => grows_28 f0 f1 f2 f3 f4 l5
  | 29, _, _ => grows_29 f0 f1 f2 f3 f4 l5
  | 30, _, _ => grows_30 f0 f1 f2 f3 f4 l5
  | 31, _, _ => grows_31 f0 f1 f2 f3 f4 l5
  | 32, _, _ => grows_32 f0 f1 f2 f3 f4 l5
  | 33, _, _ => grows_33 f0 f1 f2 f3 f4 l5
  | 34, _, _ => grows_34 f0 f1 f2 f3 f4 l5
  | 35, _, _ => grows_35 f0 f1 f2 f3 f4 l5
  | 36, _, _ => grows_36 f0 f1 f2 f3 f4 l5
  | 37, _, _ => grows_37 f0 f1 f2 f3 f4 l5
  | 38, _, _ => grows_38 f0 f1 f2 f3 f4 l5
  | 39, _, _ => grows_39 f0 f1 f2 f3 f4 l5
  | 40, _, _ => grows_40 f0 f1 f2 f3 f4 l5
  | n + 41, _, h => absurd h (by omega)
end
theorem TreeGrows : conclavelaw04_TreeGrows.Pure := by
  intro f0 f1 f2 f3 f4 l5 n
  intros
  refine ⟨300, ?_⟩
  by_cases h1 : n < 1
  · unfold conclavelaw04_TreeGrows.f conclavelaw04_anchor.f
    simp only [Option.bind_some, if_true, if_pos h1, conclavelaw04_TreeGrows.j0]
  · by_cases h2 : n > 40
    · unfold conclavelaw04_TreeGrows.f conclavelaw04_anchor.f
      simp only [Option.bind_some, if_true, if_neg h1, decide_eq_true h2, conclavelaw04_TreeGrows.j0]
    · obtain ⟨m, rfl⟩ : ∃ m : Nat, n = (m : Int) := ⟨n.toNat, by omega⟩
      exact grows_at f0 f1 f2 f3 f4 l5 m (by omega) (by omega)
end Go.Proofs.YtbblomnhobodkaaDoor.Pure
