/- The plain statement behind DigestNumbers. -/
import Derived.Test.YtdipiigfjcaijaaDoorPureList
import Derived.DataShut
import Derived.Test.YtdipiigfjcaijaaDoorPDnx5
set_option linter.unusedVariables false
set_option linter.unusedSimpArgs false
namespace Go.Proofs.YtdipiigfjcaijaaDoor.Pure
open Go.RowKit Go.Proofs.YtdipiigfjcaijaaDoor Go.Proofs.YtdipiigfjcaijaaDoor.PDn Go.Proofs.YtdipiigfjcaijaaDoorW.PrintWords

theorem DigestNumbers : conclavelaw05_DigestNumbers.Pure := by
  intro a b ha hb
  have ia := (Lit.wf_int_iff .i64 a).1 ha
  have ib := (Lit.wf_int_iff .i64 b).1 hb
  refine ⟨100, ?_⟩
  unfold conclavelaw05_DigestNumbers.f
  rw [show conclavelaw05_anchor.f 100 = some true from rfl, Option.bind_some, if_pos rfl, show conclavelaw05_stores.f 1 = some (freshes ⟨[], 0⟩ 1) from rfl, Option.bind_some]
  have g0 := (freshes_ok 1 (by decide)).1
  have n0 := freshes_len 1 (by decide)
  generalize freshes ⟨[], 0⟩ 1 = s at *
  obtain ⟨g1, h1⟩ := number_ok g0.good a ia.1 ia.2 (by omega)
  rw [number_eq s a ia.1 ia.2, Option.bind_some]
  generalize put s ⟨2, num a, 0, 0⟩ = z1 at *
  obtain ⟨g2, h2⟩ := number_ok g1.good b ib.1 ib.2 (by have := g1.len; omega)
  rw [number_eq _ b ib.1 ib.2, Option.bind_some]
  generalize put z1.2 ⟨2, num b, 0, 0⟩ = z2 at *
  have h1' := g2.has h1
  have e := Has.iff g2.good h1' h2
  simp only [Nd.mk.injEq, true_and, and_true] at e
  unfold term_Store_Get.f
  rw [Option.bind_some]
  dsimp only
  rw [h1'.1, h1'.2, if_pos rfl, if_pos rfl, if_neg h2.pos]
  congr 1
  rw [Bool.eq_iff_iff, beq_iff_eq] 
  simp only [iff_true]
  rw [Bool.eq_iff_iff, beq_iff_eq, beq_iff_eq, e]
  exact ⟨fun h => num_inj ⟨ia.1, ia.2⟩ ⟨ib.1, ib.2⟩ h, fun h => by rw [h]⟩
end Go.Proofs.YtdipiigfjcaijaaDoor.Pure
