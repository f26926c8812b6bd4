/- The plain statement behind ScheduleChain. -/
import Derived.Test.YteoamlnnaabomaaPureSched
import Derived.Test.YteoamlnnaabomaaPScx6
set_option linter.unusedVariables false
set_option linter.unusedSimpArgs false
namespace Go.Proofs.Yteoamlnnaabomaa.Pure
open Go.RowKit Go.Proofs.Yteoamlnnaabomaa Go.Proofs.Yteoamlnnaabomaa.PSc Go.Proofs.YteoamlnnaabomaaW.PrintWords
theorem chain_j0 (l m : List Int) (k : Nat) (hl : rightL l 9 = true) (hm : rightL m 9 = true) (h1 : l.length ≤ 200) (h2 : m.length ≤ 200) (hk : 300 < k) : conclavelaw07_ScheduleChain.j0 (k + 1) l m false = some true := by
  unfold conclavelaw07_ScheduleChain.j0
  dsimp only
  rw [if_neg (by decide), stores9, Option.bind_some, shared_eq _ l k (by omega) (by omega), Option.bind_some, shared_eq _ m k (by omega) (by omega), Option.bind_some, ints_eq l m k (by omega) (by omega)]
  have g9 := good9
  have n9 := len9
  generalize freshes ⟨[], 0⟩ 9 = s at *
  obtain ⟨g1, c1⟩ := sharedT_ok g9.good (l := l) (by rw [n9]; exact rightL_known hl) (by omega)
  generalize sharedT s l = p at *
  obtain ⟨g2, c2⟩ := sharedT_ok g1.good (l := m) (fun x hx => g1.known (by rw [n9]; exact rightL_known hm x hx)) (by have := g1.len; omega)
  generalize sharedT p.2 m = q at *
  have e := Ch.iff g2.good (c1.grow g2) c2
  have z1 : p.1 ≠ 0 := by have := knownB_iff.1 c1.known; omega
  have z2 : q.1 ≠ 0 := by have := knownB_iff.1 c2.known; omega
  rw [if_neg z1, if_neg z2, Option.bind_some]
  rw [List.reverse_inj] at e
  by_cases hlm : l = m
  · rw [decide_eq_true hlm, e.2 hlm]; simp
  · rw [decide_eq_false hlm, show (p.1 == q.1) = false from by simpa using fun h => hlm (e.1 h)]; rfl
theorem ScheduleChain : conclavelaw07_ScheduleChain.Pure := by
  intro l m hl1 hl2 _ hm1 hm2 _
  have ql : l.length ≤ 100000000000000000 := by omega
  have qm : m.length ≤ 100000000000000000 := by omega
  refine ⟨l.length + m.length + 1000 + 1, ?_⟩
  unfold conclavelaw07_ScheduleChain.f
  rw [show conclavelaw07_anchor.f (l.length + m.length + 1000 + 1) = some true from rfl, Option.bind_some, if_pos rfl, right_eq 9 l _ ql (by omega), Option.bind_some]
  have hj : conclavelaw07_ScheduleChain.j0 (l.length + m.length + 1000 + 1) l m true = some true := rfl
  cases hr : rightL l 9 with
  | false => rw [if_neg (by decide)]; exact hj
  | true =>
    rw [if_pos rfl, right_eq 9 m _ qm (by omega), Option.bind_some]
    cases hr2 : rightL m 9 with
    | false => rw [if_neg (by decide)]; exact hj
    | true =>
      rw [if_pos rfl]
      by_cases h1 : (l.length : Int) > 200
      · rw [if_pos h1]; exact hj
      · rw [if_neg h1]
        by_cases h2 : (m.length : Int) > 200
        · rw [decide_eq_true h2]; exact hj
        · rw [decide_eq_false h2]
          exact chain_j0 l m _ hr hr2 (by omega) (by omega) (by omega)
end Go.Proofs.Yteoamlnnaabomaa.Pure
