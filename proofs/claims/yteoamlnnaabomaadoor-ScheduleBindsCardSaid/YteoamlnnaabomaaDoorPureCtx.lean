/- What this claim reaches of a longer text of this session. -/
import Derived.Test.YteoamlnnaabomaaDoorPureList
import Derived.Test.YteoamlnnaabomaaDoorPSbx4
set_option linter.unusedVariables false
set_option linter.unusedSimpArgs false
namespace Go.Proofs.YteoamlnnaabomaaDoor.Pure
open Go.RowKit Go.Proofs.YteoamlnnaabomaaDoor Go.Proofs.YteoamlnnaabomaaDoor.PSb Go.Proofs.YteoamlnnaabomaaDoorW.PrintWords
theorem context_ok {s : TS} (hg : Good s) (k : Nat) (hk : 20 < k) {a b c d : Int} (ha : -9223372036854775808 ≤ a) (ha1 : a ≤ 9223372036854775807) (hb : -9223372036854775808 ≤ b) (hb1 : b ≤ 9223372036854775807)
    (hc : knownB s.nodes.length c = true) (hd : knownB s.nodes.length d = true) (hl : s.nodes.length < 200000) :
    ∃ (p q t : Int) (s' : TS), schedule_Context.f k s a b c d = some (t, s') ∧ Grow s s' 7 ∧ Has s' p ⟨2, num a, 0, 0⟩ ∧ Has s' q ⟨2, num b, 0, 0⟩ ∧ IsL s' t [p, q, c, d] := by
  obtain ⟨g1, h1⟩ := number_ok hg a ha ha1 (by omega)
  obtain ⟨g2, h2⟩ := number_ok g1.good b hb hb1 (by have := g1.len; omega)
  have g := g1.trans g2
  have hk4 : ∀ x ∈ [(put s ⟨2, num a, 0, 0⟩).1, (put (put s ⟨2, num a, 0, 0⟩).2 ⟨2, num b, 0, 0⟩).1, c, d], knownB (put (put s ⟨2, num a, 0, 0⟩).2 ⟨2, num b, 0, 0⟩).2.nodes.length x = true := by
    intro x hx
    simp only [List.mem_cons, List.not_mem_nil, or_false] at hx
    rcases hx with rfl | rfl | rfl | rfl
    · exact g2.known h1.1
    · exact h2.1
    · exact g.known hc
    · exact g.known hd
  obtain ⟨g3, h3⟩ := lsM_ok g2.good hk4 (by have := g.len; simp; omega)
  refine ⟨_, _, _, _, ?_, g.trans g3, g3.has (g2.has h1), g3.has h2, h3⟩
  unfold schedule_Context.f
  rw [number_eq s a ha ha1, Option.bind_some, number_eq _ b hb hb1, Option.bind_some, list_eq _ _ k (by simp) hk4 (by simp; omega), Option.bind_some]
end Go.Proofs.YteoamlnnaabomaaDoor.Pure
