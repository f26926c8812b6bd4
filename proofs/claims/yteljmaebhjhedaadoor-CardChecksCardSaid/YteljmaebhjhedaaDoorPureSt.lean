/- What this claim reaches of a longer text of this session. -/
import Derived.Test.YteljmaebhjhedaaDoorPure2
import Derived.Test.YteljmaebhjhedaaDoorPTwx2
set_option linter.unusedVariables false
set_option linter.unusedSimpArgs false
namespace Go.Proofs.YteljmaebhjhedaaDoor.Pure
open Go.RowKit Go.Proofs.YteljmaebhjhedaaDoor Go.Proofs.YteljmaebhjhedaaDoor.PTw
def Has (s : TS) (t : Int) (n : Nd) : Prop := knownB s.nodes.length t = true ∧ getN s.nodes t = n
structure Good (s : TS) : Prop where
  nodup : s.nodes.Nodup
  wf : WF s.nodes
structure Grow (s s' : TS) (k : Nat) : Prop where
  good : Good s'
  pre : s.nodes <+: s'.nodes
  len : s'.nodes.length ≤ s.nodes.length + k
theorem Grow.refl {s : TS} (h : Good s) : Grow s s 0 := ⟨h, List.prefix_refl _, Nat.le_refl _⟩
theorem Grow.trans {a b c : TS} {i j : Nat} (h : Grow a b i) (k : Grow b c j) : Grow a c (i + j) := ⟨k.good, h.pre.trans k.pre, by have := h.len; have := k.len; omega⟩
theorem Grow.known {s s' : TS} {k : Nat} (h : Grow s s' k) {t : Int} (hk : knownB s.nodes.length t = true) : knownB s'.nodes.length t = true := known_mono h.pre.length_le hk
theorem Has.pos {s : TS} {t : Int} {n : Nd} (h : Has s t n) : t ≠ 0 := by have := knownB_iff.1 h.1; omega
theorem Has.node {s : TS} {t : Int} {n m : Nd} (h : Has s t n) (k : Has s t m) : n = m := h.2.symm.trans k.2
theorem Has.num {s : TS} (hg : Good s) {t u : Int} {n : Nd} (h : Has s t n) (k : Has s u n) : t = u := by
  have h1 := knownB_iff.1 h.1
  have h2 := knownB_iff.1 k.1
  have e : getN s.nodes t = getN s.nodes u := h.2.trans k.2.symm
  unfold getN at e
  rw [if_pos h.1, if_pos k.1] at e
  obtain ⟨i, rfl⟩ : ∃ i : Nat, t = (i : Int) + 1 := ⟨(t - 1).toNat, by omega⟩
  obtain ⟨j, rfl⟩ : ∃ j : Nat, u = (j : Int) + 1 := ⟨(u - 1).toNat, by omega⟩
  rw [nodeAt_get _ (by omega), nodeAt_get _ (by omega)] at e
  have hi : i < s.nodes.length := by omega
  have hj : j < s.nodes.length := by omega
  have q1 := idx_of_get hg.nodup hi
  have q2 := idx_of_get hg.nodup hj
  have e' : s.nodes[i] = s.nodes[j] := e
  rw [e', q2] at q1
  cases q1
  rfl
end Go.Proofs.YteljmaebhjhedaaDoor.Pure
