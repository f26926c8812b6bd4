/- What this claim reaches of a longer text of this session. -/
import Derived.Test.YteljmaebhjhedaaDoorPureCard
import Derived.Test.YteljmaebhjhedaaDoorPCnx8
import Derived.Test.YteljmaebhjhedaaDoorPCnx7
set_option linter.unusedVariables false
set_option linter.unusedSimpArgs false
namespace Go.Proofs.YteljmaebhjhedaaDoor.Pure
open Go.RowKit Go.Proofs.YteljmaebhjhedaaDoor Go.Proofs.YteljmaebhjhedaaDoor.PCn Go.Proofs.YteljmaebhjhedaaDoorW.PrintWords
def Nm (s : TS) (c i l g u m x : Int) : Prop := ∃ t q, Bd s c i l g u t ∧ IsL s q [t, m] ∧ Has s x ⟨4, ⟨#[114, 101, 102]⟩, q, 0⟩
theorem Nm.grow {s s' : TS} {k : Nat} {c i l g u m x : Int} (h : Nm s c i l g u m x) (G : Grow s s' k) : Nm s' c i l g u m x := by
  obtain ⟨t, q, h1, h2, h3⟩ := h
  exact ⟨t, q, h1.grow G, h2.grow G, G.has h3⟩
theorem Nm.iff {s : TS} (hg : Good s) {c i l g u m x c' i' l' g' u' m' x' : Int} (hc : I64 c) (hu : I64 u) (hc' : I64 c') (hu' : I64 u') (h : Nm s c i l g u m x) (k : Nm s c' i' l' g' u' m' x') :
    x = x' ↔ (c = c' ∧ i = i' ∧ l = l' ∧ g = g' ∧ u = u') ∧ m = m' := by
  obtain ⟨t, q, h1, h2, h3⟩ := h
  obtain ⟨t', q', k1, k2, k3⟩ := k
  have e1 := Bd.iff hg hc hu hc' hu' h1 k1
  have e2 := IsL.iff hg h2 k2
  have e3 := Has.iff hg h3 k3
  simp only [Nd.mk.injEq, true_and, and_true, List.cons.injEq] at e2 e3
  rw [e3, e2, e1]
theorem ref_ok {s : TS} (hg : Good s) (k : Nat) (hk : 30 < k) {c i l g u m : Int} (hc : I64 c) (hu : I64 u) (hi : knownB s.nodes.length i = true) (hl : knownB s.nodes.length l = true) (hgk : knownB s.nodes.length g = true) (hm : knownB s.nodes.length m = true) (hn : s.nodes.length < 100000) :
    ∃ x s', card_Ref.f k s c i l g u m = some (x, s') ∧ Grow s s' 12 ∧ Nm s' c i l g u m x := by
  obtain ⟨t, s1, e1, g1, b1⟩ := body_ok hg k hk m hc hu hi hl hgk (by omega)
  have hk2 : ∀ x ∈ [t, m], knownB s1.nodes.length x = true := by
    intro x hx
    simp only [List.mem_cons, List.not_mem_nil, or_false] at hx
    rcases hx with rfl | rfl
    · obtain ⟨p, q, _, _, h3⟩ := b1
      exact h3.known
    · exact g1.known hm
  obtain ⟨g2, l2⟩ := lsM_ok g1.good hk2 (by have := g1.len; simp; omega)
  obtain ⟨g3, h3⟩ := hash_ok g2.good ⟨#[114, 101, 102]⟩ (lsM s1 [t, m]).1 (by decide) l2.known (by have := g1.len; have := g2.len; simp at *; omega)
  unfold card_Ref.f
  rw [e1, Option.bind_some, list_eq _ _ k (by simp) hk2 (by simp; omega), Option.bind_some]
  unfold term_Store_Hash.f
  rw [Option.bind_some]
  refine ⟨_, _, rfl, ?_, t, _, (b1.grow g2).grow g3, l2.grow g3, h3⟩
  have := (g1.trans g2).trans g3
  exact this
theorem names_t {s : TS} (hg : Good s) (hl : s.nodes.length < 1000) {a0 a1 a2 a3 a4 b0 b1 b2 b3 b4 : Int} (ha0 : I64 a0) (ha1 : I64 a1) (hb0 : I64 b0) (hb1 : I64 b1)
    (ka : ∀ x ∈ [a2, a3, a4], knownB s.nodes.length x = true) (kb : ∀ x ∈ [b2, b3, b4], knownB s.nodes.length x = true) (hst : conclavelaw09_stores.f 9 = some s) (k : Nat) (hk : 100 < k) :
    conclavelaw09_CardNames.t k a0 a1 a2 a3 a4 b0 b1 b2 b3 b4 = some true := by
  simp only [List.mem_cons, List.not_mem_nil, or_false, forall_eq_or_imp, forall_eq] at ka kb
  obtain ⟨i, l, g, m, s1, e1, g1, hi, hll, hgg, hm⟩ := make_ok hg k (by omega) ha0 ha1 ka.1 ka.2.1 ka.2.2 (by omega)
  obtain ⟨i', l', g', m', s2, e2, g2, hi', hl', hgg', hm'⟩ := make_ok g1.good k (by omega) hb0 hb1 (g1.known kb.1) (g1.known kb.2.1) (g1.known kb.2.2) (by have := g1.len; omega)
  obtain ⟨x, s3, e3, g3, n3⟩ := ref_ok g2.good k (by omega) (c := a0) (i := i) (l := l) (g := g) (u := a1) (m := m) ha0 ha1 (g2.known hi.1) (g2.known hll.1) (g2.known hgg.1) (g2.known hm.known) (by have := g1.len; have := g2.len; omega)
  obtain ⟨y, s4, e4, g4, n4⟩ := ref_ok g3.good k (by omega) (c := b0) (i := i') (l := l') (g := g') (u := b1) (m := m') hb0 hb1 (g3.known hi'.1) (g3.known hl'.1) (g3.known hgg'.1) (g3.known hm'.known) (by have := g1.len; have := g2.len; have := g3.len; omega)
  have g24 := g3.trans g4
  have g14 := g2.trans g24
  have eN := Nm.iff g4.good ha0 ha1 hb0 hb1 (n3.grow g4) n4
  have eM := Mk.iff g4.good ha0 ha1 hb0 hb1 (hm.grow g14) (hm'.grow g24)
  have eI := Has.iff g4.good (g14.has hi) (g24.has hi')
  have eL := Has.iff g4.good (g14.has hll) (g24.has hl')
  have eG := Has.iff g4.good (g14.has hgg) (g24.has hgg')
  simp only [Nd.mk.injEq, true_and, and_true] at eI eL eG
  have hx0 : x ≠ 0 := by obtain ⟨_, _, _, _, h⟩ := n3; exact h.pos
  have hy0 : y ≠ 0 := by obtain ⟨_, _, _, _, h⟩ := n4; exact h.pos
  have q1 : (x == y) = (a0 == b0 && (a1 == b1 && (a2 == b2 && (a3 == b3 && (a4 == b4))))) := by
    rw [Bool.eq_iff_iff]
    simp only [beq_iff_eq, Bool.and_eq_true]
    rw [eN, eM, eI, eL, eG]
    constructor
    · rintro ⟨⟨q, w, e, r, t⟩, _⟩; exact ⟨q, t, r, w, e⟩
    · rintro ⟨q, t, r, w, e⟩; exact ⟨⟨q, w, e, r, t⟩, r, q, w, e, r, t⟩
  have q2 : (a0 == b0 && (i == i' && (l == l' && (g == g' && (a1 == b1 && (m == m')))))) = (a0 == b0 && (a1 == b1 && (a2 == b2 && (a3 == b3 && (a4 == b4))))) := by
    rw [Bool.eq_iff_iff]
    simp only [beq_iff_eq, Bool.and_eq_true]
    rw [eM, eI, eL, eG]
    constructor
    · rintro ⟨q, w, e, r, t, _⟩; exact ⟨q, t, r, w, e⟩
    · rintro ⟨q, t, r, w, e⟩; exact ⟨q, w, e, r, t, r, q, w, e, r, t⟩
  unfold conclavelaw09_CardNames.t
  rw [hst, Option.bind_some, e1, Option.bind_some]
  dsimp only
  rw [e2, Option.bind_some]
  dsimp only
  rw [e3, Option.bind_some]
  dsimp only
  rw [e4, Option.bind_some]
  dsimp only
  rw [if_neg hx0, if_neg hy0, q1, if_pos (by simp), q2]
  simp
theorem CardNames : conclavelaw09_CardNames.Pure := by
  intro a0 a1 a2 a3 a4 b0 b1 b2 b3 b4 h0 h1 h2 h3 h4 k0 k1 k2 k3 k4
  refine ⟨200, ?_⟩
  unfold conclavelaw09_CardNames.f conclavelaw09_anchor.f
  rw [Option.bind_some, if_pos rfl]
  by_cases hb : (namesBad a2 b2 || namesBad a3 b3 || namesBad a4 b4) = true
  · rw [if_pos hb]
  rw [if_neg hb]
  simp only [namesBad, Bool.or_eq_true, decide_eq_true_eq, not_or] at hb
  have g9 := cgood9
  have k9 := cknown9
  have hl : (pubs (freshes ⟨[], 0⟩ 9) 9).nodes.length ≤ 18 := by simpa using g9.len
  refine names_t g9.good (by omega) (I64.of h0) (I64.of h1) (I64.of k0) (I64.of k1) ?_ ?_ cstores9 200 (by omega)
  · intro x hx
    simp only [List.mem_cons, List.not_mem_nil, or_false] at hx
    exact k9 x (by omega) (by omega)
  · intro x hx
    simp only [List.mem_cons, List.not_mem_nil, or_false] at hx
    exact k9 x (by omega) (by omega)
end Go.Proofs.YteljmaebhjhedaaDoor.Pure
