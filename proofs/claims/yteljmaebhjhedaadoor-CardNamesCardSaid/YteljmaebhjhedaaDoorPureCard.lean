/- What this claim reaches of a longer text of this session. -/
import Derived.Test.YteljmaebhjhedaaDoorPureList
import Derived.DataShut
import Derived.Test.YteljmaebhjhedaaDoorPCnx4
import Derived.Test.YteljmaebhjhedaaDoorPCnx5
import Derived.Test.YteljmaebhjhedaaDoorPCnx3
set_option linter.unusedVariables false
set_option linter.unusedSimpArgs false
namespace Go.Proofs.YteljmaebhjhedaaDoor.Pure
open Go.RowKit Go.Proofs.YteljmaebhjhedaaDoor Go.Proofs.YteljmaebhjhedaaDoor.PCn Go.Proofs.YteljmaebhjhedaaDoorW.PrintWords
def I64 (a : Int) : Prop := -9223372036854775808 ≤ a ∧ a ≤ 9223372036854775807
theorem I64.of {a : Int} (h : (Lit.int .i64 a).wf = true) : I64 a := by
  have := (Lit.wf_int_iff .i64 a).1 h
  unfold I64
  exact ⟨this.1, this.2⟩
abbrev cardB : ByteArray := ⟨#[99, 97, 114, 100]⟩
def Bd (s : TS) (c i l g u t : Int) : Prop := ∃ p q, Has s p ⟨2, num c, 0, 0⟩ ∧ Has s q ⟨2, num u, 0, 0⟩ ∧ IsL s t [p, i, l, g, q]
theorem Bd.grow {s s' : TS} {k : Nat} {c i l g u t : Int} (h : Bd s c i l g u t) (G : Grow s s' k) : Bd s' c i l g u t := by
  obtain ⟨p, q, h1, h2, h3⟩ := h
  exact ⟨p, q, G.has h1, G.has h2, h3.grow G⟩
theorem Bd.iff {s : TS} (hg : Good s) {c i l g u t c' i' l' g' u' t' : Int} (hc : I64 c) (hu : I64 u) (hc' : I64 c') (hu' : I64 u') (h : Bd s c i l g u t) (k : Bd s c' i' l' g' u' t') :
    t = t' ↔ c = c' ∧ i = i' ∧ l = l' ∧ g = g' ∧ u = u' := by
  obtain ⟨p, q, h1, h2, h3⟩ := h
  obtain ⟨p', q', k1, k2, k3⟩ := k
  have e := IsL.iff hg h3 k3
  have e1 := Has.iff hg h1 k1
  have e2 := Has.iff hg h2 k2
  simp only [Nd.mk.injEq, true_and, and_true] at e1 e2
  rw [e]
  simp only [List.cons.injEq, and_true]
  rw [e1, e2]
  exact ⟨fun ⟨a, b, c, d, e⟩ => ⟨num_inj hc hc' a, b, c, d, num_inj hu hu' e⟩, fun ⟨a, b, c, d, e⟩ => ⟨by rw [a], b, c, d, by rw [e]⟩⟩
theorem body_ok {s : TS} (hg : Good s) (k : Nat) (hk : 30 < k) {c i l g u : Int} (m : Int) (hc : I64 c) (hu : I64 u) (hi : knownB s.nodes.length i = true) (hl : knownB s.nodes.length l = true) (hgk : knownB s.nodes.length g = true) (hn : s.nodes.length < 200000) :
    ∃ t s', card_Body.f k s c i l g u m = some (t, s') ∧ Grow s s' 8 ∧ Bd s' c i l g u t := by
  obtain ⟨g1, h1⟩ := number_ok hg c hc.1 hc.2 (by omega)
  obtain ⟨g2, h2⟩ := number_ok g1.good u hu.1 hu.2 (by have := g1.len; omega)
  have g12 := g1.trans g2
  unfold card_Body.f
  rw [number_eq s c hc.1 hc.2, Option.bind_some, number_eq _ u hu.1 hu.2, Option.bind_some]
  generalize put s ⟨2, num c, 0, 0⟩ = z1 at *
  generalize put z1.2 ⟨2, num u, 0, 0⟩ = z2 at *
  have hk5 : ∀ x ∈ [z1.1, i, l, g, z2.1], knownB z2.2.nodes.length x = true := by
    intro x hx
    simp only [List.mem_cons, List.not_mem_nil, or_false] at hx
    rcases hx with rfl | rfl | rfl | rfl | rfl
    · exact g2.known h1.1
    · exact g12.known hi
    · exact g12.known hl
    · exact g12.known hgk
    · exact h2.1
  obtain ⟨g3, h3⟩ := lsM_ok g2.good hk5 (by have := g12.len; simp; omega)
  rw [list_eq _ _ k (by simp) hk5 (by simp; omega), Option.bind_some]
  exact ⟨_, _, rfl, g12.trans g3, _, _, g3.has (g2.has h1), g3.has h2, h3⟩
def Mk (s : TS) (c i l g u a m : Int) : Prop := ∃ t h, Bd s c i l g u t ∧ Has s h ⟨4, cardB, t, 0⟩ ∧ Has s m ⟨9, ByteArray.empty, a, h⟩
theorem Mk.grow {s s' : TS} {k : Nat} {c i l g u a m : Int} (h : Mk s c i l g u a m) (G : Grow s s' k) : Mk s' c i l g u a m := by
  obtain ⟨t, q, h1, h2, h3⟩ := h
  exact ⟨t, q, h1.grow G, G.has h2, G.has h3⟩
theorem Mk.known {s : TS} {c i l g u a m : Int} (h : Mk s c i l g u a m) : knownB s.nodes.length m = true := by
  obtain ⟨t, q, h1, h2, h3⟩ := h
  exact h3.1
theorem Mk.iff {s : TS} (hg : Good s) {c i l g u a m c' i' l' g' u' a' m' : Int} (hc : I64 c) (hu : I64 u) (hc' : I64 c') (hu' : I64 u') (h : Mk s c i l g u a m) (k : Mk s c' i' l' g' u' a' m') :
    m = m' ↔ a = a' ∧ c = c' ∧ i = i' ∧ l = l' ∧ g = g' ∧ u = u' := by
  obtain ⟨t, q, h1, h2, h3⟩ := h
  obtain ⟨t', q', k1, k2, k3⟩ := k
  have e1 := Bd.iff hg hc hu hc' hu' h1 k1
  have e2 := Has.iff hg h2 k2
  have e3 := Has.iff hg h3 k3
  simp only [Nd.mk.injEq, true_and, and_true] at e2 e3
  rw [e3, e2, e1]
theorem make_ok {s : TS} (hg : Good s) (k : Nat) (hk : 30 < k) {c sg ini lf u : Int} (hc : I64 c) (hu : I64 u) (hs : knownB s.nodes.length sg = true) (hi : knownB s.nodes.length ini = true) (hl : knownB s.nodes.length lf = true) (hn : s.nodes.length < 100000) :
    ∃ i l g m s', card_Make.f k s c sg ini lf u = some (c, i, l, g, u, m, s') ∧ Grow s s' 13 ∧ Has s' i ⟨6, ByteArray.empty, ini, 0⟩ ∧ Has s' l ⟨6, ByteArray.empty, lf, 0⟩ ∧ Has s' g ⟨6, ByteArray.empty, sg, 0⟩ ∧ Mk s' c i l g u sg m := by
  obtain ⟨g1, h1⟩ := pub_ok hg ini hi (by omega)
  obtain ⟨g2, h2⟩ := pub_ok g1.good lf (g1.known hl) (by have := g1.len; omega)
  have g12 := g1.trans g2
  obtain ⟨g3, h3⟩ := pub_ok g2.good sg (g12.known hs) (by have := g12.len; omega)
  have g13 := g12.trans g3
  unfold card_Make.f term_Store_Pub.f
  rw [Option.bind_some, Option.bind_some, Option.bind_some]
  generalize put s ⟨6, ByteArray.empty, ini, 0⟩ = z1 at *
  generalize put z1.2 ⟨6, ByteArray.empty, lf, 0⟩ = z2 at *
  generalize put z2.2 ⟨6, ByteArray.empty, sg, 0⟩ = z3 at *
  obtain ⟨t, s4, hb, g4, h4⟩ := body_ok g3.good k hk 0 hc hu (g3.known (g2.known h1.1)) (g3.known h2.1) h3.1 (by have := g13.len; omega)
  rw [hb, Option.bind_some]
  have g14 := g13.trans g4
  obtain ⟨p, q, b1, b2, b3⟩ := id h4
  obtain ⟨g5, h5⟩ := hash_ok g4.good cardB t (by decide) b3.known (by have := g14.len; omega)
  have g15 := g14.trans g5
  unfold term_Store_Hash.f
  rw [Option.bind_some]
  generalize put s4 ⟨4, cardB, t, 0⟩ = z5 at *
  obtain ⟨g6, h6⟩ := sign_ok g5.good sg z5.1 (g15.known hs) h5.1 (by have := g15.len; omega)
  unfold term_Store_Sign.f
  rw [Option.bind_some]
  generalize put z5.2 ⟨9, ByteArray.empty, sg, z5.1⟩ = z6 at *
  exact ⟨_, _, _, _, _, rfl, g15.trans g6, g6.has (g5.has (g4.has (g3.has (g2.has h1)))), g6.has (g5.has (g4.has (g3.has h2))), g6.has (g5.has (g4.has h3)), _, _, (h4.grow g5).grow g6, g6.has h5, h6⟩
theorem pubs_ok {s : TS} (hg : Good s) (hl : s.nodes.length < 100) : ∀ n : Nat, n ≤ s.nodes.length → Grow s (pubs s n) n
  | 0, _ => .refl hg
  | n + 1, h => by
    have ih := pubs_ok hg hl n (by omega)
    have := ih.len
    exact ih.trans (pub_ok ih.good ((n : Int) + 1) (ih.known (by rw [knownB_iff]; omega)) (by omega)).1
theorem cstores9 : conclavelaw09_stores.f 9 = some (pubs (freshes ⟨[], 0⟩ 9) 9) := rfl
theorem cgood9 : Grow ⟨[], 0⟩ (pubs (freshes ⟨[], 0⟩ 9) 9) 18 := by
  have h := (freshes_ok 9 (by decide)).1
  have hl := freshes_len 9 (by decide)
  exact h.trans (pubs_ok h.good (by omega) 9 (by omega))
theorem cknown9 (t : Int) (h : 1 ≤ t) (h2 : t ≤ 9) : knownB (pubs (freshes ⟨[], 0⟩ 9) 9).nodes.length t = true := by
  have h0 := (freshes_ok 9 (by decide)).1
  have hl := freshes_len 9 (by decide)
  have := (pubs_ok h0.good (by omega) 9 (by omega)).pre.length_le
  rw [knownB_iff]
  omega
end Go.Proofs.YteljmaebhjhedaaDoor.Pure
