/- What this claim reaches of a longer text of this session. -/
import Derived.Test.YteljmaebhjhedaaDoorPureCard
import Derived.Test.YteljmaebhjhedaaDoorPCax6
set_option linter.unusedVariables false
set_option linter.unusedSimpArgs false
namespace Go.Proofs.YteljmaebhjhedaaDoor.Pure
open Go.RowKit Go.Proofs.YteljmaebhjhedaaDoor Go.Proofs.YteljmaebhjhedaaDoor.PCa Go.Proofs.YteljmaebhjhedaaDoorW.PrintWords
theorem forged_end (e : Int) (p q : Int) (h : e = if p = q then 0 else 90) : (if ((e == 0) == (p == q)) = true then (if e = 0 then (some true) else (some (e == 90))) else (some false)) = some true := by
  by_cases hpq : p = q
  · rw [if_pos hpq] at h
    subst h hpq
    simp
  · rw [if_neg hpq] at h
    subst h
    have : (p == q) = false := by simpa using hpq
    rw [this]
    rfl
theorem forged_j0 (x v now : Int) (hx0 : 0 ≤ x) (hx5 : x ≤ 5) (hv : I64 v) (hnow : now ≤ 7) (k : Nat) (hk : 100 < k) : conclavelaw09_CardForged.j0 k x v now false = some true := by
  obtain ⟨k, rfl⟩ : ∃ q, k = q + 1 := ⟨k - 1, by omega⟩
  rw [conclavelaw09_CardForged.j0, if_neg (by decide), cstores9, Option.bind_some]
  have g0 := cgood9
  have k0 := cknown9
  have l0 : (pubs (freshes ⟨[], 0⟩ 9) 9).nodes.length ≤ 18 := by simpa using g0.len
  generalize pubs (freshes ⟨[], 0⟩ 9) 9 = s0 at *
  obtain ⟨g1, h1⟩ := pub_ok g0.good 4 (k0 4 (by omega) (by omega)) (by omega)
  obtain ⟨g2, h2⟩ := pub_ok g1.good 1 (g1.known (k0 1 (by omega) (by omega))) (by have := g1.len; omega)
  have g12 := g1.trans g2
  obtain ⟨g3, h3⟩ := pub_ok g2.good 5 (g12.known (k0 5 (by omega) (by omega))) (by have := g12.len; omega)
  have g13 := g12.trans g3
  unfold term_Store_Pub.f
  rw [Option.bind_some, Option.bind_some, Option.bind_some, Option.bind_some]
  generalize put s0 ⟨6, ByteArray.empty, 4, 0⟩ = z1 at *
  generalize put z1.2 ⟨6, ByteArray.empty, 1, 0⟩ = z2 at *
  generalize put z2.2 ⟨6, ByteArray.empty, 5, 0⟩ = z3 at *
  obtain ⟨p4, s1⟩ := z1
  obtain ⟨p1, s2⟩ := z2
  obtain ⟨p5, s3⟩ := z3
  dsimp only at *
  have k3 : ∀ t : Int, 1 ≤ t → t ≤ 9 → knownB s3.nodes.length t = true := fun t a b => g13.known (k0 t a b)
  have H4 := g3.has (g2.has h1)
  have H1 := g3.has h2
  have i1 : I64 1 := ⟨by omega, by omega⟩
  have i7 : I64 7 := ⟨by omega, by omega⟩
  obtain ⟨i, l, g, m, s4, hm, g4, q1, q2, q3, q4⟩ := make_ok g3.good k (by omega) (c := 1) (sg := 1) (ini := 2) (lf := 3) (u := 7) i1 i7 (k3 1 (by omega) (by omega)) (k3 2 (by omega) (by omega)) (k3 3 (by omega) (by omega)) (by have := g13.len; omega)
  rw [hm, Option.bind_some]
  dsimp only
  have g14 := g13.trans g4
  have l4 := g14.len
  have H4 := g4.has H4
  have H1 := g4.has H1
  have H5 := g4.has h3
  have eg : p1 = g := H1.num g4.good q3
  subst eg
  have hw : ∀ x ∈ [p4, p1, p5], knownB s4.nodes.length x = true := by
    intro x hx
    simp only [List.mem_cons, List.not_mem_nil, or_false] at hx
    rcases hx with rfl | rfl | rfl
    · exact H4.1
    · exact H1.1
    · exact H5.1
  have r1 : rd [p4, p1, p5] 1 = p1 := rfl
  have pi := public_has q1
  have pl := public_has q2
  -- what the right one is
  have yes : ∀ {s' : TS} {n : Nat}, Grow s4 s' n → CkOk s4 s' 1 i l p1 7 m [p4, p1, p5] := fun G => ⟨by omega, by simp, r1, pi, pl, 1, G.has q3, q4.grow G⟩
  have run : ∀ {c' i' l' g' u' m' p q : Int}, I64 c' → I64 u' → (p = q → c' = 1 ∧ i' = i ∧ l' = l ∧ g' = p1 ∧ u' = 7 ∧ m' = m) → (∀ {s' : TS} {n : Nat}, Grow s4 s' n → CkOk s4 s' c' i' l' g' u' m' [p4, p1, p5] → p = q) →
      ∃ e s', card_Check.f k s4 c' i' l' g' u' m' now [p4, p1, p5] = some (e, s') ∧ e = if p = q then 0 else 90 := by
    intro c' i' l' g' u' m' p q hc hu hpq hno
    obtain ⟨e, s', he, G, hE⟩ := check_ok g4.good k (by omega) (c := c') (i := i') (l := l') (g := g') (u := u') (m := m') now (who := [p4, p1, p5]) hc hu hw (by omega)
    refine ⟨e, s', he, ?_⟩
    by_cases h : p = q
    · rw [if_pos h]
      obtain ⟨rfl, rfl, rfl, rfl, rfl, rfl⟩ := hpq h
      rcases hE with ⟨no, _⟩ | ⟨_, h⟩
      · exact absurd (yes G) no
      · rw [h, if_neg (by omega)]
    · rw [if_neg h]
      rcases hE with ⟨_, h⟩ | ⟨ok, _⟩
      · exact h
      · exact absurd (hno G ok) h
  by_cases hx : x = 0
  · rw [if_pos hx]
    obtain ⟨e, s', he, hE⟩ := run (c' := v) (i' := i) (l' := l) (g' := p1) (u' := 7) (m' := m) (p := 1) (q := v) hv i7 (fun h => ⟨h.symm, rfl, rfl, rfl, rfl, rfl⟩) (fun G ok => by
      have c0 := ok.c0
      have c1 := ok.c1
      have w := ok.who
      simp only [List.length_cons, List.length_nil] at c1
      have : v = 0 ∨ v = 1 ∨ v = 2 := by omega
      rcases this with rfl | rfl | rfl
      · exfalso
        have w : p4 = p1 := w
        rw [w] at H4
        have := H4.node H1
        simp at this
      · rfl
      · exfalso
        have w : p5 = p1 := w
        rw [w] at H5
        have := H5.node H1
        simp at this)
    rw [he, Option.bind_some]
    exact forged_end e _ _ hE
  rw [if_neg hx]
  by_cases hx : x = 1
  · rw [if_pos hx]
    obtain ⟨e, s', he, hE⟩ := run (c' := 1) (i' := v) (l' := l) (g' := p1) (u' := 7) (m' := m) (p := i) (q := v) i1 i7 (fun h => ⟨rfl, h.symm, rfl, rfl, rfl, rfl⟩) (fun G ok => by
      obtain ⟨a, _, hM⟩ := ok.mark
      exact ((Mk.iff G.good i1 i7 i1 i7 (q4.grow G) hM).1 rfl).2.2.1)
    rw [he, Option.bind_some]
    exact forged_end e _ _ hE
  rw [if_neg hx]
  by_cases hx : x = 2
  · rw [if_pos hx]
    obtain ⟨e, s', he, hE⟩ := run (c' := 1) (i' := i) (l' := v) (g' := p1) (u' := 7) (m' := m) (p := l) (q := v) i1 i7 (fun h => ⟨rfl, rfl, h.symm, rfl, rfl, rfl⟩) (fun G ok => by
      obtain ⟨a, _, hM⟩ := ok.mark
      exact ((Mk.iff G.good i1 i7 i1 i7 (q4.grow G) hM).1 rfl).2.2.2.1)
    rw [he, Option.bind_some]
    exact forged_end e _ _ hE
  rw [if_neg hx]
  by_cases hx : x = 3
  · rw [if_pos hx]
    obtain ⟨e, s', he, hE⟩ := run (c' := 1) (i' := i) (l' := l) (g' := v) (u' := 7) (m' := m) (p := p1) (q := v) i1 i7 (fun h => ⟨rfl, rfl, rfl, h.symm, rfl, rfl⟩) (fun G ok => ok.who)
    rw [he, Option.bind_some]
    exact forged_end e _ _ hE
  rw [if_neg hx]
  by_cases hx : x = 4
  · rw [if_pos hx]
    obtain ⟨e, s', he, hE⟩ := run (c' := 1) (i' := i) (l' := l) (g' := p1) (u' := v) (m' := m) (p := 7) (q := v) i1 hv (fun h => ⟨rfl, rfl, rfl, rfl, h.symm, rfl⟩) (fun G ok => by
      obtain ⟨a, _, hM⟩ := ok.mark
      exact ((Mk.iff G.good i1 i7 i1 hv (q4.grow G) hM).1 rfl).2.2.2.2.2)
    rw [he, Option.bind_some]
    exact forged_end e _ _ hE
  rw [if_neg hx, if_pos (by omega)]
  obtain ⟨e, s', he, hE⟩ := run (c' := 1) (i' := i) (l' := l) (g' := p1) (u' := 7) (m' := v) (p := m) (q := v) i1 i7 (fun h => ⟨rfl, rfl, rfl, rfl, rfl, h.symm⟩) (fun G ok => by
    obtain ⟨a, hga, hM⟩ := ok.mark
    have ea := (G.has q3).node hga
    simp at ea
    exact (Mk.iff G.good i1 i7 i1 i7 (q4.grow G) hM).2 ⟨ea, rfl, rfl, rfl, rfl, rfl⟩)
  rw [he, Option.bind_some]
  exact forged_end e _ _ hE
theorem CardForged : ∀ (a0 : Int) (a1 : Int) (a2 : Int), (Lit.int .i64 a0).wf = true → (Lit.int .i64 a1).wf = true → (Lit.int .i64 a2).wf = true → ∃ k, conclavelaw09_CardForged.f k a0 a1 a2 = some true := by
  intro x v now hx hv hnow
  refine ⟨200, ?_⟩
  have hj : conclavelaw09_CardForged.j0 200 x v now true = some true := rfl
  unfold conclavelaw09_CardForged.f
  rw [show conclavelaw09_anchor.f 200 = some true from rfl, Option.bind_some, if_pos rfl]
  by_cases h1 : x < 0
  · rw [if_pos h1]; exact hj
  rw [if_neg h1]
  by_cases h2 : x > 5
  · rw [if_pos h2]; exact hj
  rw [if_neg h2]
  by_cases h3 : now > 7
  · rw [decide_eq_true h3]; exact hj
  rw [decide_eq_false h3]
  exact forged_j0 x v now (by omega) (by omega) (I64.of hv) (by omega) 200 (by decide)
end Go.Proofs.YteljmaebhjhedaaDoor.Pure
