/- The plain statement behind CardTimes. -/
import Derived.Test.YteljmaebhjhedaaDoorPureCard
import Derived.Test.YteljmaebhjhedaaDoorPCax10
set_option linter.unusedVariables false
set_option linter.unusedSimpArgs false
namespace Go.Proofs.YteljmaebhjhedaaDoor.Pure
open Go.RowKit Go.Proofs.YteljmaebhjhedaaDoor Go.Proofs.YteljmaebhjhedaaDoor.PCa Go.Proofs.YteljmaebhjhedaaDoorW.PrintWords

theorem rd_set (l : List Int) (c v : Int) (h0 : 0 ≤ c) (h1 : c < l.length) : rd (l.set c.toNat v) c = v := by
  unfold rd
  rw [List.getD_eq_getElem?_getD, List.getElem?_set_self (by omega)]
  rfl
theorem times_end {s : TS} {until_ now c n : Int} {l : List Int} (hg : Good s) (hl : s.nodes.length ≤ 50) (h9 : ∀ t : Int, 1 ≤ t → t ≤ 9 → knownB s.nodes.length t = true) (hk : ∀ x ∈ l, knownB s.nodes.length x = true) (hn : n = l.length) (hc0 : 0 ≤ c) (hc1 : c < n) (hn2 : n ≤ 20)
    (hu : I64 until_) (k : Nat) (hkk : 50 < k) : conclavelaw09_CardTimes.l0 k until_ now c n l n s = some true := by
  obtain ⟨k, rfl⟩ : ∃ q, k = q + 1 := ⟨k - 1, by omega⟩
  rw [conclavelaw09_CardTimes.l0, if_neg (by omega)]
  obtain ⟨g1, h1⟩ := pub_ok hg 1 (h9 1 (by omega) (by omega)) (by omega)
  unfold term_Store_Pub.f
  rw [Option.bind_some]
  generalize put s ⟨6, ByteArray.empty, 1, 0⟩ = z at *
  obtain ⟨p1, s1⟩ := z
  dsimp only at *
  rw [if_pos (by omega), if_pos (by omega), Option.bind_some]
  have hrd := rd_set l c p1 hc0 (by omega)
  have hlen : (l.set c.toNat p1).length = l.length := List.length_set
  have hk1 : ∀ x ∈ l.set c.toNat p1, knownB s1.nodes.length x = true := by
    intro x hx
    rcases List.mem_or_eq_of_mem_set hx with h | rfl
    · exact g1.known (hk x h)
    · exact h1.1
  generalize l.set c.toNat p1 = who at *
  have hcI : I64 c := ⟨by omega, by omega⟩
  have hnI : I64 n := ⟨by omega, by omega⟩
  have k9 : ∀ t : Int, 1 ≤ t → t ≤ 9 → knownB s1.nodes.length t = true := fun t a b => g1.known (h9 t a b)
  -- the right card
  obtain ⟨i, lf, g, m, s2, hm, g2, q1, q2, q3, q4⟩ := make_ok g1.good k (by omega) (c := c) (sg := 1) (ini := 3) (lf := 4) (u := until_) hcI hu (k9 1 (by omega) (by omega)) (k9 3 (by omega) (by omega)) (k9 4 (by omega) (by omega)) (by have := g1.len; omega)
  rw [hm, Option.bind_some]
  dsimp only
  have g12 := g1.trans g2
  obtain ⟨e, s3, he, g3, hE⟩ := check_ok g2.good k (by omega) (c := c) (i := i) (l := lf) (g := g) (u := until_) (m := m) now (who := who) hcI hu (fun x hx => g2.known (hk1 x hx)) (by have := g12.len; omega)
  rw [he, Option.bind_some]
  dsimp only
  have g13 := g12.trans g3
  have hE1 : e = if until_ < now then 91 else 0 := by
    rcases hE with ⟨hno, _⟩ | ⟨_, h⟩
    · exfalso
      refine hno ⟨hc0, by omega, ?_, public_has q1, public_has q2, 1, g3.has q3, q4.grow g3⟩
      rw [hrd]
      exact (g2.has h1).num g2.good q3
    · exact h
  -- another signer's
  have k93 : ∀ t : Int, 1 ≤ t → t ≤ 9 → knownB s3.nodes.length t = true := fun t a b => g13.known (h9 t a b)
  obtain ⟨i', lf', g', m', s4, hm', g4, q1', q2', q3', q4'⟩ := make_ok g3.good k (by omega) (c := c) (sg := 5) (ini := 3) (lf := 4) (u := until_) hcI hu (k93 5 (by omega) (by omega)) (k93 3 (by omega) (by omega)) (k93 4 (by omega) (by omega)) (by have := g13.len; omega)
  rw [hm', Option.bind_some]
  dsimp only
  have g14 := g13.trans g4
  have g24 := (g2.trans g3).trans g4
  obtain ⟨f, s5, hf, g5, hF⟩ := check_ok g4.good k (by omega) (c := c) (i := i') (l := lf') (g := g') (u := until_) (m := m') now (who := who) hcI hu (fun x hx => g24.known (hk1 x hx)) (by have := g14.len; omega)
  rw [hf, Option.bind_some]
  dsimp only
  have g15 := g14.trans g5
  have hF1 : f = 90 := by
    rcases hF with ⟨_, h⟩ | ⟨h, _⟩
    · exact h
    · exfalso
      have e1 := h.who
      rw [hrd] at e1
      have := (g24.has h1).node (e1 ▸ q3')
      simp at this
  -- another client's
  have k95 : ∀ t : Int, 1 ≤ t → t ≤ 9 → knownB s5.nodes.length t = true := fun t a b => g15.known (h9 t a b)
  obtain ⟨i'', lf'', g'', m'', s6, hm'', g6, q1'', q2'', q3'', q4''⟩ := make_ok g5.good k (by omega) (c := n) (sg := 1) (ini := 3) (lf := 4) (u := until_) hnI hu (k95 1 (by omega) (by omega)) (k95 3 (by omega) (by omega)) (k95 4 (by omega) (by omega)) (by have := g15.len; omega)
  rw [hm'', Option.bind_some]
  dsimp only
  have g16 := g15.trans g6
  have g26 := (g24.trans g5).trans g6
  obtain ⟨g_, s7, hg_, g7, hG⟩ := check_ok g6.good k (by omega) (c := n) (i := i'') (l := lf'') (g := g'') (u := until_) (m := m'') now (who := who) hnI hu (fun x hx => g26.known (hk1 x hx)) (by have := g16.len; omega)
  rw [hg_, Option.bind_some]
  dsimp only
  have hG1 : g_ = 90 := by
    rcases hG with ⟨_, h⟩ | ⟨h, _⟩
    · exact h
    · exfalso
      have := h.c1
      omega
  rw [if_pos hF1, if_pos hG1]
  by_cases hlt : until_ < now
  · rw [if_pos hlt] at hE1
    subst hE1
    rw [decide_eq_false (by omega : ¬ now ≤ until_), decide_eq_true (by omega : now > until_)]
    rfl
  · rw [if_neg hlt] at hE1
    subst hE1
    rw [decide_eq_true (by omega : now ≤ until_), decide_eq_false (by omega : ¬ now > until_)]
    rfl
theorem times_l0 {until_ now c n : Int} (hc0 : 0 ≤ c) (hc1 : c < n) (hn2 : n ≤ 20) (hu : I64 until_) : ∀ (d : Nat) (l : List Int) (s : TS), (d : Int) + l.length = n → Good s → s.nodes.length ≤ 18 + l.length → (∀ t : Int, 1 ≤ t → t ≤ 9 → knownB s.nodes.length t = true) → (∀ x ∈ l, knownB s.nodes.length x = true) →
    ∀ k, 50 + d < k → conclavelaw09_CardTimes.l0 k until_ now c n l (l.length : Int) s = some true
  | 0, l, s, hd, hg, hl, h9, hk, k, hkk => by
    have e : n = l.length := by omega
    rw [← e]
    exact times_end hg (by omega) h9 hk e hc0 hc1 hn2 hu k (by omega)
  | d + 1, l, s, hd, hg, hl, h9, hk, k, hkk => by
    obtain ⟨k, rfl⟩ : ∃ q, k = q + 1 := ⟨k - 1, by omega⟩
    rw [conclavelaw09_CardTimes.l0, if_pos (by omega)]
    obtain ⟨g1, h1⟩ := pub_ok hg 2 (h9 2 (by omega) (by omega)) (by omega)
    unfold term_Store_Pub.f
    rw [Option.bind_some, if_pos (by omega), wrap_up _ (by omega)]
    have e : ((l.length + 1 : Nat) : Int) = ((l ++ [(put s ⟨6, ByteArray.empty, 2, 0⟩).1]).length : Int) := by simp
    rw [e]
    refine times_l0 hc0 hc1 hn2 hu d _ _ (by simp; omega) g1.good (by have := g1.len; simp; omega) (fun t a b => g1.known (h9 t a b)) ?_ k (by omega)
    intro x hx
    rw [List.mem_append] at hx
    rcases hx with hx | hx
    · exact g1.known (hk x hx)
    · simp at hx; subst hx; exact h1.1
theorem CardTimes : conclavelaw09_CardTimes.Pure := by
  intro until_ now c n hu hnow hc hn
  have hj : conclavelaw09_CardTimes.j0 200 until_ now c n true = some true := rfl
  refine ⟨200, ?_⟩
  unfold conclavelaw09_CardTimes.f
  rw [show conclavelaw09_anchor.f 200 = some true from rfl, Option.bind_some, if_pos rfl]
  by_cases h1 : n < 1
  · rw [if_pos h1]; exact hj
  rw [if_neg h1]
  by_cases h2 : n > 20
  · rw [if_pos h2]; exact hj
  rw [if_neg h2]
  by_cases h3 : c < 0
  · rw [if_pos h3]; exact hj
  rw [if_neg h3]
  by_cases h4 : c ≥ n
  · rw [decide_eq_true h4]; exact hj
  rw [decide_eq_false h4, conclavelaw09_CardTimes.j0, if_neg (by decide), cstores9, Option.bind_some]
  have g := cgood9
  have hlen : (pubs (freshes ⟨[], 0⟩ 9) 9).nodes.length ≤ 18 := by simpa using g.len
  exact times_l0 (by omega) (by omega) (by omega) (I64.of hu) n.toNat [] _ (by simp; omega) g.good (by simpa using hlen) cknown9 (fun x hx => by cases hx) _ (by omega)
end Go.Proofs.YteljmaebhjhedaaDoor.Pure
