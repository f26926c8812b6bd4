/- What this claim reaches of a longer text of this session. -/
import Derived.Test.YtdipiigfjcaijaaDoorPureTells
import Derived.Test.YtdipiigfjcaijaaDoorPDix9
set_option linter.unusedVariables false
set_option linter.unusedSimpArgs false
namespace Go.Proofs.YtdipiigfjcaijaaDoor.Pure
open Go.RowKit Go.Proofs.YtdipiigfjcaijaaDoor Go.Proofs.YtdipiigfjcaijaaDoor.PDi Go.Proofs.YtdipiigfjcaijaaDoorW.PrintWords
theorem DigestTells : conclavelaw05_DigestTells.Pure := by
  intro t u ht hu
  obtain ⟨bt, ⟨K1, e1⟩, p1⟩ := guard_ev ht
  obtain ⟨bu, ⟨K2, e2⟩, p2⟩ := guard_ev hu
  replace e1 : ∀ k, K1 ≤ k → conclavelaw05_right.f k t 90 = some bt := e1
  replace e2 : ∀ k, K2 ≤ k → conclavelaw05_right.f k u 90 = some bu := e2
  have hj : ∀ k, conclavelaw05_DigestTells.j0 (k + 1) t u true = some true := fun k => by rw [conclavelaw05_DigestTells.j0, if_pos rfl]
  have unf : ∀ k, conclavelaw05_DigestTells.f k t u = (conclavelaw05_right.f k t 90).bind fun t275 => (if t275 = true then ((conclavelaw05_right.f k u 90).bind fun t276 => (conclavelaw05_DigestTells.j0 k t u (!t276))) else (conclavelaw05_DigestTells.j0 k t u true)) := fun k => by
    unfold conclavelaw05_DigestTells.f
    rw [show conclavelaw05_anchor.f k = some true from rfl, Option.bind_some, if_pos rfl]
  cases bt with
  | false => exact ⟨K1 + 1, by rw [unf, e1 _ (by omega), Option.bind_some, if_neg (by decide)]; exact hj K1⟩
  | true =>
    cases bu with
    | false => exact ⟨K1 + K2 + 1, by rw [unf, e1 _ (by omega), Option.bind_some, if_pos rfl, e2 _ (by omega), Option.bind_some]; exact hj (K1 + K2)⟩
    | true =>
      obtain ⟨m, rt⟩ := p1 rfl
      obtain ⟨n, ru⟩ := p2 rfl
      have g0 := dgood90
      have a0 := datoms90
      obtain ⟨h, s1, g1, H1, f1⟩ := tree_ok ht rt g0.good a0 (by have := g0.len; simp at this; omega)
      have n0 := g0.len
      have n1 := g1.len
      simp at n0
      obtain ⟨h', s2, g2, H2, f2⟩ := tree_ok hu ru g1.good (a0.grow g1) (by omega)
      have lt := rt.len
      have lu := ru.len
      have q63 := len_le rt.hm
      obtain ⟨K3, e3⟩ := same_ev (l := t) (u := u) (by omega) (right_late rt)
      replace e3 : ∀ k, K3 ≤ k → conclaveref04_Same.f k t u = some (decide (t = u)) := e3
      refine ⟨K1 + K2 + K3 + 600 + 1, ?_⟩
      rw [unf, e1 _ (by omega), Option.bind_some, if_pos rfl, e2 _ (by omega), Option.bind_some, show (!true) = false from rfl, conclavelaw05_DigestTells.j0, if_neg (by decide), dstores90, Option.bind_some, f1 _ (by omega), Option.bind_some, f2 _ (by omega), Option.bind_some]
      have H1' := H1.grow g2
      rw [if_neg (by have := knownB_iff.1 H1'.known; omega), if_neg (by have := knownB_iff.1 H2.known; omega), e3 _ (by omega), Option.bind_some]
      have key : h = h' ↔ t = u := by
        constructor
        · intro e
          subst e
          have em := HT.lvl g2.good H1' H2
          subst em
          have ep : pl m 0 = 2 ^ m - 1 := by unfold pl; simp
          have h1 : 1 ≤ 2 ^ m := Nat.one_le_two_pow
          exact Sub.eq lt lu ((HT.iff g2.good ((a0.grow g1).grow g2) ht hu rt ru m 0 rt.hm (by omega) (by omega) H1' H2).1 rfl)
        · intro e
          subst e
          have em : m = n := by
            have h1 : 2 ^ m = 2 ^ n := by
              have := Nat.one_le_two_pow (n := m); have := Nat.one_le_two_pow (n := n); omega
            exact (Nat.pow_right_inj (by decide)).1 h1
          subst em
          have ep : pl m 0 = 2 ^ m - 1 := by unfold pl; simp
          have h1 : 1 ≤ 2 ^ m := Nat.one_le_two_pow
          exact (HT.iff g2.good ((a0.grow g1).grow g2) ht hu rt ru m 0 rt.hm (by omega) (by omega) H1' H2).2 (Sub.refl t m 0)
      congr 1
      by_cases e : t = u
      · rw [decide_eq_true e, key.2 e]; simp
      · rw [decide_eq_false e, show (h == h') = false from by simpa using fun q => e (key.1 q)]; rfl
end Go.Proofs.YtdipiigfjcaijaaDoor.Pure
