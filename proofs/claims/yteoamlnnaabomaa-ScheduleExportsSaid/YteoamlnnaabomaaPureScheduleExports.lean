/- The plain statement behind ScheduleExports. -/
import Derived.Test.YteoamlnnaabomaaPureSched2
import Derived.Test.YteoamlnnaabomaaPScx7
set_option linter.unusedVariables false
set_option linter.unusedSimpArgs false
namespace Go.Proofs.Yteoamlnnaabomaa.Pure
open Go.RowKit Go.Proofs.Yteoamlnnaabomaa Go.Proofs.Yteoamlnnaabomaa.PSc Go.Proofs.YteoamlnnaabomaaW.PrintWords

abbrev exported : ByteArray := ⟨#[101, 120, 112, 111, 114, 116, 101, 100]⟩
abbrev export_ : ByteArray := ⟨#[101, 120, 112, 111, 114, 116]⟩
/-- What an export is made of. -/
structure Ex (s : TS) (ex : Int) (a b : ByteArray) (r k t u : Int) : Prop where
  ht : Has s t ⟨2, a, 0, 0⟩
  hk : Has s k ⟨5, exported, ex, t⟩
  hu : Has s u ⟨2, b, 0, 0⟩
  hr : Has s r ⟨5, export_, k, u⟩
theorem Ex.grow {s s' : TS} {n : Nat} {ex r k t u : Int} {a b : ByteArray} (h : Ex s ex a b r k t u) (g : Grow s s' n) : Ex s' ex a b r k t u := ⟨g.has h.ht, g.has h.hk, g.has h.hu, g.has h.hr⟩
theorem Ex.iff {s : TS} (hg : Good s) {ex r k t u r' k' t' u' : Int} {a b c d : ByteArray} (h : Ex s ex a b r k t u) (q : Ex s ex c d r' k' t' u') : r = r' ↔ a = c ∧ b = d := by
  have e1 := Has.iff hg h.hr q.hr
  have e2 := Has.iff hg h.hk q.hk
  have e3 := Has.iff hg h.ht q.ht
  have e4 := Has.iff hg h.hu q.hu
  simp only [Nd.mk.injEq, true_and, and_true] at e1 e2 e3 e4
  rw [e1, e2, e3, e4]
theorem export_ok {s : TS} {a1 a2 a3 a4 a5 a6 a7 ex a9 a10 a11 a12 a13 : Int} (hg : Good s) (hx : knownB s.nodes.length ex = true) (a b : ByteArray) (ha : a.size ≤ 1024) (hb : b.size ≤ 1024) (hl : s.nodes.length < 200000) :
    ∃ (r k t u : Int) (s' : TS), schedule_Export.f s a1 a2 a3 a4 a5 a6 a7 ex a9 a10 a11 a12 a13 a b = some (r, s') ∧ Grow s s' 4 ∧ Ex s' ex a b r k t u := by
  obtain ⟨g1, h1⟩ := text_ok hg a ha (by omega)
  obtain ⟨g2, h2⟩ := kdf_ok g1.good exported ex _ (by decide) (g1.known hx) h1.1 (by have := g1.len; omega)
  have k2 := g1.trans g2
  obtain ⟨g3, h3⟩ := text_ok g2.good b hb (by have := k2.len; omega)
  have k3 := k2.trans g3
  obtain ⟨g4, h4⟩ := kdf_ok g3.good export_ _ _ (by decide) (g3.known h2.1) h3.1 (by have := k3.len; omega)
  exact ⟨_, _, _, _, _, rfl, k3.trans g4, ⟨g4.has (g3.has (g2.has h1)), g4.has (g3.has h2), g4.has h3, h4⟩⟩
theorem exports_l0 (x y : Int) (l : List Int) (hl : l.length ≤ 100000000000000000) (hn : ∀ z ∈ l, z ≠ x ∧ z ≠ y) : ∀ (m k i : Nat), m + i = l.length → m < k → conclavelaw07_ScheduleExports.l0 k x y l (l.length : Int) (i : Int) = some true
  | 0, k + 1, i, h, _ => by
    unfold conclavelaw07_ScheduleExports.l0
    rw [if_neg (by omega)]
  | m + 1, k + 1, i, h, hk => by
    have hi : i < l.length := by omega
    have := hn _ (List.getElem_mem hi)
    unfold conclavelaw07_ScheduleExports.l0
    rw [if_pos (by omega), if_pos (by omega), if_pos (by omega), rd_nat l hi, if_neg this.1, if_neg this.2, wrap_next i (by omega)]
    exact exports_l0 x y l hl hn m k (i + 1) (by omega) (by omega)
theorem exports_j1 (x y j m w z : Int) (v : Nat → Int) (hn : ∀ q ∈ allL j m w z v, q ≠ x ∧ q ≠ y) (k : Nat) (hk : 20 < k) : conclavelaw07_ScheduleExports.j1 (k + 1) x y false j m w z (v 0) (v 1) (v 2) (v 3) (v 4) (v 5) (v 6) (v 7) (v 8) = some true := by
  unfold conclavelaw07_ScheduleExports.j1
  dsimp only
  rw [if_neg (by decide)]
  exact exports_l0 x y (allL j m w z v) (by show (13 : Nat) ≤ _; decide) hn 13 k 0 rfl (by omega)
theorem toList_iff (a b : ByteArray) : a.toList = b.toList ↔ a = b := by
  have := bytes_beq a b
  rw [Bool.eq_iff_iff] at this
  simpa using this
theorem stores4 : conclavelaw07_stores.f 4 = some (freshes ⟨[], 0⟩ 4) := rfl
theorem exports_no : ∀ i : Fin 13, labs[i]'i.2 ≠ export_ := by decide +kernel
theorem exports_j0 (a b c d : ByteArray) (k : Nat) (hk : 100 < k) (ha : a.size ≤ 1024) (hb : b.size ≤ 1024) (hc : c.size ≤ 1024) (hd : d.size ≤ 1024) : conclavelaw07_ScheduleExports.j0 (k + 1) a b c d false = some true := by
  unfold conclavelaw07_ScheduleExports.j0
  dsimp only
  rw [if_neg (by decide), stores4, Option.bind_some]
  have g0 := (freshes_ok 4 (by decide)).1
  have n0 := freshes_len 4 (by decide)
  generalize freshes ⟨[], 0⟩ 4 = s at *
  obtain ⟨g1, h1⟩ := text_ok g0.good ⟨#[]⟩ (by decide) (by omega)
  rw [show term_Store_Text.f s ⟨#[]⟩ = some (put s ⟨2, ⟨#[]⟩, 0, 0⟩) from rfl, Option.bind_some]
  generalize put s ⟨2, ⟨#[]⟩, 0, 0⟩ = p at *
  have kn : ∀ t : Int, 1 ≤ t → t ≤ 4 → knownB p.2.nodes.length t = true := fun t q1 q2 => g1.known (by rw [knownB_iff, n0]; omega)
  obtain ⟨j, m, w, z, v, e, s1, hf, g2, hj, hep⟩ := next_ok (a := 1) (b := 2) (sh := p.1) (c := 3) g1.good (kn 1 (by decide) (by decide)) (kn 2 (by decide) (by decide)) h1.1 (kn 3 (by decide) (by decide)) (by have := g1.len; omega)
  rw [hf, Option.bind_some]
  dsimp only
  have l1 : s1.nodes.length ≤ 100 := by have := g1.len; have := g2.len; omega
  obtain ⟨x, xk, xt, xu, s2, hx, g3, ex⟩ := export_ok (s := s1) (ex := v 3) (a1 := j) (a2 := m) (a3 := w) (a4 := z) (a5 := v 0) (a6 := v 1) (a7 := v 2) (a9 := v 4) (a10 := v 5) (a11 := v 6) (a12 := v 7) (a13 := v 8) g2.good (hep.each 3 (by decide)).1 a b ha hb (by omega)
  rw [hx, Option.bind_some]
  dsimp only
  obtain ⟨y, yk, yt, yu, s3, hy, g4, ey⟩ := export_ok (s := s2) (ex := v 3) (a1 := j) (a2 := m) (a3 := w) (a4 := z) (a5 := v 0) (a6 := v 1) (a7 := v 2) (a9 := v 4) (a10 := v 5) (a11 := v 6) (a12 := v 7) (a13 := v 8) g3.good (g3.known (hep.each 3 (by decide)).1) c d hc hd (by have := g3.len; omega)
  rw [hy, Option.bind_some]
  dsimp only
  have ex' := ex.grow g4
  have hiff := ex'.iff g4.good ey
  have hep' := hep.grow (g3.trans g4)
  have hj' := (g3.trans g4).has hj
  have hn : ∀ q ∈ allL j m w z v, q ≠ x ∧ q ≠ y := by
    intro q hq
    obtain ⟨i, hi, rfl⟩ := List.getElem_of_mem hq
    have hh := all_has hj' hep' i hi
    refine ⟨fun he => ?_, fun he => ?_⟩
    · rw [he] at hh
      exact exports_no ⟨i, hi⟩ (congrArg Nd.label (hh.node ex'.hr))
    · rw [he] at hh
      exact exports_no ⟨i, hi⟩ (congrArg Nd.label (hh.node ey.hr))
  obtain ⟨k, rfl⟩ : ∃ k', k = k' + 1 := ⟨k - 1, by omega⟩
  have hj1 := exports_j1 x y j m w z v hn k (by omega)
  rw [if_neg ex'.hr.pos, if_neg ey.hr.pos]
  by_cases hac : a = c
  · rw [if_pos ((toList_iff a c).2 hac)]
    have hb2 : ((x == y) != (b.toList == d.toList)) = false := by
      by_cases hbd : b = d
      · rw [beq_iff_eq.2 (hiff.2 ⟨hac, hbd⟩), hbd]; simp
      · rw [beq_eq_false_iff_ne.2 (fun h => hbd (hiff.1 h).2), beq_eq_false_iff_ne.2 (fun h => hbd ((toList_iff b d).1 h))]; rfl
    rw [hb2]
    exact hj1
  · rw [if_neg (fun h => hac ((toList_iff a c).1 h)), beq_eq_false_iff_ne.2 (fun h => hac (hiff.1 h).1)]
    exact hj1
theorem ScheduleExports : conclavelaw07_ScheduleExports.Pure := by
  intro a b c d _ _ _ _
  refine ⟨1001, ?_⟩
  unfold conclavelaw07_ScheduleExports.f
  rw [show conclavelaw07_anchor.f 1001 = some true from rfl, Option.bind_some, if_pos rfl]
  have hj : conclavelaw07_ScheduleExports.j0 1001 a b c d true = some true := rfl
  by_cases h1 : (a.size : Int) > 1024
  · rw [if_pos h1]; exact hj
  rw [if_neg h1]
  by_cases h2 : (b.size : Int) > 1024
  · rw [if_pos h2]; exact hj
  rw [if_neg h2]
  by_cases h3 : (c.size : Int) > 1024
  · rw [if_pos h3]; exact hj
  rw [if_neg h3]
  by_cases h4 : (d.size : Int) > 1024
  · rw [decide_eq_true h4]; exact hj
  rw [decide_eq_false h4]
  exact exports_j0 a b c d 1000 (by decide) (by omega) (by omega) (by omega) (by omega)
end Go.Proofs.Yteoamlnnaabomaa.Pure
