/- The plain statement behind ScheduleApart. -/
import Derived.Test.YteoamlnnaabomaaPureSched2
import Derived.Test.YteoamlnnaabomaaPScx5
set_option linter.unusedVariables false
set_option linter.unusedSimpArgs false
namespace Go.Proofs.Yteoamlnnaabomaa.Pure
open Go.RowKit Go.Proofs.Yteoamlnnaabomaa Go.Proofs.Yteoamlnnaabomaa.PSc Go.Proofs.YteoamlnnaabomaaW.PrintWords

theorem apart_l2 (A : List Int) (hn : ∀ i j (hi : i < A.length) (hj : j < A.length), A[i] = A[j] → i = j) (hl : A.length ≤ 1000) : ∀ (m k i j : Nat), m + j = i → i < A.length → conclavelaw07_ScheduleApart.l2 (k + m + 1) A (i : Int) (A.length : Int) (i : Int) (i : Int) (j : Int) = conclavelaw07_ScheduleApart.l1 k A (A.length : Int) ((i + 1 : Nat) : Int)
  | 0, k, i, j, h, hi => by
    rw [conclavelaw07_ScheduleApart.l2, if_neg (by omega), wrap_next i (by omega)]
  | m + 1, k, i, j, h, hi => by
    have hj : j < A.length := by omega
    rw [conclavelaw07_ScheduleApart.l2, if_pos (by omega), if_pos (by omega), if_pos (by omega), if_pos (by omega), if_pos (by omega), rd_nat A hi, rd_nat A hj,
      if_neg (fun e => by have := hn i j hi hj e; omega), wrap_next j (by omega)]
    exact apart_l2 A hn hl m k i (j + 1) (by omega) hi
theorem apart_l1 (A : List Int) (hn : ∀ i j (hi : i < A.length) (hj : j < A.length), A[i] = A[j] → i = j) (hl : A.length ≤ 13) : ∀ (m k i : Nat), m + i = A.length → 20 * m < k → conclavelaw07_ScheduleApart.l1 k A (A.length : Int) (i : Int) = some true
  | 0, k + 1, i, h, _ => by rw [conclavelaw07_ScheduleApart.l1, if_neg (by omega)]
  | m + 1, k + 1, i, h, hk => by
    rw [conclavelaw07_ScheduleApart.l1, if_pos (by omega)]
    obtain ⟨q, rfl⟩ : ∃ q, k = q + i + 1 := ⟨k - i - 1, by omega⟩
    rw [show ((0 : Int)) = ((0 : Nat) : Int) from rfl, apart_l2 A hn (by omega) i q i 0 (by omega) (by omega)]
    exact apart_l1 A hn hl m q (i + 1) (by omega) (by omega)
def wantB (x y z : Bool) (i : Nat) : Bool := if i = 0 then x else if i = 1 ∨ i = 2 then y else z
theorem apart_l0 (A B : List Int) (x y z : Bool) (hA : A.length = 13) (hB : B.length = 13) (hn : ∀ i j (hi : i < A.length) (hj : j < A.length), A[i] = A[j] → i = j)
    (h0 : ∀ i (hi : i < A.length), A[i] ≠ 0) (hw : ∀ i (hi : i < A.length) (hj : i < B.length), (A[i] == B[i]) = wantB x y z i) : ∀ (m k i : Nat), m + i = 13 → 3 * m + 500 < k → conclavelaw07_ScheduleApart.l0 k A B x y z (A.length : Int) (i : Int) = some true
  | 0, k + 1, i, h, hk => by
    rw [conclavelaw07_ScheduleApart.l0, if_neg (by omega)]
    exact apart_l1 A hn (by omega) 13 k 0 (by omega) (by omega)
  | m + 1, k + 1, i, h, hk => by
    have hi : i < A.length := by omega
    have hj : i < B.length := by omega
    obtain ⟨q, rfl⟩ : ∃ q, k = q + 1 + 1 := ⟨k - 2, by omega⟩
    have ih := apart_l0 A B x y z hA hB hn h0 hw m q (i + 1) (by omega) (by omega)
    have key : ∀ w f, (f = true → y = wantB x y z i) → (f = false → w = wantB x y z i) → conclavelaw07_ScheduleApart.j6 (q + 1) A B x y z (i : Int) w (A.length : Int) (i : Int) f = some true := by
      intro w f e1 e2
      rw [conclavelaw07_ScheduleApart.j6, wrap_next i (by omega)]
      cases f with
      | true => rw [if_pos rfl, if_pos (by omega), if_pos (by omega), rd_nat A hi, if_neg (h0 i hi), if_pos (by omega), rd_nat B hj, hw i hi hj, ← e1 rfl, if_neg (by simp)]; exact ih
      | false => rw [if_neg (by decide), if_pos (by omega), if_pos (by omega), rd_nat A hi, if_neg (h0 i hi), if_pos (by omega), rd_nat B hj, hw i hi hj, ← e2 rfl, if_neg (by simp)]; exact ih
    rw [conclavelaw07_ScheduleApart.l0, if_pos (by omega)]
    by_cases hz : i = 0
    · subst hz
      rw [if_pos (show ((0 : Nat) : Int) = 0 from rfl), conclavelaw07_ScheduleApart.j5, if_neg (by decide)]
      exact key x _ (fun h => by simp at h) (fun _ => rfl)
    · rw [if_neg (by omega), conclavelaw07_ScheduleApart.j5]
      by_cases h1 : i = 1
      · subst h1
        rw [if_pos (show ((1 : Nat) : Int) = 1 from rfl)]
        exact key z _ (fun _ => rfl) (fun h => by cases h)
      · rw [if_neg (by omega)]
        refine key z _ (fun h => ?_) (fun h => ?_)
        · have : i = 2 := by simp at h; omega
          subst this; rfl
        · have : i ≠ 2 := by simp at h; omega
          unfold wantB
          rw [if_neg hz, if_neg (by omega)]

theorem apart_j0 (l m : List Int) (k : Nat) (hk : 1000 < k) (hl : l.length = 4) (hm : m.length = 4) (rl : rightL l 9 = true) (rm : rightL m 9 = true) : conclavelaw07_ScheduleApart.j0 (k + 1) l m false = some true := by
  obtain ⟨a, b, p, c, rfl⟩ : ∃ a b p c, l = [a, b, p, c] := by
    match l, hl with
    | [a, b, p, c], _ => exact ⟨a, b, p, c, rfl⟩
  obtain ⟨a', b', p', c', rfl⟩ : ∃ a b p c, m = [a, b, p, c] := by
    match m, hm with
    | [a, b, p, c], _ => exact ⟨a, b, p, c, rfl⟩
  have K1 := rightL_known (n := 9) rl
  have K2 := rightL_known (n := 9) rm
  rw [conclavelaw07_ScheduleApart.j0, if_neg (by decide), stores9, Option.bind_some]
  have e0 : ∀ x y z w : Int, rd [x, y, z, w] 0 = x := fun _ _ _ _ => rfl
  have e1 : ∀ x y z w : Int, rd [x, y, z, w] 1 = y := fun _ _ _ _ => rfl
  have e2 : ∀ x y z w : Int, rd [x, y, z, w] 2 = z := fun _ _ _ _ => rfl
  have e3 : ∀ x y z w : Int, rd [x, y, z, w] 3 = w := fun _ _ _ _ => rfl
  have n4 : ∀ x y z w : Int, (([x, y, z, w] : List Int).length : Int) = 4 := fun _ _ _ _ => rfl
  simp only [n4, e0, e1, e2, e3]
  rw [if_pos (by decide), if_pos (by decide), if_pos (by decide), shared_eq _ [p] k (by simp) (by simp; omega), Option.bind_some, if_pos (by decide)]
  have g9 := good9
  have n9 := len9
  generalize freshes ⟨[], 0⟩ 9 = s at *
  have kn1 : ∀ x ∈ [a, b, p, c], knownB s.nodes.length x = true := fun x hx => by rw [n9]; exact K1 x hx
  have kn2 : ∀ x ∈ [a', b', p', c'], knownB s.nodes.length x = true := fun x hx => by rw [n9]; exact K2 x hx
  obtain ⟨g1, c1⟩ := sharedT_ok g9.good (l := [p]) (fun x hx => kn1 x (by simp at hx; simp [hx])) (by simp; omega)
  generalize sharedT s [p] = u at *
  have n1 : u.2.nodes.length ≤ 20 := by have := g1.len; simp at this; omega
  obtain ⟨j, mm, w, x, v, e, s1, hf, g2, hj, hep⟩ := next_ok (a := a) (b := b) (sh := u.1) (c := c) g1.good (g1.known (kn1 a (by simp))) (g1.known (kn1 b (by simp))) c1.known (g1.known (kn1 c (by simp))) (by omega)
  rw [hf, Option.bind_some]
  dsimp only
  rw [show conclavelaw07_all.f j mm w x (v 0) (v 1) (v 2) (v 3) (v 4) (v 5) (v 6) (v 7) (v 8) = some (allL j mm w x v) from rfl, Option.bind_some, if_pos (by decide), if_pos (by decide), if_pos (by decide),
    shared_eq _ [p'] k (by simp) (by simp; omega), Option.bind_some, if_pos (by decide)]
  have g12 := g1.trans g2
  have n2 : s1.nodes.length ≤ 40 := by have := g2.len; omega
  obtain ⟨g3, c3⟩ := sharedT_ok g2.good (l := [p']) (fun x hx => g12.known (kn2 x (by simp at hx; simp [hx]))) (by simp; omega)
  generalize sharedT s1 [p'] = u' at *
  have g13 := g12.trans g3
  have n3 : u'.2.nodes.length ≤ 60 := by have := g3.len; simp at this; omega
  obtain ⟨j', mm', w', x', v', e', s3, hf', g4, hj', hep'⟩ := next_ok (a := a') (b := b') (sh := u'.1) (c := c') g3.good (g13.known (kn2 a' (by simp))) (g13.known (kn2 b' (by simp))) c3.known (g13.known (kn2 c' (by simp))) (by omega)
  rw [hf', Option.bind_some]
  dsimp only
  rw [show conclavelaw07_all.f j' mm' w' x' (v' 0) (v' 1) (v' 2) (v' 3) (v' 4) (v' 5) (v' 6) (v' 7) (v' 8) = some (allL j' mm' w' x' v') from rfl, Option.bind_some]
  have g34 := g3.trans g4
  have hg := g4.good
  have HJ := g34.has hj
  have HE := hep.grow g34
  have C1 := (c1.grow g2).grow g34
  have C3 := c3.grow g4
  have q0 := Has.iff hg HJ hj'
  have q1 := Has.iff hg HE.member hep'.member
  have q2 := Has.iff hg HE.welcome hep'.welcome
  have q3 := Has.iff hg HE.secret hep'.secret
  have qe : e = e' := HE.none.num hg hep'.none
  have qs := Ch.iff hg C1 C3
  have qv : ∀ i, i < 9 → (v i = v' i ↔ x = x') := fun i hi => by
    have := Has.iff hg (HE.each i hi) (hep'.each i hi)
    simpa [qe] using this
  simp only [Nd.mk.injEq, true_and, List.reverse_cons, List.reverse_nil, List.nil_append, List.cons.injEq, and_true, qe] at q0 q1 q2 q3 qs
  have hall : ∀ (xx yy zz : Bool), xx = (j == j') → yy = (mm == mm') → zz = (x == x') → ∀ k, 900 < k → conclavelaw07_ScheduleApart.l0 k (allL j mm w x v) (allL j' mm' w' x' v') xx yy zz ((allL j mm w x v).length : Int) 0 = some true := by
    rintro xx yy zz rfl rfl rfl k hk
    refine apart_l0 (allL j mm w x v) (allL j' mm' w' x' v') _ _ _ rfl rfl (fun i k hi hk he => all_apart hg HJ HE hi hk he) (fun i hi => (all_has HJ HE i hi).pos) ?_ 13 k 0 rfl (by omega)
    intro i hi _
    have hi' : i < 13 := hi
    have bq : ∀ {A B C D : Int}, (A = B ↔ C = D) → (A == B) = (C == D) := fun h => by rw [Bool.eq_iff_iff, beq_iff_eq, beq_iff_eq]; exact h
    obtain rfl | rfl | rfl | rfl | rfl | rfl | rfl | rfl | rfl | rfl | rfl | rfl | rfl : i = 0 ∨ i = 1 ∨ i = 2 ∨ i = 3 ∨ i = 4 ∨ i = 5 ∨ i = 6 ∨ i = 7 ∨ i = 8 ∨ i = 9 ∨ i = 10 ∨ i = 11 ∨ i = 12 := by omega
    · rfl
    · rfl
    · exact bq q2
    · rfl
    · exact bq (qv 0 (by decide))
    · exact bq (qv 1 (by decide))
    · exact bq (qv 2 (by decide))
    · exact bq (qv 3 (by decide))
    · exact bq (qv 4 (by decide))
    · exact bq (qv 5 (by decide))
    · exact bq (qv 6 (by decide))
    · exact bq (qv 7 (by decide))
    · exact bq (qv 8 (by decide))
  obtain ⟨k, rfl⟩ : ∃ k', k = k' + 1 + 1 + 1 := ⟨k - 3, by omega⟩
  have rest : ∀ f : Bool, f = (j == j') → conclavelaw07_ScheduleApart.j1 (k + 1 + 1 + 1) [a, b, p, c] [a', b', p', c'] (allL j mm w x v) (allL j' mm' w' x' v') f = some true := by
    intro f hf
    rw [conclavelaw07_ScheduleApart.j1]
    have two : ∀ g : Bool, g = (mm == mm') → conclavelaw07_ScheduleApart.j2 (k + 1 + 1) [a, b, p, c] [a', b', p', c'] (allL j mm w x v) (allL j' mm' w' x' v') f g = some true := by
      intro g hg2
      rw [conclavelaw07_ScheduleApart.j2]
      simp only [n4, e3]
      by_cases hgt : g = true
      · rw [if_pos hgt, if_pos (by decide), if_pos (by decide), conclavelaw07_ScheduleApart.j3]
        refine hall f g _ hf hg2 ?_ _ (by omega)
        rw [hg2, beq_iff_eq] at hgt
        rw [Bool.eq_iff_iff, beq_iff_eq, beq_iff_eq, q3]
        exact ⟨fun h => ⟨hgt, h⟩, fun h => h.2⟩
      · rw [if_neg hgt, conclavelaw07_ScheduleApart.j3]
        refine hall f g _ hf hg2 ?_ _ (by omega)
        rw [Bool.not_eq_true, hg2, beq_eq_false_iff_ne] at hgt
        rw [eq_comm, beq_eq_false_iff_ne]
        exact fun h => hgt (q3.1 h).1
    simp only [n4, e2]
    by_cases hft : f = true
    · rw [if_pos hft, if_pos (by decide), if_pos (by decide)]
      refine two _ ?_
      rw [hf, beq_iff_eq] at hft
      rw [Bool.eq_iff_iff, beq_iff_eq, beq_iff_eq, q1, qs]
      exact ⟨fun h => ⟨hft, h⟩, fun h => h.2⟩
    · rw [if_neg hft]
      refine two _ ?_
      rw [Bool.not_eq_true, hf, beq_eq_false_iff_ne] at hft
      rw [eq_comm, beq_eq_false_iff_ne]
      exact fun h => hft (q1.1 h).1
  by_cases haa : a = a'
  · rw [if_pos haa]
    refine rest _ ?_
    rw [Bool.eq_iff_iff, beq_iff_eq, beq_iff_eq, q0]
    exact ⟨fun h => ⟨haa, h⟩, fun h => h.2⟩
  · rw [if_neg haa]
    refine rest _ ?_
    rw [eq_comm, beq_eq_false_iff_ne]
    exact fun h => haa (q0.1 h).1
theorem ScheduleApart : conclavelaw07_ScheduleApart.Pure := by
  intro l m hl1 hl2 _ hm1 hm2 _
  have ql : l.length ≤ 100000000000000000 := by omega
  have qm : m.length ≤ 100000000000000000 := by omega
  refine ⟨2001, ?_⟩
  unfold conclavelaw07_ScheduleApart.f
  rw [show conclavelaw07_anchor.f 2001 = some true from rfl, Option.bind_some, if_pos rfl]
  have hj : conclavelaw07_ScheduleApart.j0 2001 l m true = some true := rfl
  by_cases h1 : (l.length : Int) = 4
  · rw [if_pos h1]
    by_cases h2 : (m.length : Int) = 4
    · rw [if_pos h2, right_eq 9 l _ ql (by omega), Option.bind_some]
      cases hr : rightL l 9 with
      | false => rw [if_neg (by decide)]; exact hj
      | true =>
        rw [if_pos rfl, right_eq 9 m _ qm (by omega), Option.bind_some]
        cases hr2 : rightL m 9 with
        | false => exact hj
        | true => exact apart_j0 l m 2000 (by decide) (by omega) (by omega) hr hr2
    · rw [if_neg h2]; exact hj
  · rw [if_neg h1]; exact hj
end Go.Proofs.Yteoamlnnaabomaa.Pure
