/- What this claim reaches of a longer text of this session. -/
import Derived.Test.YteoamlnnaabomaaDoorPureSched
import Derived.Test.YteoamlnnaabomaaDoorPureCtx
import Derived.DataShut
import Derived.Test.YteoamlnnaabomaaDoorPSbx4
import Derived.Test.YteoamlnnaabomaaDoorPSbx5
set_option linter.unusedVariables false
set_option linter.unusedSimpArgs false
namespace Go.Proofs.YteoamlnnaabomaaDoor.Pure
open Go.RowKit Go.Proofs.YteoamlnnaabomaaDoor Go.Proofs.YteoamlnnaabomaaDoor.PSb Go.Proofs.YteoamlnnaabomaaDoorW.PrintWords
def I64 (a : Int) : Prop := -9223372036854775808 ≤ a ∧ a ≤ 9223372036854775807
theorem I64.of {a : Int} (h : (Lit.int .i64 a).wf = true) : I64 a := by
  have := (Lit.wf_int_iff .i64 a).1 h
  unfold I64
  exact ⟨this.1, this.2⟩
abbrev confB : ByteArray := ⟨#[99, 111, 110, 102, 105, 114, 109, 101, 100]⟩
abbrev intB : ByteArray := ⟨#[105, 110, 116, 101, 114, 105, 109]⟩
theorem confirmed_ok {s : TS} (hg : Good s) (k : Nat) (hk : 20 < k) {a b c : Int} (ha : knownB s.nodes.length a = true) (hb : knownB s.nodes.length b = true) (hc : knownB s.nodes.length c = true) (hl : s.nodes.length < 200000) :
    ∃ u t s', schedule_Confirmed.f k s a b c = some (t, s') ∧ Grow s s' 5 ∧ IsL s' u [a, b, c] ∧ Has s' t ⟨4, confB, u, 0⟩ := by
  have hk3 : ∀ x ∈ [a, b, c], knownB s.nodes.length x = true := by
    intro x hx
    simp only [List.mem_cons, List.not_mem_nil, or_false] at hx
    rcases hx with rfl | rfl | rfl <;> assumption
  obtain ⟨g1, h1⟩ := lsM_ok hg hk3 (by simp; omega)
  unfold schedule_Confirmed.f
  rw [list_eq _ _ k (by simp) hk3 (by simp; omega), Option.bind_some]
  generalize lsM s [a, b, c] = z at *
  obtain ⟨u, s1⟩ := z
  dsimp only at *
  obtain ⟨g2, h2⟩ := hash_ok g1.good confB u (by decide) h1.known (by have := g1.len; simp at this; omega)
  exact ⟨u, _, _, rfl, g1.trans g2, h1.grow g2, h2⟩
theorem interim_ok {s : TS} (hg : Good s) (k : Nat) (hk : 20 < k) {a b : Int} (ha : knownB s.nodes.length a = true) (hb : knownB s.nodes.length b = true) (hl : s.nodes.length < 200000) :
    ∃ u t s', schedule_Interim.f k s a b = some (t, s') ∧ Grow s s' 4 ∧ IsL s' u [a, b] ∧ Has s' t ⟨4, intB, u, 0⟩ := by
  have hk3 : ∀ x ∈ [a, b], knownB s.nodes.length x = true := by
    intro x hx
    simp only [List.mem_cons, List.not_mem_nil, or_false] at hx
    rcases hx with rfl | rfl <;> assumption
  obtain ⟨g1, h1⟩ := lsM_ok hg hk3 (by simp; omega)
  unfold schedule_Interim.f
  rw [list_eq _ _ k (by simp) hk3 (by simp; omega), Option.bind_some]
  generalize lsM s [a, b] = z at *
  obtain ⟨u, s1⟩ := z
  dsimp only at *
  obtain ⟨g2, h2⟩ := hash_ok g1.good intB u (by decide) h1.known (by have := g1.len; simp at this; omega)
  exact ⟨u, _, _, rfl, g1.trans g2, h1.grow g2, h2⟩
theorem binds_j0 (a0 a1 a2 a3 a4 b0 b1 b2 b3 b4 : Int) (ka : ∀ x ∈ [a0, a1, a2], knownB 9 x = true) (kb : ∀ x ∈ [b0, b1, b2], knownB 9 x = true) (ia3 : I64 a3) (ia4 : I64 a4) (ib3 : I64 b3) (ib4 : I64 b4) (k : Nat) (hk : 100 < k) :
    conclavelaw07_ScheduleBinds.j0 k [a0, a1, a2, a3, a4] [b0, b1, b2, b3, b4] false = some true := by
  obtain ⟨k, rfl⟩ : ∃ q, k = q + 1 := ⟨k - 1, by omega⟩
  have e0 : ∀ x y z w v : Int, rd [x, y, z, w, v] 0 = x := fun _ _ _ _ _ => rfl
  have e1 : ∀ x y z w v : Int, rd [x, y, z, w, v] 1 = y := fun _ _ _ _ _ => rfl
  have e2 : ∀ x y z w v : Int, rd [x, y, z, w, v] 2 = z := fun _ _ _ _ _ => rfl
  have e3 : ∀ x y z w v : Int, rd [x, y, z, w, v] 3 = w := fun _ _ _ _ _ => rfl
  have e4 : ∀ x y z w v : Int, rd [x, y, z, w, v] 4 = v := fun _ _ _ _ _ => rfl
  have n5 : ∀ x y z w v : Int, (([x, y, z, w, v] : List Int).length : Int) = 5 := fun _ _ _ _ _ => rfl
  rw [conclavelaw07_ScheduleBinds.j0, if_neg (by decide), stores9, Option.bind_some]
  simp only [n5, e0, e1, e2, e3, e4]
  rw [if_pos (by decide), if_pos (by decide), if_pos (by decide), if_pos (by decide)]
  have g9 := good9
  have n9 := len9
  generalize freshes ⟨[], 0⟩ 9 = s at *
  have kA : ∀ x ∈ [a0, a1, a2], knownB s.nodes.length x = true := by rw [n9]; exact ka
  have kB : ∀ x ∈ [b0, b1, b2], knownB s.nodes.length x = true := by rw [n9]; exact kb
  obtain ⟨p, q, t, s1, f1, g1, p1, q1, l1⟩ := context_ok g9.good k (by omega) ia3.1 ia3.2 ia4.1 ia4.2 (kA a0 (by simp)) (kA a1 (by simp)) (by omega)
  rw [f1, Option.bind_some, if_pos (by decide), if_pos (by decide), if_pos (by decide), if_pos (by decide)]
  dsimp only
  have n1 := g1.len
  obtain ⟨p', q', t', s2, f2, g2, p2, q2, l2⟩ := context_ok g1.good k (by omega) ib3.1 ib3.2 ib4.1 ib4.2 (g1.known (kB b0 (by simp))) (g1.known (kB b1 (by simp))) (by omega)
  rw [f2, Option.bind_some, if_pos (by decide)]
  dsimp only
  have n2 := g2.len
  have g12 := g1.trans g2
  obtain ⟨u, v, s3, f3, g3, l3, h3⟩ := confirmed_ok g2.good k (by omega) (g12.known (kA a0 (by simp))) (g12.known (kA a1 (by simp))) (g12.known (kA a2 (by simp))) (by omega)
  rw [f3, Option.bind_some, if_pos (by decide)]
  dsimp only
  have n3 := g3.len
  have g13 := g12.trans g3
  obtain ⟨u', v', s4, f4, g4, l4, h4⟩ := confirmed_ok g3.good k (by omega) (g13.known (kB b0 (by simp))) (g13.known (kB b1 (by simp))) (g13.known (kB b2 (by simp))) (by omega)
  rw [f4, Option.bind_some]
  dsimp only
  have n4 := g4.len
  have g14 := g13.trans g4
  obtain ⟨y, z, s5, f5, g5, l5, h5⟩ := interim_ok g4.good k (by omega) (g14.known (kA a0 (by simp))) (g14.known (kA a1 (by simp))) (by omega)
  rw [f5, Option.bind_some]
  dsimp only
  have n5' := g5.len
  have g15 := g14.trans g5
  obtain ⟨y', z', s6, f6, g6, l6, h6⟩ := interim_ok g5.good k (by omega) (g15.known (kB b0 (by simp))) (g15.known (kB b1 (by simp))) (by omega)
  rw [f6, Option.bind_some]
  dsimp only
  have g26 := ((g3.trans g4).trans g5).trans g6
  have g36 := (g4.trans g5).trans g6
  have g46 := g5.trans g6
  have hg := g6.good
  have L1 := (l1.grow g2).grow g26
  have L2 := l2.grow g26
  have P1 := g26.has (g2.has p1)
  have Q1 := g26.has (g2.has q1)
  have P2 := g26.has p2
  have Q2 := g26.has q2
  have L3 := l3.grow g36
  have H3 := g36.has h3
  have L4 := l4.grow g46
  have H4 := g46.has h4
  have L5 := l5.grow g6
  have H5 := g6.has h5
  have E1 := IsL.iff hg L1 L2
  have EP := Has.iff hg P1 P2
  have EQ := Has.iff hg Q1 Q2
  have E3 := Has.iff hg H3 H4
  have E3' := IsL.iff hg L3 L4
  have E5 := Has.iff hg H5 h6
  have E5' := IsL.iff hg L5 l6
  simp only [Nd.mk.injEq, true_and, and_true, List.cons.injEq] at E1 EP EQ E3 E3' E5 E5'
  have hp : p = p' ↔ a3 = b3 := ⟨fun h => num_inj ia3 ib3 (EP.1 h), fun h => EP.2 (by rw [h])⟩
  have hq : q = q' ↔ a4 = b4 := ⟨fun h => num_inj ia4 ib4 (EQ.1 h), fun h => EQ.2 (by rw [h])⟩
  rw [hp, hq] at E1
  rw [E3'] at E3
  rw [E5'] at E5
  have z1 : t ≠ 0 := by have := knownB_iff.1 L1.known; omega
  have z3 : v ≠ 0 := H3.pos
  have z5 : z ≠ 0 := H5.pos
  have d1 : t ≠ v := by
    rintro rfl
    obtain ⟨w, _, hw⟩ := L1
    have := hw.node H3
    simp at this
  have d2 : v ≠ z := by
    rintro rfl
    have e : confB = intB := congrArg Nd.label (H3.node H5)
    exact absurd e (by decide)
  have bb1 : (t == t') = decide (a3 = b3 ∧ a4 = b4 ∧ a0 = b0 ∧ a1 = b1) := by rw [Bool.eq_iff_iff, beq_iff_eq, decide_eq_true_iff]; exact E1
  have bb3 : (v == v') = decide (a0 = b0 ∧ a1 = b1 ∧ a2 = b2) := by rw [Bool.eq_iff_iff, beq_iff_eq, decide_eq_true_iff]; exact E3
  have bb5 : (z == z') = decide (a0 = b0 ∧ a1 = b1) := by rw [Bool.eq_iff_iff, beq_iff_eq, decide_eq_true_iff]; exact E5
  rw [bb1, bb3, bb5]
  by_cases c0 : a0 = b0
  · by_cases c1 : a1 = b1
    · by_cases c3 : a3 = b3
      · by_cases c4 : a4 = b4 <;> by_cases c2 : a2 = b2 <;> simp [c0, c1, c2, c3, c4, z1, z3, z5, d1, d2]
      · by_cases c4 : a4 = b4 <;> by_cases c2 : a2 = b2 <;> simp [c0, c1, c2, c3, c4, z1, z3, z5, d1, d2]
    · simp [c0, c1, z1, z3, z5, d1, d2]
  · simp [c0, z1, z3, z5, d1, d2]
theorem ScheduleBinds : ∀ (l0 : List Int) (l1 : List Int), l0.length ≤ maxLen → l0.length * 8 ≤ 140737488351232 → (∀ x ∈ l0, (Lit.int .i64 x).wf = true) → l1.length ≤ maxLen → l1.length * 8 ≤ 140737488351232 → (∀ x ∈ l1, (Lit.int .i64 x).wf = true) → ∃ k, conclavelaw07_ScheduleBinds.f k l0 l1 = some true := by
  intro l m hl1 hl2 wl hm1 hm2 wm
  refine ⟨300, ?_⟩
  have hj : conclavelaw07_ScheduleBinds.j0 300 l m true = some true := rfl
  unfold conclavelaw07_ScheduleBinds.f
  rw [show conclavelaw07_anchor.f 300 = some true from rfl, Option.bind_some, if_pos rfl]
  by_cases h1 : (l.length : Int) = 5
  case neg => rw [if_neg h1]; exact hj
  rw [if_pos h1]
  by_cases h2 : (m.length : Int) = 5
  case neg => rw [if_neg h2]; exact hj
  rw [if_pos h2]
  have hl : l.length = 5 := by omega
  have hm : m.length = 5 := by omega
  obtain ⟨a0, a1, a2, a3, a4, rfl⟩ : ∃ a b c d e, l = [a, b, c, d, e] := by
    match l, hl with
    | [a, b, c, d, e], _ => exact ⟨a, b, c, d, e, rfl⟩
  obtain ⟨b0, b1, b2, b3, b4, rfl⟩ : ∃ a b c d e, m = [a, b, c, d, e] := by
    match m, hm with
    | [a, b, c, d, e], _ => exact ⟨a, b, c, d, e, rfl⟩
  rw [if_pos (by omega), right_eq 9 _ 300 (by simp) (by simp), Option.bind_some]
  cases hr : rightL ([a0, a1, a2, a3, a4].take 3) 9 with
  | false => rw [if_neg (by decide)]; exact hj
  | true =>
    rw [if_pos rfl, if_pos (by omega), right_eq 9 _ 300 (by simp) (by simp), Option.bind_some]
    cases hr2 : rightL ([b0, b1, b2, b3, b4].take 3) 9 with
    | false => exact hj
    | true =>
      exact binds_j0 a0 a1 a2 a3 a4 b0 b1 b2 b3 b4 (rightL_known (n := 9) hr) (rightL_known (n := 9) hr2) (.of (wl a3 (by simp))) (.of (wl a4 (by simp))) (.of (wm b3 (by simp))) (.of (wm b4 (by simp))) 300 (by decide)
end Go.Proofs.YteoamlnnaabomaaDoor.Pure
