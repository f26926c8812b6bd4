/- What this claim reaches of a longer text of this session. -/
import Derived.Test.YtdipiigfjcaijaaDoorPureHash
import Derived.Test.YtdipiigfjcaijaaDoorPDix7
set_option linter.unusedVariables false
set_option linter.unusedSimpArgs false
namespace Go.Proofs.YtdipiigfjcaijaaDoor.Pure
open Go.RowKit Go.Proofs.YtdipiigfjcaijaaDoor Go.Proofs.YtdipiigfjcaijaaDoor.PDi Go.Proofs.YtdipiigfjcaijaaDoorW.PrintWords
def Sub (l u : List S33) : Nat → Nat → Prop
  | 0, j => VX l (2 * j) = VX u (2 * j)
  | k + 1, j => Sub l u k (2 * j) ∧ Sub l u k (2 * j + 1) ∧ VX l (pl (k + 1) j) = VX u (pl (k + 1) j)
theorem Sub.refl (l : List S33) : ∀ k j, Sub l l k j
  | 0, _ => rfl
  | k + 1, j => ⟨Sub.refl l k _, Sub.refl l k _, rfl⟩
theorem S_ext {v w : S33} (h0 : v.f0 = w.f0) (h1 : v.f1 = w.f1) (h2 : v.f2 = w.f2) (h3 : v.f3 = w.f3) (h4 : v.f4 = w.f4) (h5 : v.f5 = w.f5) : v = w := by
  obtain ⟨a, b, c, d, e, f⟩ := v
  obtain ⟨a', b', c', d', e', f'⟩ := w
  dsimp only at *
  subst h0 h1 h2 h3 h4 h5
  rfl
def In9 (v : S33) : Prop := 0 ≤ v.f1 ∧ v.f1 ≤ 90 ∧ 0 ≤ v.f3 ∧ v.f3 ≤ 90 ∧ 0 ≤ v.f4 ∧ v.f4 ≤ 90
theorem leaf_iff {s : TS} (hg : Good s) (ha : Atoms s) {v w : S33} {j : Nat} (hj : j ≤ 100) {h h' : Int} (H : HLeaf s v j h) (K : HLeaf s w j h') (nv : In9 v) (nw : In9 w) (iv : I64' v.f2) (iw : I64' w.f2)
    (bv : v.f0 = false → v = z33) (bw : w.f0 = false → w = z33) (lv : v.f0 = true → v.f5 = []) (lw : w.f0 = true → w.f5 = []) : h = h' ↔ v = w := by
  rcases H with ⟨h0, p, q, a, b, c, t, h1, h2, h3, h4, h5, h6, h7⟩ | ⟨h0, p, t, h1, h2, h3⟩
  · rcases K with ⟨k0, p', q', a', b', c', t', k1, k2, k3, k4, k5, k6, k7⟩ | ⟨k0, p', t', k1, k2, k3⟩
    · have e1 : p = p' := h1.num hg k1
      have e2 := Has.iff hg h2 k2
      have e3 := Sm.iff hg ha h3 k3 nv.1 nv.2.1 nw.1 nw.2.1
      have e4 := Sm.iff hg ha h4 k4 nv.2.2.1 nv.2.2.2.1 nw.2.2.1 nw.2.2.2.1
      have e5 := Sm.iff hg ha h5 k5 nv.2.2.2.2.1 nv.2.2.2.2.2 nw.2.2.2.2.1 nw.2.2.2.2.2
      have e6 := IsL.iff hg h6 k6
      have e7 := Has.iff hg h7 k7
      simp only [Nd.mk.injEq, true_and, and_true, List.cons.injEq, e1] at e2 e6 e7
      rw [e7, e6, e2, e3, e4, e5]
      constructor
      · rintro ⟨q2, q3, q4, q5⟩
        exact S_ext (h0.trans k0.symm) q3 (num_inj iv iw q2) q4 q5 ((lv h0).trans (lw k0).symm)
      · rintro rfl
        exact ⟨rfl, rfl, rfl, rfl⟩
    · have e6 := IsL.iff hg h6 k2
      have e7 := Has.iff hg h7 k3
      simp only [Nd.mk.injEq, true_and, and_true] at e7
      rw [e7, e6]
      constructor
      · intro e; simp at e
      · rintro rfl; rw [h0] at k0; cases k0
  · rcases K with ⟨k0, p', q', a', b', c', t', k1, k2, k3, k4, k5, k6, k7⟩ | ⟨k0, p', t', k1, k2, k3⟩
    · have e6 := IsL.iff hg h2 k6
      have e7 := Has.iff hg h3 k7
      simp only [Nd.mk.injEq, true_and, and_true] at e7
      rw [e7, e6]
      constructor
      · intro e; simp at e
      · rintro rfl; rw [h0] at k0; cases k0
    · have e1 : p = p' := h1.num hg k1
      subst e1
      have e2 : t = t' := (IsL.iff hg h2 k2).2 rfl
      subst e2
      exact ⟨fun _ => (bv h0).trans (bw k0).symm, fun _ => h3.num hg k3⟩
theorem node_iff {s : TS} (hg : Good s) (ha : Atoms s) {v w : S33} {a b a' b' h h' : Int} (H : HNode s v a b h) (K : HNode s w a' b' h') (nv : In9 v) (nw : In9 w) (iv : ∀ y ∈ v.f5, I64' y) (iw : ∀ y ∈ w.f5, I64' y)
    (bv : v.f0 = false → v = z33) (bw : w.f0 = false → w = z33) (lv : v.f0 = true → v.f2 = 0 ∧ v.f3 = 0) (lw : w.f0 = true → w.f2 = 0 ∧ w.f3 = 0) : h = h' ↔ a = a' ∧ b = b' ∧ v = w := by
  rcases H with ⟨h0, ps, ls, m, f, t, h1, h2, h3, h4, h5, h6⟩ | ⟨h0, t, h1, h2⟩
  · rcases K with ⟨k0, ps', ls', m', f', t', k1, k2, k3, k4, k5, k6⟩ | ⟨k0, t', k1, k2⟩
    · have e1 := NumL.iff hg h1 k1 iv iw
      have e2 := IsL.iff hg h2 k2
      have e3 := Sm.iff hg ha h3 k3 nv.1 nv.2.1 nw.1 nw.2.1
      have e4 := Sm.iff hg ha h4 k4 nv.2.2.2.2.1 nv.2.2.2.2.2 nw.2.2.2.2.1 nw.2.2.2.2.2
      have e5 := IsL.iff hg h5 k5
      have e6 := Has.iff hg h6 k6
      simp only [Nd.mk.injEq, true_and, and_true, List.cons.injEq] at e5 e6
      rw [e6, e5, e3, e4, e2, e1]
      constructor
      · rintro ⟨q1, q2, q3, q4, q5⟩
        exact ⟨q4, q5, S_ext (h0.trans k0.symm) q1 ((lv h0).1.trans (lw k0).1.symm) ((lv h0).2.trans (lw k0).2.symm) q2 q3⟩
      · rintro ⟨rfl, rfl, rfl⟩
        exact ⟨rfl, rfl, rfl, rfl, rfl⟩
    · have e6 := Has.iff hg h6 k2
      rw [e6]
      constructor
      · intro e
        have := congrArg Nd.label e
        exact absurd this (show nodeB ≠ blankB by decide)
      · rintro ⟨_, _, rfl⟩; rw [h0] at k0; cases k0
  · rcases K with ⟨k0, ps', ls', m', f', t', k1, k2, k3, k4, k5, k6⟩ | ⟨k0, t', k1, k2⟩
    · have e6 := Has.iff hg h2 k6
      rw [e6]
      constructor
      · intro e
        have := congrArg Nd.label e
        exact absurd this (show blankB ≠ nodeB by decide)
      · rintro ⟨_, _, rfl⟩; rw [h0] at k0; cases k0
    · have e5 := IsL.iff hg h1 k1
      have e6 := Has.iff hg h2 k2
      simp only [Nd.mk.injEq, true_and, and_true, List.cons.injEq] at e5 e6
      rw [e6, e5]
      exact ⟨fun ⟨q1, q2⟩ => ⟨q1, q2, (bv h0).trans (bw k0).symm⟩, fun ⟨q1, q2, _⟩ => ⟨q1, q2⟩⟩
theorem HT.iff {s : TS} (hg : Good s) (ha : Atoms s) {l u : List S33} (hl : WfV l) (hu : WfV u) {m n : Nat} (rl : RightV l m) (ru : RightV u n) : ∀ (k j : Nat) {h h' : Int}, k ≤ 5 → pl k j < l.length → pl k j < u.length → HT s l k j h → HT s u k j h' → (h = h' ↔ Sub l u k j)
  | 0, j, h, h', hk, pl1, pu1, H, K => by
    rw [pl_zero] at pl1 pu1
    have h63 := len_le rl.hm
    have hlen := rl.len
    exact leaf_iff hg ha (by omega) H K (rl.num _ pl1) (ru.num _ pu1) (wf_of hl pl1).1 (wf_of hu pu1).1 (rl.ok _ pl1).blank (ru.ok _ pu1).blank (fun h => (rl.ok _ pl1).leaf h (by omega)) (fun h => (ru.ok _ pu1).leaf h (by omega))
  | k + 1, j, h, h', hk, pl1, pu1, ⟨a, b, h1, h2, h3⟩, ⟨a', b', k1, k2, k3⟩ => by
    have hlen := rl.len
    have ulen := ru.len
    obtain ⟨_, p1, p2⟩ := children_at rl.hm (by omega : k < 5) (j := j) (by omega)
    obtain ⟨_, q1, q2⟩ := children_at ru.hm (by omega : k < 5) (j := j) (by omega)
    have i1 := HT.iff hg ha hl hu rl ru k (2 * j) (by omega) (by omega) (by omega) h1 k1
    have i2 := HT.iff hg ha hl hu rl ru k (2 * j + 1) (by omega) (by omega) (by omega) h2 k2
    have ho := pl_odd k j
    have := node_iff hg ha h3 k3 (rl.num _ pl1) (ru.num _ pu1) (wf_of hl pl1).2 (wf_of hu pu1).2 (rl.ok _ pl1).blank (ru.ok _ pu1).blank (fun h => ⟨((rl.ok _ pl1).par h ho).1, ((rl.ok _ pl1).par h ho).2.1⟩) (fun h => ⟨((ru.ok _ pu1).par h ho).1, ((ru.ok _ pu1).par h ho).2.1⟩)
    rw [this, i1, i2]
    rfl
theorem HLeaf.lab {s : TS} {v : S33} {j : Nat} {h : Int} (H : HLeaf s v j h) : ∃ t, Has s h ⟨4, leafB, t, 0⟩ := by
  rcases H with ⟨h0, p, q, a, b, c, t, h1, h2, h3, h4, h5, h6, h7⟩ | ⟨h0, p, t, h1, h2, h3⟩
  · exact ⟨t, h7⟩
  · exact ⟨t, h3⟩
theorem HNode.lab {s : TS} {v : S33} {a b h : Int} (H : HNode s v a b h) : ∃ t c, Has s h ⟨4, c, t, 0⟩ ∧ c ≠ leafB := by
  rcases H with ⟨h0, ps, ls, m, f, t, h1, h2, h3, h4, h5, h6⟩ | ⟨h0, t, h1, h2⟩
  · exact ⟨t, _, h6, by decide⟩
  · exact ⟨t, _, h2, by decide⟩
theorem Sub.all {l u : List S33} : ∀ (k j : Nat), Sub l u k j → ∀ x, 2 ^ (k + 1) * j ≤ x → x + 1 < 2 ^ (k + 1) * (j + 1) → VX l x = VX u x
  | 0, j, H, x, h1, h2 => by
    have : x = 2 * j := by simp at h1 h2; omega
    rw [this]; exact H
  | k + 1, j, ⟨h1, h2, h3⟩, x, a, b => by
    have e1 : 2 ^ (k + 1) * (2 * j) = 2 ^ (k + 1 + 1) * j := by rw [Nat.pow_succ 2 (k + 1), Nat.mul_assoc]
    have e2 : 2 ^ (k + 1) * (2 * j + 1) = 2 ^ (k + 1 + 1) * j + 2 ^ (k + 1) := by rw [Nat.mul_add, Nat.mul_one, e1]
    have e3 : 2 ^ (k + 1) * (2 * j + 1 + 1) = 2 ^ (k + 1 + 1) * (j + 1) := by
      rw [show 2 * j + 1 + 1 = 2 * (j + 1) by omega, Nat.pow_succ 2 (k + 1), Nat.mul_assoc]
    have e4 : pl (k + 1) j = 2 ^ (k + 1 + 1) * j + 2 ^ (k + 1) - 1 := rfl
    have h0 : 1 ≤ 2 ^ (k + 1) := Nat.one_le_two_pow
    rcases Nat.lt_trichotomy x (pl (k + 1) j) with c | c | c
    · exact Sub.all k (2 * j) h1 x (by omega) (by omega)
    · rw [c]; exact h3
    · exact Sub.all k (2 * j + 1) h2 x (by omega) (by omega)
theorem S_iff (v w : S33) : v = w ↔ v.f0 = w.f0 ∧ v.f1 = w.f1 ∧ v.f2 = w.f2 ∧ v.f3 = w.f3 ∧ v.f4 = w.f4 ∧ v.f5 = w.f5 :=
  ⟨fun h => by subst h; exact ⟨rfl, rfl, rfl, rfl, rfl, rfl⟩, fun ⟨a, b, c, d, e, f⟩ => S_ext a b c d e f⟩
theorem VX_at {l : List S33} {i : Nat} (h : i < l.length) : VX l i = l[i] := by
  unfold VX rd_T33
  rw [Int.toNat_natCast, List.getD_eq_getElem?_getD, List.getElem?_eq_getElem h]
  rfl
instance : DecidableEq S33 := fun v w => decidable_of_iff _ (S_iff v w).symm
theorem right_late {l : List S33} {m : Nat} (h : RightV l m) : ∀ i, i < l.length → (VX l i).f5.length ≤ 1000 := by
  intro i hi
  have hok := h.ok i hi
  cases hf : (VX l i).f0 with
  | false => rw [hok.blank hf]; exact Nat.zero_le _
  | true =>
    rcases Nat.mod_two_eq_zero_or_one i with c | c
    · rw [hok.leaf hf c]; exact Nat.zero_le _
    · have := (hok.par hf c).2.2; omega
theorem dstores90 : conclavelaw05_stores.f 90 = some (freshes ⟨[], 0⟩ 90) := rfl
theorem dgood90 : Grow ⟨[], 0⟩ (freshes ⟨[], 0⟩ 90) 90 := (freshes_ok 90 (by decide)).1
theorem datoms90 : Atoms (freshes ⟨[], 0⟩ 90) := by
  have h : ∀ v : Fin 90, knownB (freshes ⟨[], 0⟩ 90).nodes.length ((v.val : Int) + 1) = true ∧ (getN (freshes ⟨[], 0⟩ 90).nodes ((v.val : Int) + 1)).kind = 1 := by decide +kernel
  intro v a b
  have := h ⟨(v - 1).toNat, by omega⟩
  rw [show (((v - 1).toNat : Nat) : Int) + 1 = v by omega] at this
  exact ⟨_, ⟨this.1, rfl⟩, this.2⟩
end Go.Proofs.YtdipiigfjcaijaaDoor.Pure
