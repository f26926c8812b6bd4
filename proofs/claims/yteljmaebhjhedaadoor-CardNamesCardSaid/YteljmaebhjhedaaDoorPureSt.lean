/- What this claim reaches of a longer text of this session. -/
import Derived.Test.YteljmaebhjhedaaDoorPure2
import Derived.Test.YteljmaebhjhedaaDoorPCnx3
set_option linter.unusedVariables false
set_option linter.unusedSimpArgs false
namespace Go.Proofs.YteljmaebhjhedaaDoor.Pure
open Go.RowKit Go.Proofs.YteljmaebhjhedaaDoor Go.Proofs.YteljmaebhjhedaaDoor.PCn
def Has (s : TS) (t : Int) (n : Nd) : Prop := knownB s.nodes.length t = true ∧ getN s.nodes t = n
structure Good (s : TS) : Prop where
  nodup : s.nodes.Nodup
  wf : WF s.nodes
structure Grow (s s' : TS) (k : Nat) : Prop where
  good : Good s'
  pre : s.nodes <+: s'.nodes
  len : s'.nodes.length ≤ s.nodes.length + k
theorem Grow.refl {s : TS} (h : Good s) : Grow s s 0 := ⟨h, List.prefix_refl _, Nat.le_refl _⟩
theorem Grow.trans {a b c : TS} {i j : Nat} (h : Grow a b i) (k : Grow b c j) : Grow a c (i + j) := ⟨k.good, h.pre.trans k.pre, by have := h.len; have := k.len; omega⟩
theorem Grow.known {s s' : TS} {k : Nat} (h : Grow s s' k) {t : Int} (hk : knownB s.nodes.length t = true) : knownB s'.nodes.length t = true := known_mono h.pre.length_le hk
theorem Grow.has {s s' : TS} {k : Nat} (h : Grow s s' k) {t : Int} {n : Nd} (hn : Has s t n) : Has s' t n := ⟨h.known hn.1, (getN_prefix h.pre hn.1).trans hn.2⟩
theorem Has.pos {s : TS} {t : Int} {n : Nd} (h : Has s t n) : t ≠ 0 := by have := knownB_iff.1 h.1; omega
theorem Has.node {s : TS} {t : Int} {n m : Nd} (h : Has s t n) (k : Has s t m) : n = m := h.2.symm.trans k.2
theorem Has.num {s : TS} (hg : Good s) {t u : Int} {n : Nd} (h : Has s t n) (k : Has s u n) : t = u := by
  have h1 := knownB_iff.1 h.1
  have h2 := knownB_iff.1 k.1
  have e : getN s.nodes t = getN s.nodes u := h.2.trans k.2.symm
  unfold getN at e
  rw [if_pos h.1, if_pos k.1] at e
  obtain ⟨i, rfl⟩ : ∃ i : Nat, t = (i : Int) + 1 := ⟨(t - 1).toNat, by omega⟩
  obtain ⟨j, rfl⟩ : ∃ j : Nat, u = (j : Int) + 1 := ⟨(u - 1).toNat, by omega⟩
  rw [nodeAt_get _ (by omega), nodeAt_get _ (by omega)] at e
  have hi : i < s.nodes.length := by omega
  have hj : j < s.nodes.length := by omega
  have q1 := idx_of_get hg.nodup hi
  have q2 := idx_of_get hg.nodup hj
  have e' : s.nodes[i] = s.nodes[j] := e
  rw [e', q2] at q1
  cases q1
  rfl
theorem Has.iff {s : TS} (hg : Good s) {t u : Int} {n m : Nd} (h : Has s t n) (k : Has s u m) : t = u ↔ n = m :=
  ⟨fun e => by subst e; exact h.node k, fun e => by subst e; exact h.num hg k⟩
theorem put_ok {s : TS} {n : Nd} (hg : Good s) (hr : rightB s.nodes n = true) (hl : s.nodes.length < 262144) : Grow s (put s n).2 1 ∧ Has (put s n).2 (put s n).1 n := by
  have hne : mkT s.nodes n ≠ 0 := by
    rcases mk_cases s.nodes n with ⟨k, hk, e, h1, _⟩ | ⟨_, h, _⟩ | ⟨_, _, h, _⟩ | ⟨_, _, _, h1, _⟩
    · omega
    · rw [hr] at h; cases h
    · omega
    · omega
  refine ⟨⟨⟨?_, mkL_wf n hg.wf⟩, mkL_prefix _ _, ?_⟩, getN_new n hne⟩
  · show (mkL s.nodes n).Nodup
    rcases mk_cases s.nodes n with ⟨k, hk, e, h1, _, h3⟩ | ⟨_, h, _, _, h3⟩ | ⟨_, _, h, _, _, h3⟩ | ⟨hn, _, _, h1, _, h3⟩ <;> rw [h3]
    · exact hg.nodup
    · exact hg.nodup
    · exact hg.nodup
    · exact nodup_snoc hg.nodup (idx_none.2 hn)
  · show (mkL s.nodes n).length ≤ _
    rcases mk_cases s.nodes n with ⟨k, hk, e, h1, _, h3⟩ | ⟨_, h, _, _, h3⟩ | ⟨_, _, h, _, _, h3⟩ | ⟨hn, _, _, h1, _, h3⟩ <;> rw [h3] <;> simp
theorem right_text (L : List Nd) (l : ByteArray) (hl : l.size ≤ 1024) : rightB L ⟨2, l, 0, 0⟩ = true := by
  simp [rightB, rightO, partsL, partsT]; omega
theorem right_hash (L : List Nd) (l : ByteArray) (a : Int) (hl : l.size ≤ 32) (ha : knownB L.length a = true) : rightB L ⟨4, l, a, 0⟩ = true := by
  simp [rightB, rightO, partsL, partsT, ha]; omega
theorem text_ok {s : TS} (hg : Good s) (l : ByteArray) (hs : l.size ≤ 1024) (hl : s.nodes.length < 262144) : Grow s (put s ⟨2, l, 0, 0⟩).2 1 ∧ Has (put s ⟨2, l, 0, 0⟩).2 (put s ⟨2, l, 0, 0⟩).1 ⟨2, l, 0, 0⟩ := put_ok hg (right_text _ l hs) hl
theorem fresh_grow {s : TS} {k : Nat} (hg : Good s) (hd : s.drawn = k) (hk : k ≤ 1000000) (hl : s.nodes.length < 262144) : Grow s (fresh s).2 1 ∧ Has (fresh s).2 (fresh s).1 (freshN k) ∧ (fresh s).2.drawn = (k : Int) + 1 := by
  obtain ⟨h1, h2, h3⟩ := fresh_ok (L := s.nodes) hl hk
  rw [← hd] at h1 h2 h3 ⊢
  refine ⟨⟨⟨?_, mkL_wf _ hg.wf⟩, mkL_prefix _ _, h3⟩, getN_new _ h1, h2⟩
  show (mkL s.nodes (freshN s.drawn)).Nodup
  rcases mk_cases s.nodes (freshN s.drawn) with ⟨k, hk, e, h1, _, h3⟩ | ⟨_, h, _, _, h3⟩ | ⟨_, _, h, _, _, h3⟩ | ⟨hn, _, _, h1, _, h3⟩ <;> rw [h3]
  · exact hg.nodup
  · exact hg.nodup
  · exact hg.nodup
  · exact nodup_snoc hg.nodup (idx_none.2 hn)
theorem good0 : Good ⟨[], 0⟩ := ⟨List.nodup_nil, WF.nil⟩
theorem freshes_ok (n : Nat) (hn : n ≤ 100000) : Grow ⟨[], 0⟩ (freshes ⟨[], 0⟩ n) n ∧ (freshes ⟨[], 0⟩ n).drawn = n := by
  induction n with
  | zero => exact ⟨.refl good0, rfl⟩
  | succ k ih =>
    obtain ⟨h1, h2⟩ := ih (by omega)
    have hl := h1.len
    simp at hl
    obtain ⟨g1, g2, g3⟩ := fresh_grow (s := freshes ⟨[], 0⟩ k) h1.good h2 (by omega) (by omega)
    exact ⟨h1.trans g1, by show (fresh (freshes ⟨[], 0⟩ k)).2.drawn = _; rw [g3]; simp⟩
theorem freshes_len (n : Nat) (hn : n ≤ 12) : (freshes ⟨[], 0⟩ n).nodes.length = n := by
  have : ∀ n : Fin 13, (freshes ⟨[], 0⟩ n).nodes.length = n := by decide +kernel
  exact this ⟨n, by omega⟩
end Go.Proofs.YteljmaebhjhedaaDoor.Pure
