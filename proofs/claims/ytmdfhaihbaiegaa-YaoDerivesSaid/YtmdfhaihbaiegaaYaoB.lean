/- What can be made of its parts, and what comes out of a term: the walks. -/
import Derived.Test.YtmdfhaihbaiegaaYaoA
import Derived.Test.YtmdfhaihbaiegaaAnchor1
import Derived.BigQuiet
import Derived.Deep.QuietTactic
set_option linter.unusedVariables false
set_option linter.unusedSimpArgs false
namespace Go.Proofs.Ytmdfhaihbaiegaa
open Go.RowKit

def cbI (c : List Bool) (t : Int) : Bool := c.getD t.toNat false

def PartsIn (len : Nat) (n : Nd) : Prop :=
  ((n.kind = 3 ∨ n.kind = 5 ∨ n.kind = 7 ∨ n.kind = 8 ∨ n.kind = 9) → (0 ≤ n.a ∧ n.a < len) ∧ (0 ≤ n.b ∧ n.b < len)) ∧ ((n.kind = 4 ∨ n.kind = 6) → 0 ≤ n.a ∧ n.a < len)

def QKeep (q : Mind) (g : Nat) (i j : Nat) (x y : Bool) (c : Nat) (w : World) : Prop :=
  w.cell? ⟨q.p, 2, none⟩ = some (.slice (some ⟨g, 0, none⟩) q.can.length c) ∧ w.cell? ⟨g, i, none⟩ = some (.bool x) ∧ w.cell? ⟨g, j, none⟩ = some (.bool y)

set_option maxHeartbeats 2000000 in
theorem made_one {q : Mind} {w : World} (h : MindAt w q) (hl : q.can.length ≤ 262145) (k : Int) (l : ByteArray) (a b : Int) (hk : k = 4 ∨ k = 6) (ha : 0 ≤ a ∧ a < q.can.length) :
    Calls Try.prog 28 #[q.ptr, .agg #[.int .i64 k, .string l, .int .i64 a, .int .i64 b]] w fun e w' => e = .returned (.bool (cbI q.can a)) ∧ Chg none_ w w' := by
  have h2 := h.cell2
  obtain ⟨s, c, hs⟩ := h.slice
  rw [hs] at h2
  obtain ⟨i, rfl⟩ : ∃ i : Nat, a = i := ⟨a.toNat, by omega⟩
  have hi : i < q.can.length := by omega
  obtain ⟨g, c', hv, hg, _, hc, _⟩ := row_bool h.row (k := i) hi
  rw [hs] at hv
  injection hv with hv1 _ hv2
  subst hv1
  simp only [cbI, Int.toNat_natCast]
  have hp := h.p_lt
  generalize q.can.getD i false = x at *
  clear hs hv2 h ha
  rcases hk with rfl | rfl
  all_goals
    go_enter Try.func28, Try.ntmps28
    go_wp2
    refine Mix.wp_region_mix (fun _ => True) (fun i => [0, 1, 3, 7, 0, 16, 63, 127, 255].getD i 0) (fun i => [2, 2, 2, 2, 2, 2, 2, 2, 2].getD i 0) (by kernel_rfl) ⟨by kernel_rfl, by kernel_rfl, by kernel_rfl, by kernel_rfl, by kernel_rfl⟩ trivial ?_; simp only [Mix.whole, List.getD_cons_zero, List.getD_cons_succ, Nat.reduceAdd]
    repeat (first | (refine Mix.pin_no rfl rfl (fun K hK => ?_); go_step; refine hK _ ?_; clear hK K) | (refine Mix.pin_not rfl rfl rfl rfl (fun K hK => ?_); simp only [List.setIfInBounds_toArray, List.set_cons_zero, List.set_cons_succ]; refine hK _ ?_; clear hK K) | (refine Mix.pin_yes rfl rfl rfl rfl (fun K hK => ?_); go_step; refine hK _ ?_; clear hK K))
    refine Mix.walk_nil ?_
    go_wp2
    go_ret
    exact ⟨rfl, ((Chg.refl _ _).alloc _).drew⟩

set_option maxHeartbeats 2000000 in
theorem made_two {q : Mind} {w : World} (h : MindAt w q) (hl : q.can.length ≤ 262145) (k : Int) (l : ByteArray) (a b : Int) (hk : k = 3 ∨ k = 5 ∨ k = 7 ∨ k = 8 ∨ k = 9) (ha : 0 ≤ a ∧ a < q.can.length) (hb : 0 ≤ b ∧ b < q.can.length) :
    Calls Try.prog 28 #[q.ptr, .agg #[.int .i64 k, .string l, .int .i64 a, .int .i64 b]] w fun e w' => e = .returned (.bool (cbI q.can a && cbI q.can b)) ∧ Chg none_ w w' := by
  have h2 := h.cell2
  obtain ⟨s, c, hs⟩ := h.slice
  rw [hs] at h2
  obtain ⟨i, rfl⟩ : ∃ i : Nat, a = i := ⟨a.toNat, by omega⟩
  obtain ⟨j, rfl⟩ : ∃ j : Nat, b = j := ⟨b.toNat, by omega⟩
  have hi : i < q.can.length := by omega
  have hj : j < q.can.length := by omega
  obtain ⟨g, c', hv, hg, _, hc, _⟩ := row_bool h.row (k := i) hi
  obtain ⟨g2, c2', hv', hg2, _, hc2, _⟩ := row_bool h.row (k := j) hj
  rw [hs] at hv hv'
  injection hv with hv1 _ hv2
  subst hv1
  injection hv' with hv1 _ hv2'
  injection hv1 with hv1
  injection hv1 with hv1
  subst hv1
  simp only [cbI, Int.toNat_natCast]
  have hp := h.p_lt
  generalize q.can.getD i false = x at *
  generalize q.can.getD j false = y at *
  clear hs hv2 hv2' h ha hb
  cases x
  all_goals
    rcases hk with rfl | rfl | rfl | rfl | rfl
    all_goals
      go_enter Try.func28, Try.ntmps28
      go_wp2
      refine Mix.wp_region_mix (fun _ => True) (fun i => [0, 1, 3, 7, 0, 16, 63, 127, 255, 511, 1023, 2047, 4095, 511, 8703, 32767, 65535, 131071, 262143].getD i 0) (fun i => [2, 2, 2, 2, 2, 2, 2, 2, 2, 2, 2, 2, 2, 2, 2, 2, 2, 2, 2].getD i 0) (by kernel_rfl) ⟨by kernel_rfl, by kernel_rfl, by kernel_rfl, by kernel_rfl, by kernel_rfl⟩ trivial ?_; simp only [Mix.whole, List.getD_cons_zero, List.getD_cons_succ, Nat.reduceAdd]
      repeat (first | (refine Mix.pin_no rfl rfl (fun K hK => ?_); go_step; refine hK _ ?_; clear hK K) | (refine Mix.pin_not rfl rfl rfl rfl (fun K hK => ?_); simp only [List.setIfInBounds_toArray, List.set_cons_zero, List.set_cons_succ]; refine hK _ ?_; clear hK K) | (refine Mix.pin_yes rfl rfl rfl rfl (fun K hK => ?_); go_step; refine hK _ ?_; clear hK K))
      refine Mix.walk_nil ?_
      go_wp2
      go_ret
      exact ⟨by first | rfl | simp, ((Chg.refl _ _).alloc _).drew⟩

set_option maxHeartbeats 2000000 in
theorem made_none {q : Mind} {w : World} (k : Int) (l : ByteArray) (a b : Int) (h1 : k ≠ 2) (h2 : k ≠ 3) (h3 : k ≠ 4) (h4 : k ≠ 5) (h5 : k ≠ 6) (h6 : k ≠ 7) (h7 : k ≠ 8) (h8 : k ≠ 9) :
    Calls Try.prog 28 #[q.ptr, .agg #[.int .i64 k, .string l, .int .i64 a, .int .i64 b]] w fun e w' => e = .returned (.bool false) ∧ Chg none_ w w' := by
  have b1 : (k == 2) = false := by simpa using h1
  have b2 : (k == 3) = false := by simpa using h2
  have b3 : (k == 4) = false := by simpa using h3
  have b4 : (k == 5) = false := by simpa using h4
  have b5 : (k == 6) = false := by simpa using h5
  have b6 : (k == 7) = false := by simpa using h6
  have b7 : (k == 8) = false := by simpa using h7
  have b8 : (k == 9) = false := by simpa using h8
  clear h1 h2 h3 h4 h5 h6 h7 h8
  go_enter Try.func28, Try.ntmps28
  go_wp2
  go_ret
  exact ⟨rfl, (Chg.refl _ _).alloc _⟩

set_option maxHeartbeats 2000000 in
theorem made_text {q : Mind} {w : World} (l : ByteArray) (a b : Int) :
    Calls Try.prog 28 #[q.ptr, .agg #[.int .i64 2, .string l, .int .i64 a, .int .i64 b]] w fun e w' => e = .returned (.bool true) ∧ Chg none_ w w' := by
  go_enter Try.func28, Try.ntmps28
  go_wp2
  go_ret
  exact ⟨rfl, (Chg.refl _ _).alloc _⟩

theorem made_calls {q : Mind} {w : World} (h : MindAt w q) (hl : q.can.length ≤ 262145) (n : Nd) (hp : PartsIn q.can.length n) :
    Calls Try.prog 28 #[q.ptr, n.v] w fun e w' => e = .returned (.bool (madeB (cbI q.can) n)) ∧ Chg none_ w w' := by
  obtain ⟨k, l, a, b⟩ := n
  obtain ⟨hp1, hp2⟩ := hp
  dsimp only at hp1 hp2
  unfold Nd.v madeB
  dsimp only
  by_cases e2 : k = 2
  · subst e2; exact made_text l a b
  rw [if_neg e2]
  by_cases e46 : k = 4 ∨ k = 6
  · rw [if_pos e46]; exact made_one h hl k l a b e46 (hp2 e46)
  rw [if_neg e46]
  by_cases e5 : k = 3 ∨ k = 5 ∨ k = 7 ∨ k = 8 ∨ k = 9
  · rw [if_pos e5]; exact made_two h hl k l a b e5 (hp1 e5).1 (hp1 e5).2
  rw [if_neg e5]
  exact made_none k l a b e2 (by omega) (by omega) (by omega) (by omega) (by omega) (by omega) (by omega)

end Go.Proofs.Ytmdfhaihbaiegaa
