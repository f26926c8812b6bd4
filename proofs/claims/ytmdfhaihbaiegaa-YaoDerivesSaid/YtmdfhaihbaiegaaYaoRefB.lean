/- The document's 'made'. -/
import Derived.Test.YtmdfhaihbaiegaaYaoRef
set_option linter.unusedVariables false
set_option linter.unusedSimpArgs false
namespace Go.Proofs.Ytmdfhaihbaiegaa
open Go.RowKit

abbrev rowV (g n : Nat) : Value := .slice (some ⟨g, 0, none⟩) n n

set_option maxHeartbeats 2000000 in
theorem rmade_one {C : List Bool} {w : World} {g : Nat} (h : BoolBlk w g C) (hl : C.length ≤ 262145) (k : Int) (l : ByteArray) (a b : Int) (hk : k = 4 ∨ k = 6) (ha : 0 ≤ a ∧ a < C.length) :
    Calls Try.prog 27 #[.agg #[.int .i64 k, .string l, .int .i64 a, .int .i64 b], rowV g C.length] w fun e w' => e = .returned (.bool (cbI C a)) ∧ Chg none_ w w' := by
  obtain ⟨i, rfl⟩ : ∃ i : Nat, a = i := ⟨a.toNat, by omega⟩
  have hi : i < C.length := by omega
  have hc := h.cell hi
  have hg : g < w.heap.size := lt_of_heap h
  simp only [cbI, Int.toNat_natCast]
  generalize C.getD i false = x at *
  clear h ha
  rcases hk with rfl | rfl
  all_goals
    go_enter Try.func27, Try.ntmps27
    go_wp2
    go_ret
    exact ⟨rfl, (Chg.refl _ _).alloc _⟩

set_option maxHeartbeats 2000000 in
theorem rmade_two {C : List Bool} {w : World} {g : Nat} (h : BoolBlk w g C) (hl : C.length ≤ 262145) (k : Int) (l : ByteArray) (a b : Int) (hk : k = 3 ∨ k = 5 ∨ k = 7 ∨ k = 8 ∨ k = 9) (ha : 0 ≤ a ∧ a < C.length) (hb : 0 ≤ b ∧ b < C.length) :
    Calls Try.prog 27 #[.agg #[.int .i64 k, .string l, .int .i64 a, .int .i64 b], rowV g C.length] w fun e w' => e = .returned (.bool (cbI C a && cbI C b)) ∧ Chg none_ w w' := by
  obtain ⟨i, rfl⟩ : ∃ i : Nat, a = i := ⟨a.toNat, by omega⟩
  obtain ⟨j, rfl⟩ : ∃ j : Nat, b = j := ⟨b.toNat, by omega⟩
  have hi : i < C.length := by omega
  have hj : j < C.length := by omega
  have hc := h.cell hi
  have hc2 := h.cell hj
  have hg : g < w.heap.size := lt_of_heap h
  simp only [cbI, Int.toNat_natCast]
  generalize C.getD i false = x at *
  generalize C.getD j false = y at *
  clear h ha hb
  cases x
  all_goals
    rcases hk with rfl | rfl | rfl | rfl | rfl
    all_goals
      go_enter Try.func27, Try.ntmps27
      go_wp2
      go_ret
      exact ⟨by first | rfl | simp, (Chg.refl _ _).alloc _⟩

set_option maxHeartbeats 2000000 in
theorem rmade_none {w : World} {v : Value} (k : Int) (l : ByteArray) (a b : Int) (h1 : k ≠ 2) (h2 : k ≠ 3) (h3 : k ≠ 4) (h4 : k ≠ 5) (h5 : k ≠ 6) (h6 : k ≠ 7) (h7 : k ≠ 8) (h8 : k ≠ 9) :
    Calls Try.prog 27 #[.agg #[.int .i64 k, .string l, .int .i64 a, .int .i64 b], v] w fun e w' => e = .returned (.bool false) ∧ Chg none_ w w' := by
  have b1 : (k == 2) = false := by simpa using h1
  have b2 : (k == 3) = false := by simpa using h2
  have b3 : (k == 4) = false := by simpa using h3
  have b4 : (k == 5) = false := by simpa using h4
  have b5 : (k == 6) = false := by simpa using h5
  have b6 : (k == 7) = false := by simpa using h6
  have b7 : (k == 8) = false := by simpa using h7
  have b8 : (k == 9) = false := by simpa using h8
  clear h1 h2 h3 h4 h5 h6 h7 h8
  go_enter Try.func27, Try.ntmps27
  go_wp2
  go_ret
  exact ⟨rfl, (Chg.refl _ _).alloc _⟩

set_option maxHeartbeats 2000000 in
theorem rmade_text {w : World} {v : Value} (l : ByteArray) (a b : Int) :
    Calls Try.prog 27 #[.agg #[.int .i64 2, .string l, .int .i64 a, .int .i64 b], v] w fun e w' => e = .returned (.bool true) ∧ Chg none_ w w' := by
  go_enter Try.func27, Try.ntmps27
  go_wp2
  go_ret
  exact ⟨rfl, (Chg.refl _ _).alloc _⟩

theorem rmade_calls {C : List Bool} {w : World} {g : Nat} (h : BoolBlk w g C) (hl : C.length ≤ 262145) (n : Nd) (hp : PartsIn C.length n) :
    Calls Try.prog 27 #[.agg #[.int .i64 n.kind, .string n.label, .int .i64 n.a, .int .i64 n.b], rowV g C.length] w fun e w' => e = .returned (.bool (madeB (cbI C) n)) ∧ Chg none_ w w' := by
  obtain ⟨k, l, a, b⟩ := n
  obtain ⟨hp1, hp2⟩ := hp
  dsimp only at hp1 hp2
  unfold madeB
  dsimp only
  by_cases e2 : k = 2
  · subst e2; exact rmade_text l a b
  rw [if_neg e2]
  by_cases e46 : k = 4 ∨ k = 6
  · rw [if_pos e46]; exact rmade_one h hl k l a b e46 (hp2 e46)
  rw [if_neg e46]
  by_cases e5 : k = 3 ∨ k = 5 ∨ k = 7 ∨ k = 8 ∨ k = 9
  · rw [if_pos e5]; exact rmade_two h hl k l a b e5 (hp1 e5).1 (hp1 e5).2
  rw [if_neg e5]
  exact rmade_none k l a b e2 (by omega) (by omega) (by omega) (by omega) (by omega) (by omega) (by omega)

end Go.Proofs.Ytmdfhaihbaiegaa
