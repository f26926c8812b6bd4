/- Ints: are two slices of integers the same list? -/
import Derived.Test.YtlppagjnnlmnmaaBase
import Derived.Test.YtlppagjnnlmnmaaMix
set_option linter.unusedVariables false
set_option linter.unusedSimpArgs false
namespace Go.Proofs.Ytlppagjnnlmnmaa
open Go.RowKit

/-- A slice of integers, as it is read. -/
def ReadsI (w : World) (a : Option Addr) (xs : List Int) : Prop :=
  xs = [] ∨ ∃ b off, a = some ⟨b, off, none⟩ ∧ b < w.heap.size ∧ ∀ i (h : i < xs.length), w.cell? ⟨b, off + i, none⟩ = some (.int .i64 xs[i])

theorem ReadsI.chg {w w' : World} {a : Option Addr} {xs : List Int} (h : ReadsI w a xs) (hc : ∀ b, b < w.heap.size → (∃ off, a = some ⟨b, off, none⟩) → w'.heap[b]? = w.heap[b]?) (hs : w.heap.size ≤ w'.heap.size) : ReadsI w' a xs := by
  rcases h with h | ⟨b, off, rfl, hb, hx⟩
  · exact .inl h
  · exact .inr ⟨b, off, rfl, by omega, fun i hi => by rw [cell_eq (hc b hb ⟨off, rfl⟩)]; exact hx i hi⟩

def IntsRel (W : World) (xs ys : List Int) (i : Value) (w : World) : Prop := ∃ k : Nat, k ≤ xs.length ∧ i = .int .i64 k ∧ Chg none_ W w ∧ ∀ j, j < k → xs[j]? = ys[j]?

set_option maxHeartbeats 1000000 in
theorem ints_calls {w : World} {a b : Option Addr} {xs ys : List Int} (ha : ReadsI w a xs) (hb : ReadsI w b ys) (hx : xs.length ≤ maxLen) (hy : ys.length ≤ maxLen) (ca cb : Nat) :
    Calls Try.prog 26 #[.slice a xs.length ca, .slice b ys.length cb] w fun e w' => e = .returned (.bool (decide (xs = ys))) ∧ Chg none_ w w' := by
  have hxl : (xs.length : Int) ≤ 9223372036854775807 := by unfold maxLen at hx; omega
  have hyl : (ys.length : Int) ≤ 9223372036854775807 := by unfold maxLen at hy; omega
  clear hx hy
  have HA := Lib.hid ha
  have HB := Lib.hid hb
  clear ha hb
  by_cases hl : xs.length = ys.length
  · have hq : ((xs.length : Int) != (ys.length : Int)) = false := by simp [hl]
    go_enter Try.func26, Try.ntmps26
    go_wp2
    go_loopw [5] (fun i wr => IntsRel w xs ys i wr) (fun i _ => xs.length - (intOf i).toNat)
    case atStart => exact ⟨0, Nat.zero_le _, rfl, Chg.refl _ _, fun j h => absurd h (Nat.not_lt_zero _)⟩
    case round =>
      obtain ⟨k, hk, rfl, hchg, hall⟩ := hrel
      have HALL := Lib.hid hall
      have HC := Lib.hid hchg
      clear hall hchg
      by_cases hlt : k < xs.length
      · have hlt2 : k < ys.length := by omega
        rcases HA.out with h0 | ⟨b1, o1, rfl, hb1, hc1⟩
        · rw [h0] at hlt; simp at hlt
        rcases HB.out with h0 | ⟨b2, o2, rfl, hb2, hc2⟩
        · rw [h0] at hlt2; simp at hlt2
        have g1 := (HC.out.cells.1 b1 (o1 + k) hb1 (fun h => h)).trans (hc1 k hlt)
        have g2 := (HC.out.cells.1 b2 (o2 + k) hb2 (fun h => h)).trans (hc2 k hlt2)
        have hlt3 : (k : Int) < (ys.length : Int) := by omega
        have hn1 : ∀ h1 h2, xs[k]'h1 ≠ ys[k]'h2 → xs ≠ ys := fun h1 h2 hne e => by subst e; exact hne rfl
        have hn2 : ∀ h1 h2, xs[k]'h1 = ys[k]'h2 → ∀ j, j < k + 1 → xs[j]? = ys[j]? := fun h1 h2 e j hj => by
          rcases Nat.lt_or_ge j k with h3 | h3
          · exact HALL.out j h3
          · have : j = k := by omega
            subst this
            rw [List.getElem?_eq_getElem h1, List.getElem?_eq_getElem h2, e]
        have N1 := Lib.hid (hn1 hlt hlt2)
        have N2 := Lib.hid (hn2 hlt hlt2)
        clear hc1 hc2 hn1 hn2
        generalize xs[k] = x at *
        generalize ys[k] = y at *
        by_cases hxy : x = y
        · have hxy' : (x != y) = false := by simpa using hxy
          have NN := Lib.hid (N2.out hxy)
          clear hxy
          go_wp2
          refine Mix.wp_region_mix (fun _ => True) (fun i => [0, 0, 3, 7, 0, 0, 48, 112, 255].getD i 0) (fun i => [2, 2, 2, 2, 2, 2, 2, 2, 2].getD i 0) (by kernel_rfl) ⟨by kernel_rfl, by kernel_rfl, by kernel_rfl, by kernel_rfl, by kernel_rfl⟩ trivial ?_; simp only [Mix.whole, List.getD_cons_zero, List.getD_cons_succ, Nat.reduceAdd]
          repeat (first | (refine Mix.pin_no rfl rfl (fun K hK => ?_); go_step; refine hK _ ?_; clear hK K) | (refine Mix.pin_not rfl rfl rfl rfl (fun K hK => ?_); simp only [List.setIfInBounds_toArray, List.set_cons_zero, List.set_cons_succ]; refine hK _ ?_; clear hK K) | (refine Mix.pin_yes rfl rfl rfl rfl (fun K hK => ?_); go_step; refine hK _ ?_; clear hK K))
          refine Mix.walk_nil ?_
          go_wp2
          exact ⟨⟨k + 1, by omega, by go_num, HC.out.drew, NN.out⟩, by simp [intOf]; omega⟩
        · have hxy' : (x != y) = true := by simpa using hxy
          have NN := Lib.hid (N1.out hxy)
          clear hxy
          go_wp2
          refine Mix.wp_region_mix (fun _ => True) (fun i => [0, 0, 3, 7, 0, 0, 48, 112, 255].getD i 0) (fun i => [2, 2, 2, 2, 2, 2, 2, 2, 2].getD i 0) (by kernel_rfl) ⟨by kernel_rfl, by kernel_rfl, by kernel_rfl, by kernel_rfl, by kernel_rfl⟩ trivial ?_; simp only [Mix.whole, List.getD_cons_zero, List.getD_cons_succ, Nat.reduceAdd]
          repeat (first | (refine Mix.pin_no rfl rfl (fun K hK => ?_); go_step; refine hK _ ?_; clear hK K) | (refine Mix.pin_not rfl rfl rfl rfl (fun K hK => ?_); simp only [List.setIfInBounds_toArray, List.set_cons_zero, List.set_cons_succ]; refine hK _ ?_; clear hK K) | (refine Mix.pin_yes rfl rfl rfl rfl (fun K hK => ?_); go_step; refine hK _ ?_; clear hK K))
          refine Mix.walk_nil ?_
          go_wp2
          go_ret
          exact ⟨by rw [decide_eq_false NN.out]; rfl, HC.out.drew⟩
      · have he : xs = ys := List.ext_getElem? fun j => by
          rcases Nat.lt_or_ge j k with h3 | h3
          · exact HALL.out j h3
          · rw [List.getElem?_eq_none (by omega), List.getElem?_eq_none (by omega)]
        have HE := Lib.hid he
        clear he
        go_wp2
        go_ret
        exact ⟨by rw [decide_eq_true HE.out]; rfl, HC.out⟩
  · have hq : ((xs.length : Int) != (ys.length : Int)) = true := by simp; omega
    have hne : xs ≠ ys := fun e => hl (by rw [e])
    have HN := Lib.hid hne
    clear hne hl
    go_enter Try.func26, Try.ntmps26
    go_wp2
    go_ret
    exact ⟨by rw [decide_eq_false HN.out]; rfl, Chg.refl _ _⟩

end Go.Proofs.Ytlppagjnnlmnmaa
