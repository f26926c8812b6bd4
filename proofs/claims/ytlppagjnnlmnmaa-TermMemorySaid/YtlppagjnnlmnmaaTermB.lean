/- The walk of 'right'. -/
import Derived.Test.YtlppagjnnlmnmaaTermA
import Derived.Deep.Light
set_option linter.unusedVariables false
set_option linter.unusedSimpArgs false
namespace Go.Proofs.Ytlppagjnnlmnmaa
open Go.RowKit

theorem nlen_mx {s : St} {w : World} (h : StoreAt w s) : (s.nodes.length : Int) ≤ 262144 := by have := h.len; omega

set_option maxHeartbeats 1000000 in
theorem right_atom {s : St} {w : World} (h : StoreAt w s) (l : ByteArray) (a b : Int) :
    Calls Try.prog 28 #[s.ptr, .agg #[.int .i64 1, .string l, .int .i64 a, .int .i64 b]] w fun e w' => 
      e = .returned (.bool (decide (1 ≤ a) && decide (a ≤ 1099511627776) && (decide (l.toList = []) && decide (b = 0)))) ∧ Chg none_ w w' := by
  clear h
  go_enter Try.func28, Try.ntmps28
  go_wp2
  all_goals go_ret
  all_goals go_light
  all_goals refine ⟨?_, (Chg.refl _ _).alloc _⟩
  all_goals (try (simp [*]; done))
  all_goals (simp; omega)

set_option maxHeartbeats 2000000 in
theorem right_other {s : St} {w : World} (h : StoreAt w s) (n : Nd) (hk : n.kind ≠ 1) (h8 : n.kind ≠ 8) :
    Calls Try.prog 28 #[s.ptr, n.v] w fun e w' => e = .returned (.bool (rightO s.nodes n)) ∧ Chg none_ w w' := by
  obtain ⟨k, l, a, b⟩ := n
  dsimp only at hk h8
  have hk1 : (k == 1) = false := by simpa using hk
  have hk8 : (k != 8) = true := by simpa using h8
  have hT := partsT_range k
  have hL := partsL_range k
  unfold Nd.v
  go_enter Try.func28, Try.ntmps28
  go_wp2_with (first | (go_at_call 31; refine (parts_calls _ _).mono ?_; rintro e w' ⟨rfl, rfl⟩) | (go_at_call 29; refine (known_calls (h.alloc _) _).mono ?_; rintro e w' ⟨rfl, rfl⟩))
  all_goals first
    | (refine Mix.wp_region_mix (fun _ => True) (fun i => [0, 1, 3, 7, 15, 31, 63, 127, 15, 271, 783, 2047, 4095, 8191, 16383, 32767, 65535].getD i 0) (fun i => [2, 2, 2, 2, 2, 2, 2, 2, 2, 2, 2, 2, 2, 2, 2, 2, 2].getD i 0) (by kernel_rfl) ⟨by kernel_rfl, by kernel_rfl, by kernel_rfl, by kernel_rfl, by kernel_rfl⟩ trivial ?_; simp only [Mix.whole, List.getD_cons_zero, List.getD_cons_succ, Nat.reduceAdd]
       repeat (first | (refine Mix.pin_no rfl rfl (fun K hK => ?_); go_step; refine hK _ ?_; clear hK K) | (refine Mix.pin_not rfl rfl rfl rfl (fun K hK => ?_); simp only [List.setIfInBounds_toArray, List.set_cons_zero, List.set_cons_succ]; refine hK _ ?_; clear hK K) | (refine Mix.pin_yes rfl rfl rfl rfl (fun K hK => ?_); go_step; refine hK _ ?_; clear hK K))
       refine Mix.walk_nil ?_
       go_wp2
       go_ret
       go_light
       refine ⟨?_, ((Chg.refl _ _).alloc _).drew⟩)
    | (go_ret; go_light; refine ⟨?_, (Chg.refl _ _).alloc _⟩)
  all_goals (clear hk1 hk8; try simp only [bne_iff_ne, ne_eq, bne_eq_false_iff_eq] at *)
  all_goals try (simp [rightO, *]; done)
  all_goals (simp [rightO, *]; omega)

set_option maxHeartbeats 2000000 in
theorem right_box_no {s : St} {w : World} (h : StoreAt w s) (n : Nd) (h8 : n.kind = 8)
    (hka : knownB s.nodes.length n.a = false) :
    Calls Try.prog 28 #[s.ptr, n.v] w fun e w' => e = .returned (.bool (rightO s.nodes n)) ∧ Chg none_ w w' := by
  obtain ⟨k, l, a, b⟩ := n
  dsimp only at hka h8
  subst h8
  have hL : partsL 8 = 0 := rfl
  have hT : partsT 8 = 2 := rfl
  unfold Nd.v
  go_enter Try.func28, Try.ntmps28
  go_wp2_with (first | (go_at_call 31; refine (parts_calls _ _).mono ?_; rintro e w' ⟨rfl, rfl⟩) | (go_at_call 29; refine (known_calls (h.alloc _) _).mono ?_; rintro e w' ⟨rfl, rfl⟩))
  all_goals (go_ret; go_light; exact ⟨by simp [rightO, *], (Chg.refl _ _).alloc _⟩)

set_option maxHeartbeats 2000000 in
theorem right_box_yes {s : St} {w : World} (h : StoreAt w s) (n : Nd) (h8 : n.kind = 8)
    (hka : knownB s.nodes.length n.a = true) :
    Calls Try.prog 28 #[s.ptr, n.v] w fun e w' => e = .returned (.bool (rightO s.nodes n)) ∧ Chg none_ w w' := by
  obtain ⟨k, l, a, b⟩ := n
  dsimp only at hka h8
  subst h8
  have hL : partsL 8 = 0 := rfl
  have hT : partsT 8 = 2 := rfl
  have hr : 1 ≤ a ∧ a ≤ s.nodes.length := by simpa [knownB] using hka
  obtain ⟨i, rfl⟩ : ∃ i : Nat, a = (i : Int) + 1 := ⟨(a - 1).toNat, by omega⟩
  have hi : i < s.nodes.length := by omega
  have hlen := h.len
  obtain ⟨bb, c, hs, hc⟩ := h.node hi
  have hc0 : w.cell? ⟨bb, i * 4, none⟩ = some (.int .i64 (nodeAt s.nodes ((i : Int) + 1)).kind) := by
    have := hc 0 (by omega)
    rw [show nodeAt s.nodes ((i : Int) + 1) = s.nodes[i] by unfold nodeAt; rw [show ((i : Int) + 1 - 1).toNat = i by omega, List.getD_eq_getElem?_getD, List.getElem?_eq_getElem hi]; rfl]
    simpa [Nd.cells] using this
  clear hr
  have h0 := h.cell0
  rw [hs] at h0
  have hp := h.p_lt
  have hbl : bb < w.heap.size := h.arr_lt (by rw [hs]; rfl)
  clear hc
  have H := Lib.hid hs
  clear hs
  unfold Nd.v
  go_enter Try.func28, Try.ntmps28
  go_wp2_with (first | (go_at_call 31; refine (parts_calls _ _).mono ?_; rintro e w' ⟨rfl, rfl⟩) | (go_at_call 29; refine (known_calls (h.alloc _) _).mono ?_; rintro e w' ⟨rfl, rfl⟩))
  all_goals first
    | (refine Mix.wp_region_mix (fun _ => True) (fun i => [0, 1, 3, 7, 15, 31, 63, 127, 15, 271, 783, 2047, 4095, 8191, 16383, 32767, 65535].getD i 0) (fun i => [2, 2, 2, 2, 2, 2, 2, 2, 2, 2, 2, 2, 2, 2, 2, 2, 2].getD i 0) (by kernel_rfl) ⟨by kernel_rfl, by kernel_rfl, by kernel_rfl, by kernel_rfl, by kernel_rfl⟩ trivial ?_; simp only [Mix.whole, List.getD_cons_zero, List.getD_cons_succ, Nat.reduceAdd]
       repeat (first | (refine Mix.pin_no rfl rfl (fun K hK => ?_); go_step; refine hK _ ?_; clear hK K) | (refine Mix.pin_not rfl rfl rfl rfl (fun K hK => ?_); simp only [List.setIfInBounds_toArray, List.set_cons_zero, List.set_cons_succ]; refine hK _ ?_; clear hK K) | (refine Mix.pin_yes rfl rfl rfl rfl (fun K hK => ?_); go_step; refine hK _ ?_; clear hK K))
       refine Mix.walk_nil ?_
       go_wp2
       go_ret
       go_light
       refine ⟨?_, ((Chg.refl _ _).alloc _).drew⟩)
    | (go_ret; go_light; refine ⟨?_, (Chg.refl _ _).alloc _⟩)
  all_goals (try simp only [bne_iff_ne, ne_eq, bne_eq_false_iff_eq] at *)
  all_goals try (simp [rightO, *]; done)
  all_goals (simp [rightO, *]; rw [Bool.eq_iff_iff]; simp)

theorem right_calls {s : St} {w : World} (h : StoreAt w s) (n : Nd) :
    Calls Try.prog 28 #[s.ptr, n.v] w fun e w' => e = .returned (.bool (rightB s.nodes n)) ∧ Chg none_ w w' := by
  by_cases h1 : n.kind = 1
  · obtain ⟨k, l, a, b⟩ := n
    dsimp only at h1
    subst h1
    exact right_atom h l a b
  · have e : rightB s.nodes n = rightO s.nodes n := by unfold rightB; rw [if_neg h1]
    rw [e]
    by_cases h8 : n.kind = 8
    · cases hka : knownB s.nodes.length n.a with
      | true => exact right_box_yes h n h8 hka
      | false => exact right_box_no h n h8 hka
    · exact right_other h n h1 h8

end Go.Proofs.Ytlppagjnnlmnmaa
