/- What this claim reaches of a longer text of this session. -/
import Derived.Test.YteoamlnnaabomaaDoorPSbx0
import Derived.Test.YteoamlnnaabomaaDoorPSbx1
import Derived.Test.YteoamlnnaabomaaDoorPSbx4
import Derived.Test.YteoamlnnaabomaaDoorPSbx5
import Derived.Test.YteoamlnnaabomaaDoorPSbx6
import Derived.Test.YteoamlnnaabomaaDoorPSbx7
import Derived.Test.YteoamlnnaabomaaDoorPSbx8
import Derived.Test.YteoamlnnaabomaaDoorPSbx9
namespace Go.Proofs.YteoamlnnaabomaaDoor.PSb
open Go.RowKit Go.Proofs.YteoamlnnaabomaaDoorW.PrintWords Go.Proofs.YteoamlnnaabomaaDoorW.PrintLast Go.Proofs.YteoamlnnaabomaaDoorW.PrintMore
attribute [local go_sem] max2_int min2_int max_two min_two max_three min_three max_four min_four   -- for this text's walks alone
set_option linter.unusedVariables false
set_option linter.unusedSimpArgs false
set_option maxHeartbeats 8000000 in
set_option maxRecDepth 100000 in
theorem conclavelaw07_ScheduleBinds.calls (k : Nat) (A0 : Option Addr) (c0 : Nat) (l0 : List Int) (A1 : Option Addr) (c1 : Nat) (l1 : List Int) (r : Bool) (w : World) (hrG : TabG w) (hr0 : Kd.C (Kd.int .i64) w A0 l0.length l0) (hc0 : l0.length ≤ c0) (hr1 : Kd.C (Kd.int .i64) w A1 l1.length l1) (hc1 : l1.length ≤ c1) (h : conclavelaw07_ScheduleBinds.f k l0 l1 = some r) (hr : r = true) :
    Calls Tryd.prog 4 #[.slice A0 l0.length c0, .slice A1 l1.length c1] w fun e w' => e = .returned (.bool r) ∧ Below w.heap.size w w' := by
  rcases (by omega : ((rd l0 0) = (rd l1 0) ∧ (rd l0 1) = (rd l1 1) ∧ (rd l0 3) = (rd l1 3)) ∨ ((rd l0 0) = (rd l1 0) ∧ (rd l0 1) = (rd l1 1) ∧ ¬ (rd l0 3) = (rd l1 3)) ∨ ((rd l0 0) = (rd l1 0) ∧ ¬ (rd l0 1) = (rd l1 1)) ∨ (¬ (rd l0 0) = (rd l1 0))) with hP | hP | hP | hP
  · exact conclavelaw07_ScheduleBinds_P1.calls (k := k) (A0 := A0) (c0 := c0) (l0 := l0) (A1 := A1) (c1 := c1) (l1 := l1) (r := r) (w := w) (hrG := hrG) (hr0 := hr0) (hc0 := hc0) (hr1 := hr1) (hc1 := hc1) (h := h) (hr := hr) (hP := hP)
  · exact conclavelaw07_ScheduleBinds_P2.calls (k := k) (A0 := A0) (c0 := c0) (l0 := l0) (A1 := A1) (c1 := c1) (l1 := l1) (r := r) (w := w) (hrG := hrG) (hr0 := hr0) (hc0 := hc0) (hr1 := hr1) (hc1 := hc1) (h := h) (hr := hr) (hP := hP)
  · exact conclavelaw07_ScheduleBinds_P3.calls (k := k) (A0 := A0) (c0 := c0) (l0 := l0) (A1 := A1) (c1 := c1) (l1 := l1) (r := r) (w := w) (hrG := hrG) (hr0 := hr0) (hc0 := hc0) (hr1 := hr1) (hc1 := hc1) (h := h) (hr := hr) (hP := hP)
  · exact conclavelaw07_ScheduleBinds_P4.calls (k := k) (A0 := A0) (c0 := c0) (l0 := l0) (A1 := A1) (c1 := c1) (l1 := l1) (r := r) (w := w) (hrG := hrG) (hr0 := hr0) (hc0 := hc0) (hr1 := hr1) (hc1 := hc1) (h := h) (hr := hr) (hP := hP)
def conclavelaw07_ScheduleBinds.Pure : Prop := ∀ (l0 : List Int) (l1 : List Int), l0.length ≤ maxLen → l0.length * 8 ≤ 140737488351232 → (∀ x ∈ l0, (Lit.int .i64 x).wf = true) → l1.length ≤ maxLen → l1.length * 8 ≤ 140737488351232 → (∀ x ∈ l1, (Lit.int .i64 x).wf = true) → ∃ k, conclavelaw07_ScheduleBinds.f k l0 l1 = some true
theorem conclavelaw07_ScheduleBinds.walk (P : conclavelaw07_ScheduleBinds.Pure) (a0 : Option Addr) (len0 cap0 : Nat) (z0 : List Int) (a1 : Option Addr) (len1 cap1 : Nat) (z1 : List Int) (w : World) (hrG : TabG w) (w0 : (a0 = none ∧ len0 = 0 ∧ cap0 = 0 ∧ z0 = []) ∨ ∃ x, a0 = some x ∧ len0 ≤ cap0 ∧ cap0 ≤ maxLen ∧ z0.length = cap0 ∧ (∀ i, i < z0.length → w.cell? (x.add i) = some (.int .i64 (z0.getD i 0))) ∧ ∀ n ∈ z0, (Lit.int .i64 n).wf = true) (y0 : len0 * 8 ≤ 140737488351232) (w1 : (a1 = none ∧ len1 = 0 ∧ cap1 = 0 ∧ z1 = []) ∨ ∃ x, a1 = some x ∧ len1 ≤ cap1 ∧ cap1 ≤ maxLen ∧ z1.length = cap1 ∧ (∀ i, i < z1.length → w.cell? (x.add i) = some (.int .i64 (z1.getD i 0))) ∧ ∀ n ∈ z1, (Lit.int .i64 n).wf = true) (y1 : len1 * 8 ≤ 140737488351232) :
    Calls Tryd.prog 4 #[.slice a0 len0 cap0, .slice a1 len1 cap1] w fun e w' => e = .returned (.bool true) ∧ Below w.heap.size w w' := by
  obtain ⟨l0, rfl, hr0, hm0, hw0, hc0⟩ := ReadsInt.ofRowC w0
  obtain ⟨l1, rfl, hr1, hm1, hw1, hc1⟩ := ReadsInt.ofRowC w1
  obtain ⟨k, h⟩ := P l0 l1 hm0 y0 hw0 hm1 y1 hw1
  refine (conclavelaw07_ScheduleBinds.calls (hrG := hrG) k _ _ l0 _ _ l1 true w (Kd.C_of_reads (d := (0 : Int)) (h1 := fun _ => rfl) hr0) hc0 (Kd.C_of_reads (d := (0 : Int)) (h1 := fun _ => rfl) hr1) hc1 h rfl).mono ?_
  rintro e w' ⟨rfl, hd⟩
  exact ⟨rfl, hd⟩
end Go.Proofs.YteoamlnnaabomaaDoor.PSb
