/- What this claim reaches of a longer text of this session. -/
import Derived.Test.YteljmaebhjhedaaDoorPCax0
import Derived.Test.YteljmaebhjhedaaDoorPCax1
import Derived.Test.YteljmaebhjhedaaDoorPCax2
import Derived.Test.YteljmaebhjhedaaDoorPCax6
import Derived.Test.YteljmaebhjhedaaDoorPCax7
import Derived.Test.YteljmaebhjhedaaDoorPCax8
namespace Go.Proofs.YteljmaebhjhedaaDoor.PCa
open Go.RowKit Go.Proofs.YteljmaebhjhedaaDoorW.PrintWords Go.Proofs.YteljmaebhjhedaaDoorW.PrintLast Go.Proofs.YteljmaebhjhedaaDoorW.PrintMore
attribute [local go_sem] max2_int min2_int max_two min_two max_three min_three max_four min_four   -- for this text's walks alone
set_option linter.unusedVariables false
set_option linter.unusedSimpArgs false
set_option maxHeartbeats 8000000 in
set_option maxRecDepth 100000 in
theorem conclavelaw09_CardForged.calls (k : Nat) (a0 : Int) (a1 : Int) (a2 : Int) (r : Bool) (w : World) (hrG : TabG w) (h : conclavelaw09_CardForged.f k a0 a1 a2 = some r) (hr : r = true) :
    Calls Tryd.prog 3 #[.int .i64 a0, .int .i64 a1, .int .i64 a2] w fun e w' => e = .returned (.bool r) ∧ Below w.heap.size w w' := by
  rcases (by omega : (a0 = 0 ∨ a0 = 1 ∨ a0 = 2) ∨ (¬ (a0 = 0 ∨ a0 = 1 ∨ a0 = 2))) with hP | hP
  · exact conclavelaw09_CardForged_P1.calls (k := k) (a0 := a0) (a1 := a1) (a2 := a2) (r := r) (w := w) (hrG := hrG) (h := h) (hr := hr) (hP := hP)
  · exact conclavelaw09_CardForged_P2.calls (k := k) (a0 := a0) (a1 := a1) (a2 := a2) (r := r) (w := w) (hrG := hrG) (h := h) (hr := hr) (hP := hP)
def conclavelaw09_CardForged.Pure : Prop := ∀ (a0 : Int) (a1 : Int) (a2 : Int), (Lit.int .i64 a0).wf = true → (Lit.int .i64 a1).wf = true → (Lit.int .i64 a2).wf = true → ∃ k, conclavelaw09_CardForged.f k a0 a1 a2 = some true
theorem conclavelaw09_CardForged.walk (P : conclavelaw09_CardForged.Pure) (a0 : Int) (a1 : Int) (a2 : Int) (w : World) (hrG : TabG w) (w0 : (Lit.int .i64 a0).wf = true) (w1 : (Lit.int .i64 a1).wf = true) (w2 : (Lit.int .i64 a2).wf = true) :
    Calls Tryd.prog 3 #[.int .i64 a0, .int .i64 a1, .int .i64 a2] w fun e w' => e = .returned (.bool true) ∧ Below w.heap.size w w' := by
  obtain ⟨k, h⟩ := P a0 a1 a2 w0 w1 w2
  refine (conclavelaw09_CardForged.calls (hrG := hrG) k a0 a1 a2 true w h rfl).mono ?_
  rintro e w' ⟨rfl, hd⟩
  exact ⟨rfl, hd⟩
end Go.Proofs.YteljmaebhjhedaaDoor.PCa
