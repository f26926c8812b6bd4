/- What this claim reaches of a longer text of this session. -/
import Derived.Test.YteljmaebhjhedaaDoorPCnx0
import Derived.Deep.Slices
import Derived.Deep.Fields
import Derived.ChangeSame
import Derived.ChangeShapes
import Derived.WideShapes
import Derived.DataShut
import Derived.OpenShut
set_option linter.unusedVariables false
set_option linter.unusedSimpArgs false
namespace Go.Proofs.YteljmaebhjhedaaDoor
open Go.ChangeShapes Go.WideShapes Go.Deep Go.RowKit Go.Proofs.YteljmaebhjhedaaDoorW.PrintWords Go.Proofs.YteljmaebhjhedaaDoor.PCn
section
variable {H : Type} {enc : TypeId × Value → H} {P : Program} {w : World} {base b0 : Nat} {r : Reach} {spare : Nat → Bool} {held : Bool}
theorem open_arr_ints {t e : TypeId} {n : Nat} {v : Value} {d : DataW H} {p : List MemPlace} (hs : P.underlying t = some (.array n e)) (hC : P.cellsOf t = n) (he : P.underlying e = some (.int .i64)) (hc : P.cellsOf e = 1)
    (hv : Value.okWide P w r b0 t v) (h : DataW.Trod enc P w base spare held t v d p) :
    ∃ cs : Array Value, v = .agg cs ∧ cs.size = n ∧ ∀ j, j < n → ∃ a : Int, cs[j]? = some (.int .i64 a) ∧ (Lit.int .i64 a).wf = true := by
  obtain ⟨cs, rfl, hsz⟩ : ∃ cs, v = .agg cs ∧ cs.size = P.cellsOf t := by
    simp only [Value.okWide, hs] at hv
    obtain ⟨cs, h1, h2, _⟩ := hv
    exact ⟨cs, h1, h2⟩
  obtain ⟨fuel, hf⟩ := h
  obtain ⟨xs, m, _, hx, hl, hxl, hfl⟩ := DataW.trod_array hs hf
  refine ⟨cs, rfl, hsz.trans hC, fun j hj => ?_⟩
  have hcl : cs.size = n := hsz.trans hC
  have h1 := hfl j hj
  rw [hc, Nat.mul_one] at h1
  have e1 : ((Value.agg cs).cells.toList.drop j).take 1 = [cs[j]'(by omega)] := by
    simp only [Value.cells]
    rw [List.drop_eq_getElem_cons (by simp; omega)]
    simp
  rw [e1] at h1
  have h2 := h1.trans (List.getElem?_eq_getElem (by omega))
  obtain ⟨a, ha, _, hw⟩ := DataW.trod_int he h2
  simp at ha
  exact ⟨a, by rw [Array.getElem?_eq_getElem (by omega), ha], hw⟩
end
end Go.Proofs.YteljmaebhjhedaaDoor
