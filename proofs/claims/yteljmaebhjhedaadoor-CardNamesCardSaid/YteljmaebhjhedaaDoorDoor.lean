/- What this claim reaches of a longer text of this session. -/
import Derived.Test.YteljmaebhjhedaaDoorRows
import Derived.ProofKit
import Derived.LaidMore
import Derived.OpenShut
import Derived.Stop.Joined
import Derived.Stop.LaidErr
import Derived.Lib.LaidTab
import Derived.Lib.TrailingZeros
import Derived.Lib.BitFns
import Derived.Lib.ItoaNum
import Derived.Shelf.LaysM
set_option linter.unusedVariables false
set_option linter.unusedSimpArgs false
namespace Go.Proofs.YteljmaebhjhedaaDoor
open Go.ChangeShapes Go.WideShapes Go.ChangeAt Go.RowKit
def laidL : List (String × DataW Unit) := [("math/bits.deBruijn32tab", Rows.laid_math_bits_deBruijn32tab), ("math/bits.deBruijn64tab", Rows.laid_math_bits_deBruijn64tab), ("internal/strconv.uint64pow10", Rows.laid_internal_strconv_uint64pow10)]
theorem door_met (os : Os) (args : Array Value) : laidMetH Tryd.prog laidL ((World.doorLaid Tryd.prog 4000 os).forCall (fun _ _ => 0) ⟨#[], args, []⟩).memory :=
  laidMetH_of_parts3 (fuel := 8) (laidMet_of_run' 8 (by kernel_rfl) (by kernel_rfl)) (by kernel_rfl) (by kernel_rfl)
theorem datumPow : (Rows.laid_internal_strconv_uint64pow10 : DataW Unit) = Lib.tabData .u64 Lib.pow10Tab := rfl
theorem of_laidN {W : World} (h : laidMetH Tryd.prog laidL W) : Lib.TabIs Tryd.prog W "internal/strconv.uint64pow10" .u64 Lib.pow10Tab := by
  rw [MakeChecks.laidMetH_plain _ _ _ (by kernel_rfl)] at h
  have h2 := (h.tail).tail
  rw [datumPow] at h2
  exact Lib.tabIs_of_head (g := 0) (t := (((Tryd.prog.globals[0]?).map (·.type)).getD 0)) (e := 78) (n := 20) (by kernel_rfl) (by kernel_rfl) (by kernel_rfl) (by kernel_rfl) (by kernel_rfl) (by kernel_rfl) h2
theorem g64 : Tryd.prog.globalNamed "math/bits.deBruijn64tab" = some 2 := by kernel_rfl
theorem ty64 : (Tryd.prog.globals[2]?).map (·.type) = some 91 := by kernel_rfl
theorem datum64 {H : Type} : (Rows.laid_math_bits_deBruijn64tab : DataW H) = .agg (Lib.deBruijn64tab.map fun (n : Nat) => .lit (.int .u8 n)) := rfl
theorem of_laidH {W : World} (h : laidMetH Tryd.prog laidL W) : ∀ j, j < Lib.deBruijn64tab.length → W.cell? ⟨2, j, none⟩ = some (.int .u8 (Lib.deBruijn64tab.getD j 0)) := by
  rw [MakeChecks.laidMetH_plain _ _ _ (by kernel_rfl)] at h
  obtain ⟨ps, ⟨g0, t0, cs0, f0, p0, q0, hg0, ht0, hv0, hd0, ⟨g1, t1, cs1, f1, p1, q1, hg1, ht1, hv1, hd1, _⟩, _⟩, _, _⟩ := h
  obtain rfl := Option.some.inj (g64.symm.trans hg1)
  obtain rfl := Option.some.inj (ty64.symm.trans ht1)
  obtain ⟨xs, m1, rfl, hx1, hlen, hn3, hel⟩ := DataW.trod_array Tryd.underlying91 hd1
  have c5 : Tryd.prog.cellsOf 5 = 1 := by kernel_rfl
  rw [datum64] at hx1
  simp only [Prod.mk.injEq, DataW.agg.injEq] at hx1
  intro j hj
  have hj64 : j < 64 := hj
  have h0 := hel j hj64
  rw [List.getElem?_eq_getElem (by omega), c5] at h0
  obtain ⟨k, e1, e2, _⟩ := DataW.trod_int Tryd.underlying5 h0
  have hk := congrArg (fun l => l[j]?) hx1.1
  simp only [List.getElem?_map, List.getElem?_eq_getElem (show j < xs.length by omega), List.getElem?_eq_getElem hj, Option.map_some, e2, Option.some.injEq, DataW.lit.injEq, Lit.int.injEq, true_and] at hk
  rw [World.var?_cell hg1 hv1 j, List.getD_eq_getElem?_getD, List.getElem?_eq_getElem hj, Option.getD_some, hk]
  have := congrArg (fun l => l[0]?) e1
  simp only [Nat.mul_one, List.getElem?_take, List.getElem?_drop, Nat.add_zero] at this
  simpa using this
theorem of_laid {W : World} (h : laidMetH Tryd.prog laidL W) : Lib.TabIs Tryd.prog W "internal/strconv.uint64pow10" .u64 Lib.pow10Tab ∧ ∀ j, j < Lib.deBruijn64tab.length → W.cell? ⟨2, j, none⟩ = some (.int .u8 (Lib.deBruijn64tab.getD j 0)) := ⟨of_laidN h, of_laidH h⟩
end Go.Proofs.YteljmaebhjhedaaDoor
