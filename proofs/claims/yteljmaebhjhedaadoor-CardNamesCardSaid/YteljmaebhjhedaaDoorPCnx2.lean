/- What this claim reaches of a longer text of this session. -/
import Derived.Test.YteljmaebhjhedaaDoorPCnx0
import Derived.ChangeKeysEq
import Derived.Handy
namespace Go.Proofs.YteljmaebhjhedaaDoor.PCn
open Go.RowKit Go.Proofs.YteljmaebhjhedaaDoorW.PrintWords Go.Proofs.YteljmaebhjhedaaDoorW.PrintLast Go.Proofs.YteljmaebhjhedaaDoorW.PrintMore
attribute [local go_sem] max2_int min2_int max_two min_two max_three min_three max_four min_four   -- for this text's walks alone
set_option linter.unusedVariables false
set_option linter.unusedSimpArgs false
section
variable {P : Program} {d : Nat} {xs ys : Array Value} {e c i : Nat} {is : List Nat} {a b : Value} {r s : Bool} {w : World}
theorem eqi_cons (ha : (part e xs (i * c)).run P w = .ok a w) (hb : (part e ys (i * c)).run P w = .ok b w) (he : (Op.equalIn d e a b).run P w = .ok r w) (hr : (Op.eqItems d e c xs ys is).run P w = .ok s w) : (Op.eqItems d e c xs ys (i :: is)).run P w = .ok (r && s) w := by
  simp only [Op.eqItems, Sem.run_bind, ha, hb, he, Result.andThen_ok]
  cases r
  · simp
  · simpa using hr
end
theorem eqA46 (d : Nat) (w : World) (x0 y0 : Int) (x1 y1 : Int) (x2 y2 : Int) (x3 y3 : Int) (x4 y4 : Int) :
    (Op.equalIn (d + 2) 46 (.agg #[.int .i64 x0, .int .i64 x1, .int .i64 x2, .int .i64 x3, .int .i64 x4]) (.agg #[.int .i64 y0, .int .i64 y1, .int .i64 y2, .int .i64 y3, .int .i64 y4])).run Tryd.prog w = .ok (x0 == y0 && (x1 == y1 && (x2 == y2 && (x3 == y3 && (x4 == y4))))) w := by
  obtain ⟨i0, hi⟩ : ∃ i, Tryd.prog.info? 3 = some i := by
    have hs : (Tryd.prog.info? 3).isSome = true := by kernel_rfl
    cases h : Tryd.prog.info? 3 with
    | some i => exact ⟨i, rfl⟩
    | none => rw [h] at hs; cases hs
  rw [run_equalIn_array _ (d + 1) _ _ Tryd.underlying46 hi]
  rw [show List.range 5 = [0, 1, 2, 3, 4] from rfl, show Tryd.prog.cellsOf 3 = 1 by kernel_rfl]
  refine eqi_cons (by go_simp; rfl) (by go_simp; rfl) (by go_simp) ?_
  refine eqi_cons (by go_simp; rfl) (by go_simp; rfl) (by go_simp) ?_
  refine eqi_cons (by go_simp; rfl) (by go_simp; rfl) (by go_simp) ?_
  refine eqi_cons (by go_simp; rfl) (by go_simp; rfl) (by go_simp) ?_
  rw [← Bool.and_true (x4 == y4)]
  exact eqi_cons (by go_simp; rfl) (by go_simp; rfl) (by go_simp) (by simp [Op.eqItems])
end Go.Proofs.YteljmaebhjhedaaDoor.PCn
