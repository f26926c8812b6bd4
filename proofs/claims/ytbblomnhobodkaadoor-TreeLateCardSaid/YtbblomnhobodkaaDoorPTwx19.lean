/- What this claim reaches of a longer text of this session. -/
import Derived.Test.YtbblomnhobodkaaDoorPTwx0
import Derived.Test.YtbblomnhobodkaaDoorPTwx13
import Derived.Test.YtbblomnhobodkaaDoorPTwx14
import Derived.Test.YtbblomnhobodkaaDoorPTwx17
import Derived.Test.YtbblomnhobodkaaDoorPTwx18
namespace Go.Proofs.YtbblomnhobodkaaDoor.PTw
open Go.RowKit Go.Proofs.YtbblomnhobodkaaDoorW.PrintWords Go.Proofs.YtbblomnhobodkaaDoorW.PrintLast Go.Proofs.YtbblomnhobodkaaDoorW.PrintMore
attribute [local go_sem] max2_int min2_int max_two min_two max_three min_three max_four min_four   -- for this text's walks alone
set_option linter.unusedVariables false
set_option linter.unusedSimpArgs false
def conclavelaw04_grown.l0 : Nat → List (S29) → List (S32) → Int → Int → Option ((List (S29)))
  | 0, _, _, _, _ => none
  | k + 1, x5, x13, x14, x15 => if x15 < x14 then (if 0 ≤ x15 then (if x15 < (x13.length : Int) then (if x15 ≥ 300 then (some x5) else (if ((rd_T32 x13 x15).f0) = 1 then ((conclaveref04_Add.f k x5 ((rd_T32 x13 x15).f2.f0) ((rd_T32 x13 x15).f2.f1) ((rd_T32 x13 x15).f2.f2) ((rd_T32 x13 x15).f2.f3) ((rd_T32 x13 x15).f2.f4) ((rd_T32 x13 x15).f2.f5)).bind fun bt525 => (if (bt525.1.length : Int) > 0 then (conclavelaw04_grown.l0 k bt525.1 x13 x14 (wrap64 (x15 + 1))) else (conclavelaw04_grown.l0 k x5 x13 x14 (wrap64 (x15 + 1))))) else (if ((rd_T32 x13 x15).f0) = 2 then ((conclaveref04_Update.f k x5 ((rd_T32 x13 x15).f1) ((rd_T32 x13 x15).f2.f0) ((rd_T32 x13 x15).f2.f1) ((rd_T32 x13 x15).f2.f2) ((rd_T32 x13 x15).f2.f3) ((rd_T32 x13 x15).f2.f4) ((rd_T32 x13 x15).f2.f5)).bind fun bt530 => (if (bt530.1.length : Int) > 0 then (conclavelaw04_grown.l0 k bt530.1 x13 x14 (wrap64 (x15 + 1))) else (conclavelaw04_grown.l0 k x5 x13 x14 (wrap64 (x15 + 1))))) else (if ((rd_T32 x13 x15).f0) = 3 then ((conclaveref04_Remove.f k x5 ((rd_T32 x13 x15).f1)).bind fun bt534 => (if (bt534.1.length : Int) > 0 then (conclavelaw04_grown.l0 k bt534.1 x13 x14 (wrap64 (x15 + 1))) else (conclavelaw04_grown.l0 k x5 x13 x14 (wrap64 (x15 + 1))))) else (if ((rd_T32 x13 x15).f0) = 4 then ((conclavelaw04_keys.f k x5 ((rd_T32 x13 x15).f0) ((rd_T32 x13 x15).f1) ((rd_T32 x13 x15).f2.f0) ((rd_T32 x13 x15).f2.f1) ((rd_T32 x13 x15).f2.f2) ((rd_T32 x13 x15).f2.f3) ((rd_T32 x13 x15).f2.f4) ((rd_T32 x13 x15).f2.f5) 0).bind fun t538 => ((conclaveref04_Merge.f k x5 ((rd_T32 x13 x15).f1) ((rd_T32 x13 x15).f2.f0) ((rd_T32 x13 x15).f2.f1) ((rd_T32 x13 x15).f2.f2) ((rd_T32 x13 x15).f2.f3) ((rd_T32 x13 x15).f2.f4) ((rd_T32 x13 x15).f2.f5) t538 t538).bind fun bt541 => (if (bt541.1.length : Int) > 0 then (conclavelaw04_grown.l0 k bt541.1 x13 x14 (wrap64 (x15 + 1))) else (conclavelaw04_grown.l0 k x5 x13 x14 (wrap64 (x15 + 1)))))) else (if (([] : List (S29)).length : Int) > 0 then (conclavelaw04_grown.l0 k ([] : List (S29)) x13 x14 (wrap64 (x15 + 1))) else (conclavelaw04_grown.l0 k x5 x13 x14 (wrap64 (x15 + 1))))))))) else (none)) else (none)) else (some x5)
def conclavelaw04_grown.f (k : Nat) (a0_0 : Bool) (a0_1 : Int) (a0_2 : Int) (a0_3 : Int) (a0_4 : Int) (l0_5 : List Int) (l1 : List (S32)) : Option ((List (S29))) := (conclaveref04_Leaf.f a0_0 a0_1 a0_2 a0_3 a0_4 l0_5).bind fun bt512 => (conclavelaw04_grown.l0 k (([(⟨bt512.1, bt512.2.1, bt512.2.2.1, bt512.2.2.2.1, bt512.2.2.2.2.1, bt512.2.2.2.2.2⟩ : S29)] : List (S29))) l1 (l1.length : Int) 0)
theorem conclavelaw04_grown.mono_l : ∀ k, (∀ y0 y1 y2 y3, LeO (conclavelaw04_grown.l0 k y0 y1 y2 y3) (conclavelaw04_grown.l0 (k + 1) y0 y1 y2 y3))
  | 0 => fun _ _ _ _ r h => by simp [conclavelaw04_grown.l0] at h
  | k + 1 => by
    have ih0 := conclavelaw04_grown.mono_l k
    · intro y0 y1 y2 y3
      unfold conclavelaw04_grown.l0
      repeat' first
      | (with_reducible exact ih0 _ _ _ _)
      | (with_reducible exact conclavelaw04_keys.mono _ _ _ _ _ _ _ _ _ _ _)
      | (with_reducible exact conclaveref04_Add.mono _ _ _ _ _ _ _ _)
      | (with_reducible exact conclaveref04_Merge.mono _ _ _ _ _ _ _ _ _ _ _)
      | (with_reducible exact conclaveref04_Remove.mono _ _ _)
      | (with_reducible exact conclaveref04_Update.mono _ _ _ _ _ _ _ _ _)
      | (with_reducible exact LeO.refl _)
      | (with_reducible exact LeO.none _)
      | (with_reducible refine LeO.ite ?_ ?_)
      | (with_reducible refine LeO.bind ?_ (fun _ => ?_))
      | exact ih0 _ _ _ _
      | exact conclavelaw04_keys.mono _ _ _ _ _ _ _ _ _ _ _
      | exact conclaveref04_Add.mono _ _ _ _ _ _ _ _
      | exact conclaveref04_Merge.mono _ _ _ _ _ _ _ _ _ _ _
      | exact conclaveref04_Remove.mono _ _ _
      | exact conclaveref04_Update.mono _ _ _ _ _ _ _ _ _
      | exact LeO.none _
      | refine LeO.ite ?_ ?_
      | refine LeO.bind ?_ (fun _ => ?_)
theorem conclavelaw04_grown.mono : ∀ a0 a1 a2 a3 a4 a5 a6 k, LeO (conclavelaw04_grown.f k a0 a1 a2 a3 a4 a5 a6) (conclavelaw04_grown.f (k + 1) a0 a1 a2 a3 a4 a5 a6) := by
  intro a0 a1 a2 a3 a4 a5 a6 k
  have ih0 := conclavelaw04_grown.mono_l k
  unfold conclavelaw04_grown.f
  repeat' first
      | (with_reducible exact ih0 _ _ _ _)
      | (with_reducible exact conclavelaw04_keys.mono _ _ _ _ _ _ _ _ _ _ _)
      | (with_reducible exact conclaveref04_Add.mono _ _ _ _ _ _ _ _)
      | (with_reducible exact conclaveref04_Merge.mono _ _ _ _ _ _ _ _ _ _ _)
      | (with_reducible exact conclaveref04_Remove.mono _ _ _)
      | (with_reducible exact conclaveref04_Update.mono _ _ _ _ _ _ _ _ _)
      | (with_reducible exact LeO.refl _)
      | (with_reducible exact LeO.none _)
      | (with_reducible refine LeO.ite ?_ ?_)
      | (with_reducible refine LeO.bind ?_ (fun _ => ?_))
      | exact ih0 _ _ _ _
      | exact conclavelaw04_keys.mono _ _ _ _ _ _ _ _ _ _ _
      | exact conclaveref04_Add.mono _ _ _ _ _ _ _ _
      | exact conclaveref04_Merge.mono _ _ _ _ _ _ _ _ _ _ _
      | exact conclaveref04_Remove.mono _ _ _
      | exact conclaveref04_Update.mono _ _ _ _ _ _ _ _ _
      | exact LeO.none _
      | refine LeO.ite ?_ ?_
      | refine LeO.bind ?_ (fun _ => ?_)
end Go.Proofs.YtbblomnhobodkaaDoor.PTw
