/- What this claim reaches of a longer text of this session. -/
import Derived.Test.YteljmaebhjhedaaDoorPCax0
import Derived.Test.YteljmaebhjhedaaDoorPCax1
import Derived.Test.YteljmaebhjhedaaDoorPCax2
import Derived.Test.YteljmaebhjhedaaDoorPCax3
import Derived.Test.YteljmaebhjhedaaDoorPCax4
import Derived.Test.YteljmaebhjhedaaDoorPCax5
namespace Go.Proofs.YteljmaebhjhedaaDoor.PCa
open Go.RowKit Go.Proofs.YteljmaebhjhedaaDoorW.PrintWords Go.Proofs.YteljmaebhjhedaaDoorW.PrintLast Go.Proofs.YteljmaebhjhedaaDoorW.PrintMore
attribute [local go_sem] max2_int min2_int max_two min_two max_three min_three max_four min_four   -- for this text's walks alone
set_option linter.unusedVariables false
set_option linter.unusedSimpArgs false
theorem obj_modify_comp (h : Array Obj) (b : Nat) (f g : Obj → Obj) : (h.modify b f).modify b g = h.modify b (fun o => g (f o)) := by
  apply Array.ext_getElem?
  intro k
  simp only [Array.getElem?_modify]
  by_cases hk : b = k
  · simp only [hk, if_true]
    cases h[k]? <;> rfl
  · simp only [hk, if_false]
theorem setC_same (w : World) (b o : Nat) (x y : Value) : (w.setCell ⟨b, o, none⟩ x).setCell ⟨b, o, none⟩ y = w.setCell ⟨b, o, none⟩ y := by
  unfold World.setCell
  dsimp only
  rw [obj_modify_comp]
  congr 2
  funext o
  cases o <;> simp
theorem setC_comm (w : World) (b : Nat) {o p : Nat} (h : o ≠ p) (x y : Value) : (w.setCell ⟨b, o, none⟩ x).setCell ⟨b, p, none⟩ y = (w.setCell ⟨b, p, none⟩ y).setCell ⟨b, o, none⟩ x := by
  unfold World.setCell
  dsimp only
  rw [obj_modify_comp, obj_modify_comp]
  congr 2
  funext q
  cases q <;> simp
  exact Array.setIfInBounds_comm _ _ h
theorem six_1 (w : World) (b : Nat) (x0 x1 x2 x3 x4 x5 y : Value) : ((((((w.setCell ⟨b, 0, none⟩ x0).setCell ⟨b, 1, none⟩ x1).setCell ⟨b, 2, none⟩ x2).setCell ⟨b, 3, none⟩ x3).setCell ⟨b, 4, none⟩ x4).setCell ⟨b, 5, none⟩ x5).setCell ⟨b, 1, none⟩ y = (((((w.setCell ⟨b, 0, none⟩ x0).setCell ⟨b, 1, none⟩ y).setCell ⟨b, 2, none⟩ x2).setCell ⟨b, 3, none⟩ x3).setCell ⟨b, 4, none⟩ x4).setCell ⟨b, 5, none⟩ x5 := by
  rw [setC_comm _ _ (show 5 ≠ 1 by decide), setC_comm _ _ (show 4 ≠ 1 by decide), setC_comm _ _ (show 3 ≠ 1 by decide), setC_comm _ _ (show 2 ≠ 1 by decide), setC_same]
theorem six_2 (w : World) (b : Nat) (x0 x1 x2 x3 x4 x5 y : Value) : ((((((w.setCell ⟨b, 0, none⟩ x0).setCell ⟨b, 1, none⟩ x1).setCell ⟨b, 2, none⟩ x2).setCell ⟨b, 3, none⟩ x3).setCell ⟨b, 4, none⟩ x4).setCell ⟨b, 5, none⟩ x5).setCell ⟨b, 2, none⟩ y = (((((w.setCell ⟨b, 0, none⟩ x0).setCell ⟨b, 1, none⟩ x1).setCell ⟨b, 2, none⟩ y).setCell ⟨b, 3, none⟩ x3).setCell ⟨b, 4, none⟩ x4).setCell ⟨b, 5, none⟩ x5 := by
  rw [setC_comm _ _ (show 5 ≠ 2 by decide), setC_comm _ _ (show 4 ≠ 2 by decide), setC_comm _ _ (show 3 ≠ 2 by decide), setC_same]
theorem six_3 (w : World) (b : Nat) (x0 x1 x2 x3 x4 x5 y : Value) : ((((((w.setCell ⟨b, 0, none⟩ x0).setCell ⟨b, 1, none⟩ x1).setCell ⟨b, 2, none⟩ x2).setCell ⟨b, 3, none⟩ x3).setCell ⟨b, 4, none⟩ x4).setCell ⟨b, 5, none⟩ x5).setCell ⟨b, 3, none⟩ y = (((((w.setCell ⟨b, 0, none⟩ x0).setCell ⟨b, 1, none⟩ x1).setCell ⟨b, 2, none⟩ x2).setCell ⟨b, 3, none⟩ y).setCell ⟨b, 4, none⟩ x4).setCell ⟨b, 5, none⟩ x5 := by
  rw [setC_comm _ _ (show 5 ≠ 3 by decide), setC_comm _ _ (show 4 ≠ 3 by decide), setC_same]
theorem six_4 (w : World) (b : Nat) (x0 x1 x2 x3 x4 x5 y : Value) : ((((((w.setCell ⟨b, 0, none⟩ x0).setCell ⟨b, 1, none⟩ x1).setCell ⟨b, 2, none⟩ x2).setCell ⟨b, 3, none⟩ x3).setCell ⟨b, 4, none⟩ x4).setCell ⟨b, 5, none⟩ x5).setCell ⟨b, 4, none⟩ y = (((((w.setCell ⟨b, 0, none⟩ x0).setCell ⟨b, 1, none⟩ x1).setCell ⟨b, 2, none⟩ x2).setCell ⟨b, 3, none⟩ x3).setCell ⟨b, 4, none⟩ y).setCell ⟨b, 5, none⟩ x5 := by
  rw [setC_comm _ _ (show 5 ≠ 4 by decide), setC_same]
theorem six_5 (w : World) (b : Nat) (x0 x1 x2 x3 x4 x5 y : Value) : ((((((w.setCell ⟨b, 0, none⟩ x0).setCell ⟨b, 1, none⟩ x1).setCell ⟨b, 2, none⟩ x2).setCell ⟨b, 3, none⟩ x3).setCell ⟨b, 4, none⟩ x4).setCell ⟨b, 5, none⟩ x5).setCell ⟨b, 5, none⟩ y = (((((w.setCell ⟨b, 0, none⟩ x0).setCell ⟨b, 1, none⟩ x1).setCell ⟨b, 2, none⟩ x2).setCell ⟨b, 3, none⟩ x3).setCell ⟨b, 4, none⟩ x4).setCell ⟨b, 5, none⟩ y := setC_same _ _ _ _ _
attribute [local go_sem high] eqA30
def conclavelaw09_CardForged.j0 : Nat → Int → Int → Int → Bool → Option (Bool)
  | 0, _, _, _, _ => none
  | k + 1, x0, x1, x2, x24 => if x24 = true then (some true) else ((conclavelaw09_stores.f 9).bind fun t212 => ((term_Store_Pub.f t212 4).bind fun bt214 => ((term_Store_Pub.f bt214.2 1).bind fun bt216 => ((term_Store_Pub.f bt216.2 5).bind fun bt218 => ((some (([bt214.1, bt216.1, bt218.1] : List Int) : List Int)).bind fun y220 => ((card_Make.f k bt218.2 1 1 2 3 7).bind fun bt223 => (if x0 = 0 then ((card_Check.f k bt223.2.2.2.2.2.2 x1 bt223.2.1 bt223.2.2.1 bt223.2.2.2.1 bt223.2.2.2.2.1 bt223.2.2.2.2.2.1 x2 y220).bind fun bt232 => (if ((bt232.1 == 0) == (bt223.1 == x1)) = true then (if bt232.1 = 0 then (some true) else (some (bt232.1 == 90))) else (some false))) else (if x0 = 1 then ((card_Check.f k bt223.2.2.2.2.2.2 bt223.1 x1 bt223.2.2.1 bt223.2.2.2.1 bt223.2.2.2.2.1 bt223.2.2.2.2.2.1 x2 y220).bind fun bt234 => (if ((bt234.1 == 0) == (bt223.2.1 == x1)) = true then (if bt234.1 = 0 then (some true) else (some (bt234.1 == 90))) else (some false))) else (if x0 = 2 then ((card_Check.f k bt223.2.2.2.2.2.2 bt223.1 bt223.2.1 x1 bt223.2.2.2.1 bt223.2.2.2.2.1 bt223.2.2.2.2.2.1 x2 y220).bind fun bt236 => (if ((bt236.1 == 0) == (bt223.2.2.1 == x1)) = true then (if bt236.1 = 0 then (some true) else (some (bt236.1 == 90))) else (some false))) else (if x0 = 3 then ((card_Check.f k bt223.2.2.2.2.2.2 bt223.1 bt223.2.1 bt223.2.2.1 x1 bt223.2.2.2.2.1 bt223.2.2.2.2.2.1 x2 y220).bind fun bt238 => (if ((bt238.1 == 0) == (bt223.2.2.2.1 == x1)) = true then (if bt238.1 = 0 then (some true) else (some (bt238.1 == 90))) else (some false))) else (if x0 = 4 then ((card_Check.f k bt223.2.2.2.2.2.2 bt223.1 bt223.2.1 bt223.2.2.1 bt223.2.2.2.1 x1 bt223.2.2.2.2.2.1 x2 y220).bind fun bt240 => (if ((bt240.1 == 0) == (bt223.2.2.2.2.1 == x1)) = true then (if bt240.1 = 0 then (some true) else (some (bt240.1 == 90))) else (some false))) else (if x0 = 5 then ((card_Check.f k bt223.2.2.2.2.2.2 bt223.1 bt223.2.1 bt223.2.2.1 bt223.2.2.2.1 bt223.2.2.2.2.1 x1 x2 y220).bind fun bt242 => (if ((bt242.1 == 0) == (bt223.2.2.2.2.2.1 == x1)) = true then (if bt242.1 = 0 then (some true) else (some (bt242.1 == 90))) else (some false))) else ((card_Check.f k bt223.2.2.2.2.2.2 bt223.1 bt223.2.1 bt223.2.2.1 bt223.2.2.2.1 bt223.2.2.2.2.1 bt223.2.2.2.2.2.1 x2 y220).bind fun bt244 => (if ((bt244.1 == 0) == true) = true then (if bt244.1 = 0 then (some true) else (some (bt244.1 == 90))) else (some false)))))))))))))))
def conclavelaw09_CardForged.f (k : Nat) (a0 : Int) (a1 : Int) (a2 : Int) : Option (Bool) := (conclavelaw09_anchor.f k).bind fun t211 => (if t211 = true then (if a0 < 0 then (conclavelaw09_CardForged.j0 k a0 a1 a2 true) else (if a0 > 5 then (conclavelaw09_CardForged.j0 k a0 a1 a2 true) else (conclavelaw09_CardForged.j0 k a0 a1 a2 (decide (a2 > 7))))) else (some false))
theorem conclavelaw09_CardForged.mono_l : ∀ k, (∀ y0 y1 y2 y3, LeO (conclavelaw09_CardForged.j0 k y0 y1 y2 y3) (conclavelaw09_CardForged.j0 (k + 1) y0 y1 y2 y3))
  | 0 => fun _ _ _ _ r h => by simp [conclavelaw09_CardForged.j0] at h
  | k + 1 => by
    have ih0 := conclavelaw09_CardForged.mono_l k
    · intro y0 y1 y2 y3
      unfold conclavelaw09_CardForged.j0
      repeat' first
      | (with_reducible exact ih0 _ _ _ _)
      | (with_reducible exact card_Check.mono _ _ _ _ _ _ _ _ _ _)
      | (with_reducible exact card_Make.mono _ _ _ _ _ _ _)
      | (with_reducible exact conclavelaw09_anchor.mono _)
      | (with_reducible exact LeO.refl _)
      | (with_reducible exact LeO.none _)
      | (with_reducible refine LeO.ite ?_ ?_)
      | (with_reducible refine LeO.bind ?_ (fun _ => ?_))
      | exact ih0 _ _ _ _
      | exact card_Check.mono _ _ _ _ _ _ _ _ _ _
      | exact card_Make.mono _ _ _ _ _ _ _
      | exact conclavelaw09_anchor.mono _
      | exact LeO.none _
      | refine LeO.ite ?_ ?_
      | refine LeO.bind ?_ (fun _ => ?_)
theorem conclavelaw09_CardForged.mono : ∀ a0 a1 a2 k, LeO (conclavelaw09_CardForged.f k a0 a1 a2) (conclavelaw09_CardForged.f (k + 1) a0 a1 a2) := by
  intro a0 a1 a2 k
  have ih0 := conclavelaw09_CardForged.mono_l k
  unfold conclavelaw09_CardForged.f
  repeat' first
      | (with_reducible exact ih0 _ _ _ _)
      | (with_reducible exact card_Check.mono _ _ _ _ _ _ _ _ _ _)
      | (with_reducible exact card_Make.mono _ _ _ _ _ _ _)
      | (with_reducible exact conclavelaw09_anchor.mono _)
      | (with_reducible exact LeO.refl _)
      | (with_reducible exact LeO.none _)
      | (with_reducible refine LeO.ite ?_ ?_)
      | (with_reducible refine LeO.bind ?_ (fun _ => ?_))
      | exact ih0 _ _ _ _
      | exact card_Check.mono _ _ _ _ _ _ _ _ _ _
      | exact card_Make.mono _ _ _ _ _ _ _
      | exact conclavelaw09_anchor.mono _
      | exact LeO.none _
      | refine LeO.ite ?_ ?_
      | refine LeO.bind ?_ (fun _ => ?_)
end Go.Proofs.YteljmaebhjhedaaDoor.PCa
