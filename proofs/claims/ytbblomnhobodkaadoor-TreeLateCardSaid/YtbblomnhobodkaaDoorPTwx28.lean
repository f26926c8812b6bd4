/- What this claim reaches of a longer text of this session. -/
import Derived.Test.YtbblomnhobodkaaDoorPTwx0
import Derived.Test.YtbblomnhobodkaaDoorPTwx5
import Derived.Test.YtbblomnhobodkaaDoorPTwx7
import Derived.Test.YtbblomnhobodkaaDoorPTwx8
import Derived.Test.YtbblomnhobodkaaDoorPTwx13
import Derived.Test.YtbblomnhobodkaaDoorPTwx21
import Derived.Test.YtbblomnhobodkaaDoorPTwx27
namespace Go.Proofs.YtbblomnhobodkaaDoor.PTw
open Go.RowKit Go.Proofs.YtbblomnhobodkaaDoorW.PrintWords Go.Proofs.YtbblomnhobodkaaDoorW.PrintLast Go.Proofs.YtbblomnhobodkaaDoorW.PrintMore
attribute [local go_sem] max2_int min2_int max_two min_two max_three min_three max_four min_four   -- for this text's walks alone
set_option linter.unusedVariables false
set_option linter.unusedSimpArgs false
mutual
def conclavelaw04_TreeLate.l0 : Nat → Int → List (S29) → Int → Int → Bool → Int → Int → Int → Int → List Int → Option (Bool)
 | 0, _, _, _, _, _, _, _, _, _, _ => none
 | k + 1, x2, x8, x9, x11, x663000, x663001, x663002, x663003, x663004, x663005 => if x11 < (x8.length : Int) then (if 0 ≤ x11 then (conclavelaw04_TreeLate.l1 k x2 x8 x9 x11 false ((rd_T29 x8 x11).f5) (((rd_T29 x8 x11).f5).length : Int) 0 x663000 x663001 x663002 x663003 x663004 x663005) else (none)) else ((conclaveref04_Full.f x8 x2).bind fun t683 => (if t683 = true then ((tree_Filtered.f k x8 x2).bind fun bt684 => (if 0 ≤ (bt684.1.length : Int) then (if ((bt684.1.length : Int) : Int).toNat ≤ 35184372088832 then ((tree_Merge.f k x8 x2 x663000 x663001 x663002 x663003 x663004 x663005 (List.replicate ((bt684.1.length : Int) : Int).toNat 0) (List.replicate ((bt684.1.length : Int) : Int).toNat 0)).bind fun bt696 => (if bt696.2 = 0 then ((conclaveref04_Leaves.f bt696.1).bind fun t700 => ((conclavelaw04_upward.f k (wrap64 (2 * x2)) t700).bind fun t701 => (conclavelaw04_TreeLate.l3 k bt696.1 t701 (t701.length : Int) 0))) else (some false))) else (none)) else (none))) else (some true)))
def conclavelaw04_TreeLate.l1 : Nat → Int → List (S29) → Int → Int → Bool → List Int → Int → Int → Bool → Int → Int → Int → Int → List Int → Option (Bool)
 | 0, _, _, _, _, _, _, _, _, _, _, _, _, _, _ => none
 | k + 1, x2, x8, x9, x11, x12, x52, x53, x54, x663000, x663001, x663002, x663003, x663004, x663005 => if x54 < x53 then (if 0 ≤ x54 then (if x54 < (x52.length : Int) then (if x12 = true then (conclavelaw04_TreeLate.l1 k x2 x8 x9 x11 true x52 x53 (wrap64 (x54 + 1)) x663000 x663001 x663002 x663003 x663004 x663005) else (conclavelaw04_TreeLate.l1 k x2 x8 x9 x11 ((rd x52 x54) == x9) x52 x53 (wrap64 (x54 + 1)) x663000 x663001 x663002 x663003 x663004 x663005)) else (none)) else (none)) else ((conclaveref04_Leaves.f x8).bind fun t677 => ((conclavelaw04_upward.f k (wrap64 (2 * x9)) t677).bind fun t678 => (conclavelaw04_TreeLate.l2 k x2 x8 x9 x11 x12 false t678 (t678.length : Int) 0 x663000 x663001 x663002 x663003 x663004 x663005)))
def conclavelaw04_TreeLate.l2 : Nat → Int → List (S29) → Int → Int → Bool → Bool → List Int → Int → Int → Bool → Int → Int → Int → Int → List Int → Option (Bool)
 | 0, _, _, _, _, _, _, _, _, _, _, _, _, _, _, _ => none
 | k + 1, x2, x8, x9, x11, x12, x15, x69, x70, x71, x663000, x663001, x663002, x663003, x663004, x663005 => if x71 < x70 then (if 0 ≤ x71 then (if x71 < (x69.length : Int) then (if x15 = true then (conclavelaw04_TreeLate.l2 k x2 x8 x9 x11 x12 true x69 x70 (wrap64 (x71 + 1)) x663000 x663001 x663002 x663003 x663004 x663005) else (conclavelaw04_TreeLate.l2 k x2 x8 x9 x11 x12 ((rd x69 x71) == x11) x69 x70 (wrap64 (x71 + 1)) x663000 x663001 x663002 x663003 x663004 x663005)) else (none)) else (none)) else (if x15 = true then (if 0 ≤ x11 then (if x11 < (x8.length : Int) then (if (x12 != ((rd_T29 x8 x11).f0)) = true then (some false) else (conclavelaw04_TreeLate.l0 k x2 x8 x9 (wrap64 (x11 + 2)) x663000 x663001 x663002 x663003 x663004 x663005)) else (none)) else (none)) else (if (x12 != false) = true then (some false) else (conclavelaw04_TreeLate.l0 k x2 x8 x9 (wrap64 (x11 + 2)) x663000 x663001 x663002 x663003 x663004 x663005)))
def conclavelaw04_TreeLate.l3 : Nat → List (S29) → List Int → Int → Int → Option (Bool)
 | 0, _, _, _, _ => none
 | k + 1, x20, x121, x122, x123 => if x123 < x122 then (if 0 ≤ x123 then (if x123 < (x121.length : Int) then (if 0 ≤ (rd x121 x123) then (if (rd x121 x123) < (x20.length : Int) then (if (((rd_T29 x20 (rd x121 x123)).f5).length : Int) = 0 then (conclavelaw04_TreeLate.l3 k x20 x121 x122 (wrap64 (x123 + 1))) else (some false)) else (none)) else (none)) else (none)) else (none)) else (some true)
end
def conclavelaw04_TreeLate.f (k : Nat) (a0_0 : Bool) (a0_1 : Int) (a0_2 : Int) (a0_3 : Int) (a0_4 : Int) (l0_5 : List Int) (l1 : List (S32)) (a2 : Int) : Option (Bool) := (conclavelaw04_anchor.f k).bind fun t663 => (if t663 = true then ((conclavelaw04_grown.f k a0_0 a0_1 a0_2 a0_3 a0_4 l0_5 l1).bind fun t664 => ((tree_Add.f k t664 a0_0 a0_1 a0_2 a0_3 a0_4 l0_5).bind fun bt667 => (if bt667.2.2 = 0 then (conclavelaw04_TreeLate.l0 k a2 bt667.1 bt667.2.1 1 a0_0 a0_1 a0_2 a0_3 a0_4 l0_5) else ((conclaveref04_Members.f k t664).bind fun t672 => (some ((t672.length : Int) == 32)))))) else (some false))
theorem conclavelaw04_TreeLate.mono_l : ∀ k, (∀ y0 y1 y2 y3 y4 y5 y6 y7 y8 y9, LeO (conclavelaw04_TreeLate.l0 k y0 y1 y2 y3 y4 y5 y6 y7 y8 y9) (conclavelaw04_TreeLate.l0 (k + 1) y0 y1 y2 y3 y4 y5 y6 y7 y8 y9)) ∧ (∀ y0 y1 y2 y3 y4 y5 y6 y7 y8 y9 y10 y11 y12 y13, LeO (conclavelaw04_TreeLate.l1 k y0 y1 y2 y3 y4 y5 y6 y7 y8 y9 y10 y11 y12 y13) (conclavelaw04_TreeLate.l1 (k + 1) y0 y1 y2 y3 y4 y5 y6 y7 y8 y9 y10 y11 y12 y13)) ∧ (∀ y0 y1 y2 y3 y4 y5 y6 y7 y8 y9 y10 y11 y12 y13 y14, LeO (conclavelaw04_TreeLate.l2 k y0 y1 y2 y3 y4 y5 y6 y7 y8 y9 y10 y11 y12 y13 y14) (conclavelaw04_TreeLate.l2 (k + 1) y0 y1 y2 y3 y4 y5 y6 y7 y8 y9 y10 y11 y12 y13 y14)) ∧ (∀ y0 y1 y2 y3, LeO (conclavelaw04_TreeLate.l3 k y0 y1 y2 y3) (conclavelaw04_TreeLate.l3 (k + 1) y0 y1 y2 y3))
 | 0 => ⟨fun _ _ _ _ _ _ _ _ _ _ r h => by simp [conclavelaw04_TreeLate.l0] at h, fun _ _ _ _ _ _ _ _ _ _ _ _ _ _ r h => by simp [conclavelaw04_TreeLate.l1] at h, fun _ _ _ _ _ _ _ _ _ _ _ _ _ _ _ r h => by simp [conclavelaw04_TreeLate.l2] at h, fun _ _ _ _ r h => by simp [conclavelaw04_TreeLate.l3] at h⟩
 | k + 1 => by
  obtain ⟨ih0, ih1, ih2, ih3⟩ := conclavelaw04_TreeLate.mono_l k
  refine ⟨?_, ?_, ?_, ?_⟩
  ·
   intro y0 y1 y2 y3 y4 y5 y6 y7 y8 y9
   unfold conclavelaw04_TreeLate.l0
   repeat' first
   | (with_reducible exact ih0 _ _ _ _ _ _ _ _ _ _)
   | (with_reducible exact ih1 _ _ _ _ _ _ _ _ _ _ _ _ _ _)
   | (with_reducible exact ih2 _ _ _ _ _ _ _ _ _ _ _ _ _ _ _)
   | (with_reducible exact ih3 _ _ _ _)
   | (with_reducible exact conclavelaw04_anchor.mono _)
   | (with_reducible exact conclavelaw04_grown.mono _ _ _ _ _ _ _ _)
   | (with_reducible exact conclavelaw04_upward.mono _ _ _)
   | (with_reducible exact conclaveref04_Members.mono _ _)
   | (with_reducible exact tree_Add.mono _ _ _ _ _ _ _ _)
   | (with_reducible exact tree_Filtered.mono _ _ _)
   | (with_reducible exact tree_Merge.mono _ _ _ _ _ _ _ _ _ _ _)
   | (with_reducible exact LeO.refl _)
   | (with_reducible exact LeO.none _)
   | (with_reducible refine LeO.ite ?_ ?_)
   | (with_reducible refine LeO.bind ?_ (fun _ => ?_))
   | exact ih0 _ _ _ _ _ _ _ _ _ _
   | exact ih1 _ _ _ _ _ _ _ _ _ _ _ _ _ _
   | exact ih2 _ _ _ _ _ _ _ _ _ _ _ _ _ _ _
   | exact ih3 _ _ _ _
   | exact conclavelaw04_anchor.mono _
   | exact conclavelaw04_grown.mono _ _ _ _ _ _ _ _
   | exact conclavelaw04_upward.mono _ _ _
   | exact conclaveref04_Members.mono _ _
   | exact tree_Add.mono _ _ _ _ _ _ _ _
   | exact tree_Filtered.mono _ _ _
   | exact tree_Merge.mono _ _ _ _ _ _ _ _ _ _ _
   | exact LeO.none _
   | refine LeO.ite ?_ ?_
   | refine LeO.bind ?_ (fun _ => ?_)
  ·
   intro y0 y1 y2 y3 y4 y5 y6 y7 y8 y9 y10 y11 y12 y13
   unfold conclavelaw04_TreeLate.l1
   repeat' first
   | (with_reducible exact ih0 _ _ _ _ _ _ _ _ _ _)
   | (with_reducible exact ih1 _ _ _ _ _ _ _ _ _ _ _ _ _ _)
   | (with_reducible exact ih2 _ _ _ _ _ _ _ _ _ _ _ _ _ _ _)
   | (with_reducible exact ih3 _ _ _ _)
   | (with_reducible exact conclavelaw04_anchor.mono _)
   | (with_reducible exact conclavelaw04_grown.mono _ _ _ _ _ _ _ _)
   | (with_reducible exact conclavelaw04_upward.mono _ _ _)
   | (with_reducible exact conclaveref04_Members.mono _ _)
   | (with_reducible exact tree_Add.mono _ _ _ _ _ _ _ _)
   | (with_reducible exact tree_Filtered.mono _ _ _)
   | (with_reducible exact tree_Merge.mono _ _ _ _ _ _ _ _ _ _ _)
   | (with_reducible exact LeO.refl _)
   | (with_reducible exact LeO.none _)
   | (with_reducible refine LeO.ite ?_ ?_)
   | (with_reducible refine LeO.bind ?_ (fun _ => ?_))
   | exact ih0 _ _ _ _ _ _ _ _ _ _
   | exact ih1 _ _ _ _ _ _ _ _ _ _ _ _ _ _
   | exact ih2 _ _ _ _ _ _ _ _ _ _ _ _ _ _ _
   | exact ih3 _ _ _ _
   | exact conclavelaw04_anchor.mono _
   | exact conclavelaw04_grown.mono _ _ _ _ _ _ _ _
   | exact conclavelaw04_upward.mono _ _ _
   | exact conclaveref04_Members.mono _ _
   | exact tree_Add.mono _ _ _ _ _ _ _ _
   | exact tree_Filtered.mono _ _ _
   | exact tree_Merge.mono _ _ _ _ _ _ _ _ _ _ _
   | exact LeO.none _
   | refine LeO.ite ?_ ?_
   | refine LeO.bind ?_ (fun _ => ?_)
  ·
   intro y0 y1 y2 y3 y4 y5 y6 y7 y8 y9 y10 y11 y12 y13 y14
   unfold conclavelaw04_TreeLate.l2
   repeat' first
   | (with_reducible exact ih0 _ _ _ _ _ _ _ _ _ _)
   | (with_reducible exact ih1 _ _ _ _ _ _ _ _ _ _ _ _ _ _)
   | (with_reducible exact ih2 _ _ _ _ _ _ _ _ _ _ _ _ _ _ _)
   | (with_reducible exact ih3 _ _ _ _)
   | (with_reducible exact conclavelaw04_anchor.mono _)
   | (with_reducible exact conclavelaw04_grown.mono _ _ _ _ _ _ _ _)
   | (with_reducible exact conclavelaw04_upward.mono _ _ _)
   | (with_reducible exact conclaveref04_Members.mono _ _)
   | (with_reducible exact tree_Add.mono _ _ _ _ _ _ _ _)
   | (with_reducible exact tree_Filtered.mono _ _ _)
   | (with_reducible exact tree_Merge.mono _ _ _ _ _ _ _ _ _ _ _)
   | (with_reducible exact LeO.refl _)
   | (with_reducible exact LeO.none _)
   | (with_reducible refine LeO.ite ?_ ?_)
   | (with_reducible refine LeO.bind ?_ (fun _ => ?_))
   | exact ih0 _ _ _ _ _ _ _ _ _ _
   | exact ih1 _ _ _ _ _ _ _ _ _ _ _ _ _ _
   | exact ih2 _ _ _ _ _ _ _ _ _ _ _ _ _ _ _
   | exact ih3 _ _ _ _
   | exact conclavelaw04_anchor.mono _
   | exact conclavelaw04_grown.mono _ _ _ _ _ _ _ _
   | exact conclavelaw04_upward.mono _ _ _
   | exact conclaveref04_Members.mono _ _
   | exact tree_Add.mono _ _ _ _ _ _ _ _
   | exact tree_Filtered.mono _ _ _
   | exact tree_Merge.mono _ _ _ _ _ _ _ _ _ _ _
   | exact LeO.none _
   | refine LeO.ite ?_ ?_
   | refine LeO.bind ?_ (fun _ => ?_)
  ·
   intro y0 y1 y2 y3
   unfold conclavelaw04_TreeLate.l3
   repeat' first
   | (with_reducible exact ih0 _ _ _ _ _ _ _ _ _ _)
   | (with_reducible exact ih1 _ _ _ _ _ _ _ _ _ _ _ _ _ _)
   | (with_reducible exact ih2 _ _ _ _ _ _ _ _ _ _ _ _ _ _ _)
   | (with_reducible exact ih3 _ _ _ _)
   | (with_reducible exact conclavelaw04_anchor.mono _)
   | (with_reducible exact conclavelaw04_grown.mono _ _ _ _ _ _ _ _)
   | (with_reducible exact conclavelaw04_upward.mono _ _ _)
   | (with_reducible exact conclaveref04_Members.mono _ _)
   | (with_reducible exact tree_Add.mono _ _ _ _ _ _ _ _)
   | (with_reducible exact tree_Filtered.mono _ _ _)
   | (with_reducible exact tree_Merge.mono _ _ _ _ _ _ _ _ _ _ _)
   | (with_reducible exact LeO.refl _)
   | (with_reducible exact LeO.none _)
   | (with_reducible refine LeO.ite ?_ ?_)
   | (with_reducible refine LeO.bind ?_ (fun _ => ?_))
   | exact ih0 _ _ _ _ _ _ _ _ _ _
   | exact ih1 _ _ _ _ _ _ _ _ _ _ _ _ _ _
   | exact ih2 _ _ _ _ _ _ _ _ _ _ _ _ _ _ _
   | exact ih3 _ _ _ _
   | exact conclavelaw04_anchor.mono _
   | exact conclavelaw04_grown.mono _ _ _ _ _ _ _ _
   | exact conclavelaw04_upward.mono _ _ _
   | exact conclaveref04_Members.mono _ _
   | exact tree_Add.mono _ _ _ _ _ _ _ _
   | exact tree_Filtered.mono _ _ _
   | exact tree_Merge.mono _ _ _ _ _ _ _ _ _ _ _
   | exact LeO.none _
   | refine LeO.ite ?_ ?_
   | refine LeO.bind ?_ (fun _ => ?_)
theorem conclavelaw04_TreeLate.mono : ∀ a0 a1 a2 a3 a4 a5 a6 a7 k, LeO (conclavelaw04_TreeLate.f k a0 a1 a2 a3 a4 a5 a6 a7) (conclavelaw04_TreeLate.f (k + 1) a0 a1 a2 a3 a4 a5 a6 a7) := by
 intro a0 a1 a2 a3 a4 a5 a6 a7 k
 obtain ⟨ih0, ih1, ih2, ih3⟩ := conclavelaw04_TreeLate.mono_l k
 unfold conclavelaw04_TreeLate.f
 repeat' first
  | (with_reducible exact ih0 _ _ _ _ _ _ _ _ _ _)
  | (with_reducible exact ih1 _ _ _ _ _ _ _ _ _ _ _ _ _ _)
  | (with_reducible exact ih2 _ _ _ _ _ _ _ _ _ _ _ _ _ _ _)
  | (with_reducible exact ih3 _ _ _ _)
  | (with_reducible exact conclavelaw04_anchor.mono _)
  | (with_reducible exact conclavelaw04_grown.mono _ _ _ _ _ _ _ _)
  | (with_reducible exact conclavelaw04_upward.mono _ _ _)
  | (with_reducible exact conclaveref04_Members.mono _ _)
  | (with_reducible exact tree_Add.mono _ _ _ _ _ _ _ _)
  | (with_reducible exact tree_Filtered.mono _ _ _)
  | (with_reducible exact tree_Merge.mono _ _ _ _ _ _ _ _ _ _ _)
  | (with_reducible exact LeO.refl _)
  | (with_reducible exact LeO.none _)
  | (with_reducible refine LeO.ite ?_ ?_)
  | (with_reducible refine LeO.bind ?_ (fun _ => ?_))
  | exact ih0 _ _ _ _ _ _ _ _ _ _
  | exact ih1 _ _ _ _ _ _ _ _ _ _ _ _ _ _
  | exact ih2 _ _ _ _ _ _ _ _ _ _ _ _ _ _ _
  | exact ih3 _ _ _ _
  | exact conclavelaw04_anchor.mono _
  | exact conclavelaw04_grown.mono _ _ _ _ _ _ _ _
  | exact conclavelaw04_upward.mono _ _ _
  | exact conclaveref04_Members.mono _ _
  | exact tree_Add.mono _ _ _ _ _ _ _ _
  | exact tree_Filtered.mono _ _ _
  | exact tree_Merge.mono _ _ _ _ _ _ _ _ _ _ _
  | exact LeO.none _
  | refine LeO.ite ?_ ?_
  | refine LeO.bind ?_ (fun _ => ?_)
def conclavelaw04_TreeLate.T27 : Bool × List (List Nat × List Nat) := (true, [([], []), ([], []), ([], []), ([], []), ([3], [3]), ([4, 4], [4]), ([], []), ([6], [6]), ([7, 7], [7]), ([0, 1, 2, 5, 8], [0, 1, 2, 5, 8]), ([9], [9]), ([10], [10]), ([10], [10]), ([11, 9, 0, 1, 2, 3, 4, 5, 6, 7, 8, 9, 10, 11], [11]), ([12, 13, 0, 1, 2, 3, 4, 5, 6, 7, 8, 9, 10, 11, 12, 13], [12])])
def conclavelaw04_TreeLate.B27 : List Nat := [0, 0, 0, 0, 8, 24, 0, 64, 192, 511, 1023, 2047, 2047, 4095, 16383]
theorem conclavelaw04_TreeLate.tab27 : rtab .any (opsOf Tryd.f7 27) = conclavelaw04_TreeLate.T27 := by kernel_rfl
theorem conclavelaw04_TreeLate.bits27 : waitsOk conclavelaw04_TreeLate.T27.2 conclavelaw04_TreeLate.B27 = true := by kernel_rfl
end Go.Proofs.YtbblomnhobodkaaDoor.PTw
