/- What this claim reaches of a longer text of this session. -/
import Derived.Test.YtbblomnhobodkaaDoorPTwx0
import Derived.Test.YtbblomnhobodkaaDoorPTwx1
import Derived.Test.YtbblomnhobodkaaDoorPTwx5
import Derived.Test.YtbblomnhobodkaaDoorPTwx7
import Derived.Test.YtbblomnhobodkaaDoorPTwx15
namespace Go.Proofs.YtbblomnhobodkaaDoor.PTw
open Go.RowKit Go.Proofs.YtbblomnhobodkaaDoorW.PrintWords Go.Proofs.YtbblomnhobodkaaDoorW.PrintLast Go.Proofs.YtbblomnhobodkaaDoorW.PrintMore
attribute [local go_sem] max2_int min2_int max_two min_two max_three min_three max_four min_four   -- for this text's walks alone
set_option linter.unusedVariables false
set_option linter.unusedSimpArgs false
mutual
def conclavelaw04_TreeHoles.j0 : Nat → Int → List Int → Bool → Bool → Int → Int → Int → Int → List Int → Option (Bool)
  | 0, _, _, _, _, _, _, _, _, _ => none
  | k + 1, x1, x2, x33, x732000, x732001, x732002, x732003, x732004, x732005 => if x33 = true then (some true) else ((tree_New.f x732000 x732001 x732002 x732003 x732004 x732005).bind fun t733 => (conclavelaw04_TreeHoles.l0 k x1 x2 t733 1 x732000 x732001 x732002 x732003 x732004 x732005))
def conclavelaw04_TreeHoles.l0 : Nat → Int → List Int → List (S29) → Int → Bool → Int → Int → Int → Int → List Int → Option (Bool)
  | 0, _, _, _, _, _, _, _, _, _, _ => none
  | k + 1, x1, x2, x7, x8, x732000, x732001, x732002, x732003, x732004, x732005 => if x8 < x1 then ((tree_Add.f k x7 x732000 x732001 x732002 x732003 x732004 x732005).bind fun bt736 => (conclavelaw04_TreeHoles.l0 k x1 x2 bt736.1 (wrap64 (x8 + 1)) x732000 x732001 x732002 x732003 x732004 x732005)) else (if 64 ≤ 281474976710656 then (conclavelaw04_TreeHoles.l1 k x1 x2 x7 (List.replicate 64 false) 0 x732000 x732001 x732002 x732003 x732004 x732005) else (none))
def conclavelaw04_TreeHoles.l1 : Nat → Int → List Int → List (S29) → List Bool → Int → Bool → Int → Int → Int → Int → List Int → Option (Bool)
  | 0, _, _, _, _, _, _, _, _, _, _, _ => none
  | k + 1, x1, x2, x7, x9, x10, x732000, x732001, x732002, x732003, x732004, x732005 => if x10 < x1 then (if 0 ≤ x10 then (if x10 < (x9.length : Int) then (conclavelaw04_TreeHoles.l1 k x1 x2 x7 (x9.set (x10 : Int).toNat true) (wrap64 (x10 + 1)) x732000 x732001 x732002 x732003 x732004 x732005) else (none)) else (none)) else (conclavelaw04_TreeHoles.l2 k x7 x9 x1 x2 (x2.length : Int) 0 x732000 x732001 x732002 x732003 x732004 x732005)
def conclavelaw04_TreeHoles.l2 : Nat → List (S29) → List Bool → Int → List Int → Int → Int → Bool → Int → Int → Int → Int → List Int → Option (Bool)
  | 0, _, _, _, _, _, _, _, _, _, _, _, _ => none
  | k + 1, x7, x9, x11, x58, x59, x60, x732000, x732001, x732002, x732003, x732004, x732005 => if x60 < x59 then (if 0 ≤ x60 then (if x60 < (x58.length : Int) then ((tree_Remove.f k x7 (rd x58 x60)).bind fun bt746 => (if (rd x58 x60) ≥ 0 then (if (rd x58 x60) < 64 then (if 0 ≤ (mx 0 (mn (rd x58 x60) 63)) then (if (mx 0 (mn (rd x58 x60) 63)) < (x9.length : Int) then (if rdOf false x9 (mx 0 (mn (rd x58 x60) 63)) = true then (conclavelaw04_TreeHoles.j4 k x7 x9 x11 (rd x58 x60) bt746.1 bt746.2 (decide (x11 > 1)) x58 x59 x60 x732000 x732001 x732002 x732003 x732004 x732005) else (conclavelaw04_TreeHoles.j4 k x7 x9 x11 (rd x58 x60) bt746.1 bt746.2 false x58 x59 x60 x732000 x732001 x732002 x732003 x732004 x732005)) else (none)) else (none)) else (conclavelaw04_TreeHoles.j4 k x7 x9 x11 (rd x58 x60) bt746.1 bt746.2 false x58 x59 x60 x732000 x732001 x732002 x732003 x732004 x732005)) else (conclavelaw04_TreeHoles.j4 k x7 x9 x11 (rd x58 x60) bt746.1 bt746.2 false x58 x59 x60 x732000 x732001 x732002 x732003 x732004 x732005))) else (none)) else (none)) else (conclavelaw04_TreeHoles.l3 k x7 x9 0 x732000 x732001 x732002 x732003 x732004 x732005)
def conclavelaw04_TreeHoles.j4 : Nat → List (S29) → List Bool → Int → Int → List (S29) → Int → Bool → List Int → Int → Int → Bool → Int → Int → Int → Int → List Int → Option (Bool)
  | 0, _, _, _, _, _, _, _, _, _, _, _, _, _, _, _, _ => none
  | k + 1, x7, x9, x11, x13, x14, x15, x16, x58, x59, x60, x732000, x732001, x732002, x732003, x732004, x732005 => if (x16 != (x15 == 0)) = true then (some false) else (if x16 = true then (if 0 ≤ x13 then (if x13 < (x9.length : Int) then (conclavelaw04_TreeHoles.l2 k x14 (x9.set (x13 : Int).toNat false) (wrap64 (x11 - 1)) x58 x59 (wrap64 (x60 + 1)) x732000 x732001 x732002 x732003 x732004 x732005) else (none)) else (none)) else (conclavelaw04_TreeHoles.l2 k x7 x9 x11 x58 x59 (wrap64 (x60 + 1)) x732000 x732001 x732002 x732003 x732004 x732005))
def conclavelaw04_TreeHoles.l3 : Nat → List (S29) → List Bool → Int → Bool → Int → Int → Int → Int → List Int → Option (Bool)
  | 0, _, _, _, _, _, _, _, _, _ => none
  | k + 1, x7, x9, x17, x732000, x732001, x732002, x732003, x732004, x732005 => if 0 ≤ x17 then (if x17 < (x9.length : Int) then (if rdOf false x9 x17 = true then (conclavelaw04_TreeHoles.l3 k x7 x9 (wrap64 (x17 + 1)) x732000 x732001 x732002 x732003 x732004 x732005) else ((tree_Add.f k x7 x732000 x732001 x732002 x732003 x732004 x732005).bind fun bt753 => (if x17 = 32 then (some (bt753.2.2 == 41)) else (if bt753.2.2 = 0 then (some (bt753.2.1 == x17)) else (some false))))) else (none)) else (none)
end
def conclavelaw04_TreeHoles.f (k : Nat) (a0_0 : Bool) (a0_1 : Int) (a0_2 : Int) (a0_3 : Int) (a0_4 : Int) (l0_5 : List Int) (a1 : Int) (l2 : List Int) : Option (Bool) := (conclavelaw04_anchor.f k).bind fun t732 => (if t732 = true then (if a1 < 2 then (conclavelaw04_TreeHoles.j0 k a1 l2 true a0_0 a0_1 a0_2 a0_3 a0_4 l0_5) else (if a1 > 32 then (conclavelaw04_TreeHoles.j0 k a1 l2 true a0_0 a0_1 a0_2 a0_3 a0_4 l0_5) else (conclavelaw04_TreeHoles.j0 k a1 l2 (decide ((l2.length : Int) > 40)) a0_0 a0_1 a0_2 a0_3 a0_4 l0_5))) else (some false))
theorem conclavelaw04_TreeHoles.mono_l : ∀ k, (∀ y0 y1 y2 y3 y4 y5 y6 y7 y8, LeO (conclavelaw04_TreeHoles.j0 k y0 y1 y2 y3 y4 y5 y6 y7 y8) (conclavelaw04_TreeHoles.j0 (k + 1) y0 y1 y2 y3 y4 y5 y6 y7 y8)) ∧ (∀ y0 y1 y2 y3 y4 y5 y6 y7 y8 y9, LeO (conclavelaw04_TreeHoles.l0 k y0 y1 y2 y3 y4 y5 y6 y7 y8 y9) (conclavelaw04_TreeHoles.l0 (k + 1) y0 y1 y2 y3 y4 y5 y6 y7 y8 y9)) ∧ (∀ y0 y1 y2 y3 y4 y5 y6 y7 y8 y9 y10, LeO (conclavelaw04_TreeHoles.l1 k y0 y1 y2 y3 y4 y5 y6 y7 y8 y9 y10) (conclavelaw04_TreeHoles.l1 (k + 1) y0 y1 y2 y3 y4 y5 y6 y7 y8 y9 y10)) ∧ (∀ y0 y1 y2 y3 y4 y5 y6 y7 y8 y9 y10 y11, LeO (conclavelaw04_TreeHoles.l2 k y0 y1 y2 y3 y4 y5 y6 y7 y8 y9 y10 y11) (conclavelaw04_TreeHoles.l2 (k + 1) y0 y1 y2 y3 y4 y5 y6 y7 y8 y9 y10 y11)) ∧ (∀ y0 y1 y2 y3 y4 y5 y6 y7 y8 y9 y10 y11 y12 y13 y14 y15, LeO (conclavelaw04_TreeHoles.j4 k y0 y1 y2 y3 y4 y5 y6 y7 y8 y9 y10 y11 y12 y13 y14 y15) (conclavelaw04_TreeHoles.j4 (k + 1) y0 y1 y2 y3 y4 y5 y6 y7 y8 y9 y10 y11 y12 y13 y14 y15)) ∧ (∀ y0 y1 y2 y3 y4 y5 y6 y7 y8, LeO (conclavelaw04_TreeHoles.l3 k y0 y1 y2 y3 y4 y5 y6 y7 y8) (conclavelaw04_TreeHoles.l3 (k + 1) y0 y1 y2 y3 y4 y5 y6 y7 y8))
  | 0 => ⟨fun _ _ _ _ _ _ _ _ _ r h => by simp [conclavelaw04_TreeHoles.j0] at h, fun _ _ _ _ _ _ _ _ _ _ r h => by simp [conclavelaw04_TreeHoles.l0] at h, fun _ _ _ _ _ _ _ _ _ _ _ r h => by simp [conclavelaw04_TreeHoles.l1] at h, fun _ _ _ _ _ _ _ _ _ _ _ _ r h => by simp [conclavelaw04_TreeHoles.l2] at h, fun _ _ _ _ _ _ _ _ _ _ _ _ _ _ _ _ r h => by simp [conclavelaw04_TreeHoles.j4] at h, fun _ _ _ _ _ _ _ _ _ r h => by simp [conclavelaw04_TreeHoles.l3] at h⟩
  | k + 1 => by
    obtain ⟨ih0, ih1, ih2, ih3, ih4, ih5⟩ := conclavelaw04_TreeHoles.mono_l k
    refine ⟨?_, ?_, ?_, ?_, ?_, ?_⟩
    · intro y0 y1 y2 y3 y4 y5 y6 y7 y8
      unfold conclavelaw04_TreeHoles.j0
      repeat' first
      | (with_reducible exact ih0 _ _ _ _ _ _ _ _ _)
      | (with_reducible exact ih1 _ _ _ _ _ _ _ _ _ _)
      | (with_reducible exact ih2 _ _ _ _ _ _ _ _ _ _ _)
      | (with_reducible exact ih3 _ _ _ _ _ _ _ _ _ _ _ _)
      | (with_reducible exact ih4 _ _ _ _ _ _ _ _ _ _ _ _ _ _ _ _)
      | (with_reducible exact ih5 _ _ _ _ _ _ _ _ _)
      | (with_reducible exact conclavelaw04_anchor.mono _)
      | (with_reducible exact tree_Add.mono _ _ _ _ _ _ _ _)
      | (with_reducible exact tree_Remove.mono _ _ _)
      | (with_reducible exact LeO.refl _)
      | (with_reducible exact LeO.none _)
      | (with_reducible refine LeO.ite ?_ ?_)
      | (with_reducible refine LeO.bind ?_ (fun _ => ?_))
      | exact ih0 _ _ _ _ _ _ _ _ _
      | exact ih1 _ _ _ _ _ _ _ _ _ _
      | exact ih2 _ _ _ _ _ _ _ _ _ _ _
      | exact ih3 _ _ _ _ _ _ _ _ _ _ _ _
      | exact ih4 _ _ _ _ _ _ _ _ _ _ _ _ _ _ _ _
      | exact ih5 _ _ _ _ _ _ _ _ _
      | exact conclavelaw04_anchor.mono _
      | exact tree_Add.mono _ _ _ _ _ _ _ _
      | exact tree_Remove.mono _ _ _
      | exact LeO.none _
      | refine LeO.ite ?_ ?_
      | refine LeO.bind ?_ (fun _ => ?_)
    · intro y0 y1 y2 y3 y4 y5 y6 y7 y8 y9
      unfold conclavelaw04_TreeHoles.l0
      repeat' first
      | (with_reducible exact ih0 _ _ _ _ _ _ _ _ _)
      | (with_reducible exact ih1 _ _ _ _ _ _ _ _ _ _)
      | (with_reducible exact ih2 _ _ _ _ _ _ _ _ _ _ _)
      | (with_reducible exact ih3 _ _ _ _ _ _ _ _ _ _ _ _)
      | (with_reducible exact ih4 _ _ _ _ _ _ _ _ _ _ _ _ _ _ _ _)
      | (with_reducible exact ih5 _ _ _ _ _ _ _ _ _)
      | (with_reducible exact conclavelaw04_anchor.mono _)
      | (with_reducible exact tree_Add.mono _ _ _ _ _ _ _ _)
      | (with_reducible exact tree_Remove.mono _ _ _)
      | (with_reducible exact LeO.refl _)
      | (with_reducible exact LeO.none _)
      | (with_reducible refine LeO.ite ?_ ?_)
      | (with_reducible refine LeO.bind ?_ (fun _ => ?_))
      | exact ih0 _ _ _ _ _ _ _ _ _
      | exact ih1 _ _ _ _ _ _ _ _ _ _
      | exact ih2 _ _ _ _ _ _ _ _ _ _ _
      | exact ih3 _ _ _ _ _ _ _ _ _ _ _ _
      | exact ih4 _ _ _ _ _ _ _ _ _ _ _ _ _ _ _ _
      | exact ih5 _ _ _ _ _ _ _ _ _
      | exact conclavelaw04_anchor.mono _
      | exact tree_Add.mono _ _ _ _ _ _ _ _
      | exact tree_Remove.mono _ _ _
      | exact LeO.none _
      | refine LeO.ite ?_ ?_
      | refine LeO.bind ?_ (fun _ => ?_)
    · intro y0 y1 y2 y3 y4 y5 y6 y7 y8 y9 y10
      unfold conclavelaw04_TreeHoles.l1
      repeat' first
      | (with_reducible exact ih0 _ _ _ _ _ _ _ _ _)
      | (with_reducible exact ih1 _ _ _ _ _ _ _ _ _ _)
      | (with_reducible exact ih2 _ _ _ _ _ _ _ _ _ _ _)
      | (with_reducible exact ih3 _ _ _ _ _ _ _ _ _ _ _ _)
      | (with_reducible exact ih4 _ _ _ _ _ _ _ _ _ _ _ _ _ _ _ _)
      | (with_reducible exact ih5 _ _ _ _ _ _ _ _ _)
      | (with_reducible exact conclavelaw04_anchor.mono _)
      | (with_reducible exact tree_Add.mono _ _ _ _ _ _ _ _)
      | (with_reducible exact tree_Remove.mono _ _ _)
      | (with_reducible exact LeO.refl _)
      | (with_reducible exact LeO.none _)
      | (with_reducible refine LeO.ite ?_ ?_)
      | (with_reducible refine LeO.bind ?_ (fun _ => ?_))
      | exact ih0 _ _ _ _ _ _ _ _ _
      | exact ih1 _ _ _ _ _ _ _ _ _ _
      | exact ih2 _ _ _ _ _ _ _ _ _ _ _
      | exact ih3 _ _ _ _ _ _ _ _ _ _ _ _
      | exact ih4 _ _ _ _ _ _ _ _ _ _ _ _ _ _ _ _
      | exact ih5 _ _ _ _ _ _ _ _ _
      | exact conclavelaw04_anchor.mono _
      | exact tree_Add.mono _ _ _ _ _ _ _ _
      | exact tree_Remove.mono _ _ _
      | exact LeO.none _
      | refine LeO.ite ?_ ?_
      | refine LeO.bind ?_ (fun _ => ?_)
    · intro y0 y1 y2 y3 y4 y5 y6 y7 y8 y9 y10 y11
      unfold conclavelaw04_TreeHoles.l2
      repeat' first
      | (with_reducible exact ih0 _ _ _ _ _ _ _ _ _)
      | (with_reducible exact ih1 _ _ _ _ _ _ _ _ _ _)
      | (with_reducible exact ih2 _ _ _ _ _ _ _ _ _ _ _)
      | (with_reducible exact ih3 _ _ _ _ _ _ _ _ _ _ _ _)
      | (with_reducible exact ih4 _ _ _ _ _ _ _ _ _ _ _ _ _ _ _ _)
      | (with_reducible exact ih5 _ _ _ _ _ _ _ _ _)
      | (with_reducible exact conclavelaw04_anchor.mono _)
      | (with_reducible exact tree_Add.mono _ _ _ _ _ _ _ _)
      | (with_reducible exact tree_Remove.mono _ _ _)
      | (with_reducible exact LeO.refl _)
      | (with_reducible exact LeO.none _)
      | (with_reducible refine LeO.ite ?_ ?_)
      | (with_reducible refine LeO.bind ?_ (fun _ => ?_))
      | exact ih0 _ _ _ _ _ _ _ _ _
      | exact ih1 _ _ _ _ _ _ _ _ _ _
      | exact ih2 _ _ _ _ _ _ _ _ _ _ _
      | exact ih3 _ _ _ _ _ _ _ _ _ _ _ _
      | exact ih4 _ _ _ _ _ _ _ _ _ _ _ _ _ _ _ _
      | exact ih5 _ _ _ _ _ _ _ _ _
      | exact conclavelaw04_anchor.mono _
      | exact tree_Add.mono _ _ _ _ _ _ _ _
      | exact tree_Remove.mono _ _ _
      | exact LeO.none _
      | refine LeO.ite ?_ ?_
      | refine LeO.bind ?_ (fun _ => ?_)
    · intro y0 y1 y2 y3 y4 y5 y6 y7 y8 y9 y10 y11 y12 y13 y14 y15
      unfold conclavelaw04_TreeHoles.j4
      repeat' first
      | (with_reducible exact ih0 _ _ _ _ _ _ _ _ _)
      | (with_reducible exact ih1 _ _ _ _ _ _ _ _ _ _)
      | (with_reducible exact ih2 _ _ _ _ _ _ _ _ _ _ _)
      | (with_reducible exact ih3 _ _ _ _ _ _ _ _ _ _ _ _)
      | (with_reducible exact ih4 _ _ _ _ _ _ _ _ _ _ _ _ _ _ _ _)
      | (with_reducible exact ih5 _ _ _ _ _ _ _ _ _)
      | (with_reducible exact conclavelaw04_anchor.mono _)
      | (with_reducible exact tree_Add.mono _ _ _ _ _ _ _ _)
      | (with_reducible exact tree_Remove.mono _ _ _)
      | (with_reducible exact LeO.refl _)
      | (with_reducible exact LeO.none _)
      | (with_reducible refine LeO.ite ?_ ?_)
      | (with_reducible refine LeO.bind ?_ (fun _ => ?_))
      | exact ih0 _ _ _ _ _ _ _ _ _
      | exact ih1 _ _ _ _ _ _ _ _ _ _
      | exact ih2 _ _ _ _ _ _ _ _ _ _ _
      | exact ih3 _ _ _ _ _ _ _ _ _ _ _ _
      | exact ih4 _ _ _ _ _ _ _ _ _ _ _ _ _ _ _ _
      | exact ih5 _ _ _ _ _ _ _ _ _
      | exact conclavelaw04_anchor.mono _
      | exact tree_Add.mono _ _ _ _ _ _ _ _
      | exact tree_Remove.mono _ _ _
      | exact LeO.none _
      | refine LeO.ite ?_ ?_
      | refine LeO.bind ?_ (fun _ => ?_)
    · intro y0 y1 y2 y3 y4 y5 y6 y7 y8
      unfold conclavelaw04_TreeHoles.l3
      repeat' first
      | (with_reducible exact ih0 _ _ _ _ _ _ _ _ _)
      | (with_reducible exact ih1 _ _ _ _ _ _ _ _ _ _)
      | (with_reducible exact ih2 _ _ _ _ _ _ _ _ _ _ _)
      | (with_reducible exact ih3 _ _ _ _ _ _ _ _ _ _ _ _)
      | (with_reducible exact ih4 _ _ _ _ _ _ _ _ _ _ _ _ _ _ _ _)
      | (with_reducible exact ih5 _ _ _ _ _ _ _ _ _)
      | (with_reducible exact conclavelaw04_anchor.mono _)
      | (with_reducible exact tree_Add.mono _ _ _ _ _ _ _ _)
      | (with_reducible exact tree_Remove.mono _ _ _)
      | (with_reducible exact LeO.refl _)
      | (with_reducible exact LeO.none _)
      | (with_reducible refine LeO.ite ?_ ?_)
      | (with_reducible refine LeO.bind ?_ (fun _ => ?_))
      | exact ih0 _ _ _ _ _ _ _ _ _
      | exact ih1 _ _ _ _ _ _ _ _ _ _
      | exact ih2 _ _ _ _ _ _ _ _ _ _ _
      | exact ih3 _ _ _ _ _ _ _ _ _ _ _ _
      | exact ih4 _ _ _ _ _ _ _ _ _ _ _ _ _ _ _ _
      | exact ih5 _ _ _ _ _ _ _ _ _
      | exact conclavelaw04_anchor.mono _
      | exact tree_Add.mono _ _ _ _ _ _ _ _
      | exact tree_Remove.mono _ _ _
      | exact LeO.none _
      | refine LeO.ite ?_ ?_
      | refine LeO.bind ?_ (fun _ => ?_)
theorem conclavelaw04_TreeHoles.mono : ∀ a0 a1 a2 a3 a4 a5 a6 a7 k, LeO (conclavelaw04_TreeHoles.f k a0 a1 a2 a3 a4 a5 a6 a7) (conclavelaw04_TreeHoles.f (k + 1) a0 a1 a2 a3 a4 a5 a6 a7) := by
  intro a0 a1 a2 a3 a4 a5 a6 a7 k
  obtain ⟨ih0, ih1, ih2, ih3, ih4, ih5⟩ := conclavelaw04_TreeHoles.mono_l k
  unfold conclavelaw04_TreeHoles.f
  repeat' first
      | (with_reducible exact ih0 _ _ _ _ _ _ _ _ _)
      | (with_reducible exact ih1 _ _ _ _ _ _ _ _ _ _)
      | (with_reducible exact ih2 _ _ _ _ _ _ _ _ _ _ _)
      | (with_reducible exact ih3 _ _ _ _ _ _ _ _ _ _ _ _)
      | (with_reducible exact ih4 _ _ _ _ _ _ _ _ _ _ _ _ _ _ _ _)
      | (with_reducible exact ih5 _ _ _ _ _ _ _ _ _)
      | (with_reducible exact conclavelaw04_anchor.mono _)
      | (with_reducible exact tree_Add.mono _ _ _ _ _ _ _ _)
      | (with_reducible exact tree_Remove.mono _ _ _)
      | (with_reducible exact LeO.refl _)
      | (with_reducible exact LeO.none _)
      | (with_reducible refine LeO.ite ?_ ?_)
      | (with_reducible refine LeO.bind ?_ (fun _ => ?_))
      | exact ih0 _ _ _ _ _ _ _ _ _
      | exact ih1 _ _ _ _ _ _ _ _ _ _
      | exact ih2 _ _ _ _ _ _ _ _ _ _ _
      | exact ih3 _ _ _ _ _ _ _ _ _ _ _ _
      | exact ih4 _ _ _ _ _ _ _ _ _ _ _ _ _ _ _ _
      | exact ih5 _ _ _ _ _ _ _ _ _
      | exact conclavelaw04_anchor.mono _
      | exact tree_Add.mono _ _ _ _ _ _ _ _
      | exact tree_Remove.mono _ _ _
      | exact LeO.none _
      | refine LeO.ite ?_ ?_
      | refine LeO.bind ?_ (fun _ => ?_)
set_option maxHeartbeats 8000000 in
set_option maxRecDepth 100000 in
theorem conclavelaw04_TreeHoles.calls (k : Nat) (a0_0 : Bool) (a0_1 : Int) (a0_2 : Int) (a0_3 : Int) (a0_4 : Int) (A0_5 : Option Addr) (c0_5 : Nat) (l0_5 : List Int) (a1 : Int) (A2 : Option Addr) (c2 : Nat) (l2 : List Int) (r : Bool) (w : World) (hrG : TabG w) (hr0_5 : Kd.C (Kd.int .i64) w A0_5 l0_5.length l0_5) (hc0_5 : l0_5.length ≤ c0_5) (hr2 : Kd.C (Kd.int .i64) w A2 l2.length l2) (hc2 : l2.length ≤ c2) (h : conclavelaw04_TreeHoles.f k a0_0 a0_1 a0_2 a0_3 a0_4 l0_5 a1 l2 = some r) (hr : r = true) :
    Calls Tryd.prog 9 #[.agg #[.bool a0_0, .int .i64 a0_1, .int .i64 a0_2, .int .i64 a0_3, .int .i64 a0_4, .slice A0_5 l0_5.length c0_5], .int .i64 a1, .slice A2 l2.length c2] w fun e w' => e = .returned (.bool r) ∧ Below w.heap.size w w' := by
  have HRG := Aside0.mk hrG
  clear hrG
  have hu29 := Tryd.underlying29
  have HR0_5 := Aside0.mk hr0_5
  have HC0_5 := Aside0.mk hc0_5
  clear hr0_5 hc0_5
  have HR2 := Aside0.mk hr2
  have HC2 := Aside0.mk hc2
  clear hr2 hc2
  have HB := Aside0.mk (Below.refl w.heap.size w)
  have H : ((conclavelaw04_anchor.f k).bind fun t732 => (if t732 = true then (if a1 < 2 then (conclavelaw04_TreeHoles.j0 k a1 l2 true a0_0 a0_1 a0_2 a0_3 a0_4 l0_5) else (if a1 > 32 then (conclavelaw04_TreeHoles.j0 k a1 l2 true a0_0 a0_1 a0_2 a0_3 a0_4 l0_5) else (conclavelaw04_TreeHoles.j0 k a1 l2 (decide ((l2.length : Int) > 40)) a0_0 a0_1 a0_2 a0_3 a0_4 l0_5))) else (some false))) = some r := h
  clear h
  replace H := Option.bind_eq_some_iff.mp H
  obtain ⟨t732, A40, H⟩ := H
  replace H : (if t732 = true then (if a1 < 2 then (conclavelaw04_TreeHoles.j0 k a1 l2 true a0_0 a0_1 a0_2 a0_3 a0_4 l0_5) else (if a1 > 32 then (conclavelaw04_TreeHoles.j0 k a1 l2 true a0_0 a0_1 a0_2 a0_3 a0_4 l0_5) else (conclavelaw04_TreeHoles.j0 k a1 l2 (decide ((l2.length : Int) > 40)) a0_0 a0_1 a0_2 a0_3 a0_4 l0_5))) else (some false)) = some r := H
  have A4 := Aside0.mk A40
  clear A40
  by_cases c5 : t732 = true
  · subst c5
    have H1 : (if a1 < 2 then (conclavelaw04_TreeHoles.j0 k a1 l2 true a0_0 a0_1 a0_2 a0_3 a0_4 l0_5) else (if a1 > 32 then (conclavelaw04_TreeHoles.j0 k a1 l2 true a0_0 a0_1 a0_2 a0_3 a0_4 l0_5) else (conclavelaw04_TreeHoles.j0 k a1 l2 (decide ((l2.length : Int) > 40)) a0_0 a0_1 a0_2 a0_3 a0_4 l0_5))) = some r := by rw [if_pos rfl] at H; exact H
    clear H
    have H := H1
    clear H1
    have HC6 := Aside0.mk H
    clear H
    go_enter Tryd.func9, Tryd.ntmps9
    go_upto_region 3 with (first | ((with_reducible refine gate_dst (N := 3) rfl ?_); (try (refine gate_guard (by rfl) ?_; dsimp only)); refine box_event ?hg (N := 3) ?hd (cs := #[.bool a0_0, .int .i64 a0_1, .int .i64 a0_2, .int .i64 a0_3, .int .i64 a0_4, .slice A0_5 l0_5.length c0_5]) (t := 29) ?hr ?_; (case hd => rfl); (case hg => rfl); (case hr => first | (go_simp; done) | (go_simp; rfl)); intro gb731 hg w7 hbox hb; have n0_ := Aside0.mk (below_step (by repeat (first | (with_reducible first | exact HB.out | apply below_alloc | apply pw_below_drewN | apply below_drew1) | exact HB.out)) hb); have n1_ := Aside0.mk (hbox); have n2_ := Aside0.mk ((by rw [hg]; exact (below_size (by repeat (first | (with_reducible first | exact HB.out | apply below_alloc | apply pw_below_drewN | apply below_drew1) | exact HB.out))) : w.heap.size ≤ gb731)); have n3_ := Aside0.mk ((by rw [hg]; exact (below_size (by repeat (first | (with_reducible first | exact HB.out | apply below_alloc | apply pw_below_drewN | apply below_drew1) | exact HB.out))) : w.heap.size ≤ gb731)); clear HB; have HB := n0_; have BK731 := n1_; have GW731 := n2_; have GE731 := n3_; clear n0_ n1_ n2_ n3_; clear hb hbox hg) | ((with_reducible refine gate_callee (f := 13) rfl ?_); refine goesL_ (some 21) rfl rfl Tryd.func13 (by kernel_rfl) rfl #[] rfl (by (try simp only [List.map_toArray, List.map_cons, List.map_nil]); first | done | rfl | (simp only [List.length_drop, List.length_take]; rfl)) ?_; (with_reducible refine (conclavelaw04_anchor.calls (hrG := ?sideG) k  true _ A4.out).mono ?_); (case sideG => (first | (with_reducible exact HRG.out) | exact TabG.below HRG.out (by repeat (first | (with_reducible first | exact HB.out | apply below_alloc | apply pw_below_drewN | apply below_drew1 | refine below_set ?_ GE731.out) | (with_reducible exact Below.refl _ _))))); rintro e w8 ⟨rfl, hb⟩; refine ⟨_, rfl, ?_⟩; have n0_ := Aside0.mk (blk_below (g := gb731) (o := .cells #[.bool a0_0, .int .i64 a0_1, .int .i64 a0_2, .int .i64 a0_3, .int .i64 a0_4, .slice A0_5 l0_5.length c0_5] 29 (0, 0)) (by (with_reducible repeat (first | refine blk_drewN ?_ _ | refine blk_drew ?_ | refine blk_alloc ?_ _)); exact BK731.out) hb); have n1_ := Aside0.mk (below_step (by repeat (first | (with_reducible first | exact HB.out | apply below_alloc | apply pw_below_drewN | apply below_drew1 | refine below_set ?_ GE731.out) | exact HB.out)) hb); clear BK731; clear HB; have BK731 := n0_; have HB := n1_; clear n0_ n1_; (try clear hb); (try clear hb2); (try clear hk); (try clear hi)))
    (try simp only [Act.put, List.setIfInBounds_toArray, List.set_cons_zero, List.set_cons_succ])
    go_cut [33] (fun v33 wc => ∃ (kq : Nat) (x33_5 : Bool), v33 = .bool x33_5 ∧ Aside0 (conclavelaw04_TreeHoles.j0 kq a1 l2 x33_5 a0_0 a0_1 a0_2 a0_3 a0_4 l0_5 = some r) ∧ Aside0 (kq ≤ k) ∧ Aside0 (wc.heap[gb731]? = some (.cells #[.bool a0_0, .int .i64 a0_1, .int .i64 a0_2, .int .i64 a0_3, .int .i64 a0_4, (.slice A0_5 l0_5.length c0_5)] 29 (0, 0))) ∧ Aside0 (Below w.heap.size w wc))
    case first =>
      have H := HC6.out
      clear HC6
      by_cases c9 : a1 < 2
      · rw [if_pos c9] at H
        have c9b0 : decide (a1 < 2) = true := decide_eq_true c9
        clear c9
        (first | rw [c9b0] | (simp only [i64_w, i32_w]; rw [c9b0]) | skip)
        have H' := Aside0.mk H
        clear H
        go_wp2
        go_meet
        case rel => exact ⟨_, (true), (by first | rfl | (simp; done) | (simp [*]; done)), H', ⟨by first | omega | exact Nat.le_refl _⟩, ⟨by (with_reducible repeat (first | refine blk_drewN ?_ _ | refine blk_drew ?_ | refine blk_alloc ?_ _)); exact BK731.out⟩, ⟨by repeat (first | (with_reducible first | exact HB.out | apply below_alloc | apply pw_below_drewN | apply below_drew1 | refine below_set ?_ GE731.out) | exact HB.out)⟩⟩
      · rw [if_neg c9] at H
        have c9b0 : decide (a1 < 2) = false := decide_eq_false c9
        clear c9
        (first | rw [c9b0] | (simp only [i64_w, i32_w]; rw [c9b0]) | skip)
        by_cases c10 : a1 > 32
        · rw [if_pos c10] at H
          have c10b0 : decide (32 < a1) = true := decide_eq_true c10
          clear c10
          have H' := Aside0.mk H
          clear H
          go_wp2
          go_meet
          case rel => exact ⟨_, (true), (by first | rfl | (simp; done) | (simp [*]; done)), H', ⟨by first | omega | exact Nat.le_refl _⟩, ⟨by (with_reducible repeat (first | refine blk_drewN ?_ _ | refine blk_drew ?_ | refine blk_alloc ?_ _)); exact BK731.out⟩, ⟨by repeat (first | (with_reducible first | exact HB.out | apply below_alloc | apply pw_below_drewN | apply below_drew1 | refine below_set ?_ GE731.out) | exact HB.out)⟩⟩
        · rw [if_neg c10] at H
          have c10b0 : decide (32 < a1) = false := decide_eq_false c10
          clear c10
          have H' := Aside0.mk H
          clear H
          go_wp2
          go_meet
          case rel => exact ⟨_, (decide ((l2.length : Int) > 40)), (by first | rfl | (simp; done) | (simp [*]; done)), H', ⟨by first | omega | exact Nat.le_refl _⟩, ⟨by (with_reducible repeat (first | refine blk_drewN ?_ _ | refine blk_drew ?_ | refine blk_alloc ?_ _)); exact BK731.out⟩, ⟨by repeat (first | (with_reducible first | exact HB.out | apply below_alloc | apply pw_below_drewN | apply below_drew1 | refine below_set ?_ GE731.out) | exact HB.out)⟩⟩
    case rest =>
      clear HC6
      try clear c1
      try clear c2
      try clear p2
      try clear c5
      try clear c9
      try clear c9b0
      try clear c10
      try clear c10b0
      obtain ⟨kq, x33_5, rfl, HA, HJ5, BK731, HB⟩ := hcut
      cases kq with
      | zero => exact absurd HA.out (by simp [conclavelaw04_TreeHoles.j0])
      | succ kj5 =>
        have H := HA.out
        clear HA
        simp only [conclavelaw04_TreeHoles.j0] at H
        by_cases c11 : x33_5 = true
        · subst c11
          have H1 : (some true) = some r := by rw [if_pos rfl] at H; exact H
          clear H
          have H := H1
          clear H1
          obtain rfl := Option.some.inj H
          try exact absurd hr Bool.false_ne_true
          all_goals
            go_wp2
            go_ret
            exact ⟨by first | rfl | (simp [errW_none, errW_some] <;> rfl) | (simp [*, errW_none, errW_some] <;> rfl), by repeat (first | (with_reducible first | exact HB.out | apply below_alloc | apply pw_below_drewN | apply below_drew1 | refine below_set ?_ GE731.out) | exact HB.out)⟩
        · replace c11 := Bool.eq_false_iff.mpr c11
          subst c11
          have H1 : ((tree_New.f a0_0 a0_1 a0_2 a0_3 a0_4 l0_5).bind fun t733 => (conclavelaw04_TreeHoles.l0 kj5 a1 l2 t733 1 a0_0 a0_1 a0_2 a0_3 a0_4 l0_5)) = some r := by rw [if_neg (show ¬ (false = true) by decide)] at H; exact H
          clear H
          have H := H1
          clear H1
          replace H := Option.bind_eq_some_iff.mp H
          obtain ⟨t733, A120, H⟩ := H
          replace H : (conclavelaw04_TreeHoles.l0 kj5 a1 l2 t733 1 a0_0 a0_1 a0_2 a0_3 a0_4 l0_5) = some r := H
          have A12 := Aside0.mk A120
          clear A120
          have H' := Aside0.mk H
          clear H
          have hcz13_0 : wc.cell? ⟨gb731, 0, none⟩ = some (.bool a0_0) := (blk_cell BK731.out 0).trans rfl
          have hcz13_1 : wc.cell? ⟨gb731, 1, none⟩ = some (.int .i64 a0_1) := (blk_cell BK731.out 1).trans rfl
          have hcz13_2 : wc.cell? ⟨gb731, 2, none⟩ = some (.int .i64 a0_2) := (blk_cell BK731.out 2).trans rfl
          have hcz13_3 : wc.cell? ⟨gb731, 3, none⟩ = some (.int .i64 a0_3) := (blk_cell BK731.out 3).trans rfl
          have hcz13_4 : wc.cell? ⟨gb731, 4, none⟩ = some (.int .i64 a0_4) := (blk_cell BK731.out 4).trans rfl
          have hcz13_5 : wc.cell? ⟨gb731, 5, none⟩ = some (.slice A0_5 l0_5.length c0_5) := (blk_cell BK731.out 5).trans rfl
          have hfz13_0 := blk_frozen BK731.out 0
          have hfz13_1 := blk_frozen BK731.out 1
          have hfz13_2 := blk_frozen BK731.out 2
          have hfz13_3 := blk_frozen BK731.out 3
          have hfz13_4 := blk_frozen BK731.out 4
          have hfz13_5 := blk_frozen BK731.out 5
          go_wp2_with (first | ((with_reducible refine gate_callee (f := 28) rfl ?_); refine goesL_ (some 35) rfl rfl Tryd.func28 (by kernel_rfl) rfl #[.agg #[.bool a0_0, .int .i64 a0_1, .int .i64 a0_2, .int .i64 a0_3, .int .i64 a0_4, .slice A0_5 l0_5.length c0_5]] rfl (by (try simp only [List.map_toArray, List.map_cons, List.map_nil]); first | done | rfl | (simp only [List.length_drop, List.length_take]; rfl)) ?_; (with_reducible refine (tree_New.calls a0_0 a0_1 a0_2 a0_3 a0_4 _ _ l0_5 t733 _ ?side1 ?side2 A12.out).mono ?_); (case side1 => repeat (first | exact (Kd.C_below HR0_5.out HB.out) | (with_reducible refine Kd.C_alloc ?_ _) | (with_reducible refine Kd.C_drewN ?_ _) | (with_reducible refine Kd.C_drew ?_))); (case side2 => exact HC0_5.out); rintro e w14 ⟨v734, rfl, ho0, hb⟩; refine ⟨_, rfl, ?_⟩; have n0_ := Aside0.mk (Kd.N_lower (Kd.N_mono (ok' := fun k_ => k_ ≠ gb731) ho0 (fun k_ hk_ => (Kd.freshB (g := gb731) (o := .cells #[.bool a0_0, .int .i64 a0_1, .int .i64 a0_2, .int .i64 a0_3, .int .i64 a0_4, .slice A0_5 l0_5.length c0_5] 29 (0, 0)) (by (with_reducible repeat (first | refine blk_drewN ?_ _ | refine blk_drew ?_ | refine blk_alloc ?_ _)); exact BK731.out) k_ hk_))) (below_size (by repeat (first | (with_reducible first | exact HB.out | apply below_alloc | apply pw_below_drewN | apply below_drew1 | refine below_set ?_ GE731.out) | exact HB.out)))); have n1_ := Aside0.mk (blk_below (g := gb731) (o := .cells #[.bool a0_0, .int .i64 a0_1, .int .i64 a0_2, .int .i64 a0_3, .int .i64 a0_4, .slice A0_5 l0_5.length c0_5] 29 (0, 0)) (by (with_reducible repeat (first | refine blk_drewN ?_ _ | refine blk_drew ?_ | refine blk_alloc ?_ _)); exact BK731.out) hb); have n2_ := Aside0.mk (below_step (by repeat (first | (with_reducible first | exact HB.out | apply below_alloc | apply pw_below_drewN | apply below_drew1 | refine below_set ?_ GE731.out) | exact HB.out)) hb); clear BK731; clear HB; have HO735 := n0_; have BK731 := n1_; have HB := n2_; clear n0_ n1_ n2_; (try clear hb); (try clear hb2); (try clear hk); (try clear hi); (try clear ho0)))
          go_loopg [7, 8] kj5 (fun kq v7 v8 w' => ∃ (x7_2 : List (S29)) (x8_2 : Int), v8 = .int .i64 x8_2 ∧ Aside0 (conclavelaw04_TreeHoles.l0 kq a1 l2 x7_2 x8_2 a0_0 a0_1 a0_2 a0_3 a0_4 l0_5 = some r) ∧ Aside0 (kq ≤ kj5) ∧ Aside0 (Kd.V k29 29 w' w.heap.size (fun k_ => k_ ≠ gb731) v7 x7_2) ∧ Aside0 (w'.heap[gb731]? = some (.cells #[.bool a0_0, .int .i64 a0_1, .int .i64 a0_2, .int .i64 a0_3, .int .i64 a0_4, (.slice A0_5 l0_5.length c0_5)] 29 (0, 0))) ∧ Aside0 (Below w.heap.size w w'))
          case atStart => exact ⟨(t733), (1), (by first | rfl | (simp; done) | (simp [*]; done)), H', ⟨Nat.le_refl _⟩, ⟨Kd.N_V (by (with_reducible repeat (first | apply Kd.N_alloc | apply Kd.N_drewN | apply Kd.N_drew)); exact HO735.out)⟩, ⟨by (with_reducible repeat (first | refine blk_drewN ?_ _ | refine blk_drew ?_ | refine blk_alloc ?_ _)); exact BK731.out⟩, ⟨by repeat (first | (with_reducible first | exact HB.out | apply below_alloc | apply pw_below_drewN | apply below_drew1 | refine below_set ?_ GE731.out) | exact HB.out)⟩⟩
          case round =>
            clear H'
            try clear c1
            try clear c2
            try clear p2
            try clear c5
            try clear c9
            try clear c9b0
            try clear c10
            try clear c10b0
            try clear c11
            try clear c13
            try clear hcz13_0
            try clear hcz13_1
            try clear hcz13_2
            try clear hcz13_3
            try clear hcz13_4
            try clear hcz13_5
            try clear hfz13_0
            try clear hfz13_1
            try clear hfz13_2
            try clear hfz13_3
            try clear hfz13_4
            try clear hfz13_5
            try clear p2
            obtain ⟨x7_2, x8_2, rfl, HA, HK2, HO_7, BK731, HB⟩ := hrel
            cases gk with
            | zero => exact absurd HA.out (by simp [conclavelaw04_TreeHoles.l0])
            | succ k2 =>
              have H := HA.out
              clear HA
              simp only [conclavelaw04_TreeHoles.l0] at H
              by_cases c15 : x8_2 < a1
              · rw [if_pos c15] at H
                have c15b0 : decide (x8_2 < a1) = true := decide_eq_true c15
                clear c15
                replace H := Option.bind_eq_some_iff.mp H
                obtain ⟨⟨t736, t739, t740⟩, A160, H⟩ := H
                replace H : (conclavelaw04_TreeHoles.l0 k2 a1 l2 t736 (wrap64 (x8_2 + 1)) a0_0 a0_1 a0_2 a0_3 a0_4 l0_5) = some r := H
                have A16 := Aside0.mk A160
                clear A160
                have H' := Aside0.mk H
                clear H
                have hcz17_0 : wr.cell? ⟨gb731, 0, none⟩ = some (.bool a0_0) := (blk_cell BK731.out 0).trans rfl
                have hcz17_1 : wr.cell? ⟨gb731, 1, none⟩ = some (.int .i64 a0_1) := (blk_cell BK731.out 1).trans rfl
                have hcz17_2 : wr.cell? ⟨gb731, 2, none⟩ = some (.int .i64 a0_2) := (blk_cell BK731.out 2).trans rfl
                have hcz17_3 : wr.cell? ⟨gb731, 3, none⟩ = some (.int .i64 a0_3) := (blk_cell BK731.out 3).trans rfl
                have hcz17_4 : wr.cell? ⟨gb731, 4, none⟩ = some (.int .i64 a0_4) := (blk_cell BK731.out 4).trans rfl
                have hcz17_5 : wr.cell? ⟨gb731, 5, none⟩ = some (.slice A0_5 l0_5.length c0_5) := (blk_cell BK731.out 5).trans rfl
                have hfz17_0 := blk_frozen BK731.out 0
                have hfz17_1 := blk_frozen BK731.out 1
                have hfz17_2 := blk_frozen BK731.out 2
                have hfz17_3 := blk_frozen BK731.out 3
                have hfz17_4 := blk_frozen BK731.out 4
                have hfz17_5 := blk_frozen BK731.out 5
                obtain ⟨Ao18, co18, eo18⟩ := Kd.V_slice HO_7.out
                subst eo18
                go_wp2_with (first | ((with_reducible refine gate_callee (f := 19) rfl ?_); refine goesL_ (some 44) rfl rfl Tryd.func19 (by kernel_rfl) rfl #[.slice Ao18 x7_2.length co18, .agg #[.bool a0_0, .int .i64 a0_1, .int .i64 a0_2, .int .i64 a0_3, .int .i64 a0_4, .slice A0_5 l0_5.length c0_5]] rfl (by (try simp only [List.map_toArray, List.map_cons, List.map_nil]); first | done | rfl | (simp only [List.length_drop, List.length_take]; rfl)) ?_; (with_reducible refine (tree_Add.calls (hrG := ?sideG) k2 _ _ x7_2 a0_0 a0_1 a0_2 a0_3 a0_4 (fun k_ => k_ < w.heap.size) _ _ l0_5 t736 t739 t740 _ ?side1 ?side2 ?side3 A16.out).mono ?_); (case sideG => (first | (with_reducible exact HRG.out) | exact TabG.below HRG.out (by repeat (first | (with_reducible first | exact HB.out | apply below_alloc | apply pw_below_drewN | apply below_drew1 | refine below_set ?_ GE731.out) | (with_reducible exact Below.refl _ _))))); (case side1 => repeat (first | exact (Kd.V_reads' HO_7.out).2.2 | (with_reducible refine Kd.C_alloc ?_ _) | (with_reducible refine Kd.C_drewN ?_ _) | (with_reducible refine Kd.C_drew ?_))); (case side2 => exact (Kd.V_reads' HO_7.out).2.1); (case side3 => exact Kd.V_mk HC0_5.out (Kd.F_below (Kd.C_F (Kd.heap_int .i64) HR0_5.out) (by repeat (first | (with_reducible first | exact HB.out | apply below_alloc | apply pw_below_drewN | apply below_drew1 | refine below_set ?_ GE731.out) | exact HB.out)))); rintro e w19 ⟨v737, rfl, ho0, hb⟩; refine ⟨_, rfl, ?_⟩; have ho0 := Kd.S_N (Kd.S_mono (ok' := fun k_ => (fun k_ => k_ < w.heap.size) k_ ∨ _) ho0 (fun k_ h_ => Or.inr h_)); have n0_ := Aside0.mk (Kd.V_elder' (by (with_reducible repeat (first | apply Kd.V_alloc | apply Kd.V_drewN | apply Kd.V_drew)); exact HO_7.out) (Kd.N_base ho0) hb); have n1_ := Aside0.mk (Kd.N_lower (Kd.N_mono (ok' := fun k_ => k_ ≠ gb731) ho0 (fun k_ hk_ => Or.elim hk_ (fun hs_ => fun e_ => Nat.not_le.2 hs_ (by rw [e_]; exact GW731.out)) (fun hn_ => (Kd.freshB (g := gb731) (o := .cells #[.bool a0_0, .int .i64 a0_1, .int .i64 a0_2, .int .i64 a0_3, .int .i64 a0_4, .slice A0_5 l0_5.length c0_5] 29 (0, 0)) (by (with_reducible repeat (first | refine blk_drewN ?_ _ | refine blk_drew ?_ | refine blk_alloc ?_ _)); exact BK731.out) k_ hn_)))) (below_size (by repeat (first | (with_reducible first | exact HB.out | apply below_alloc | apply pw_below_drewN | apply below_drew1 | refine below_set ?_ GE731.out) | exact HB.out)))); have n2_ := Aside0.mk (blk_below (g := gb731) (o := .cells #[.bool a0_0, .int .i64 a0_1, .int .i64 a0_2, .int .i64 a0_3, .int .i64 a0_4, .slice A0_5 l0_5.length c0_5] 29 (0, 0)) (by (with_reducible repeat (first | refine blk_drewN ?_ _ | refine blk_drew ?_ | refine blk_alloc ?_ _)); exact BK731.out) hb); have n3_ := Aside0.mk (below_step (by repeat (first | (with_reducible first | exact HB.out | apply below_alloc | apply pw_below_drewN | apply below_drew1 | refine below_set ?_ GE731.out) | exact HB.out)) hb); clear HO_7; clear BK731; clear HB; have HO_7 := n0_; have HO738 := n1_; have BK731 := n2_; have HB := n3_; clear n0_ n1_ n2_ n3_; (try clear hb); (try clear hb2); (try clear hk); (try clear hi); (try clear ho0)))
                go_roundg k2
                case measure => have := HJ5.out; have := HK2.out; omega
                case rel => exact ⟨(t736), (wrap64 (x8_2 + 1)), (by first | rfl | (simp; done) | (simp [*]; done)), H', ⟨by have := HJ5.out; have := HK2.out; omega⟩, ⟨Kd.N_V (by (with_reducible repeat (first | apply Kd.N_alloc | apply Kd.N_drewN | apply Kd.N_drew)); exact HO738.out)⟩, ⟨by (with_reducible repeat (first | refine blk_drewN ?_ _ | refine blk_drew ?_ | refine blk_alloc ?_ _)); exact BK731.out⟩, ⟨by repeat (first | (with_reducible first | exact HB.out | apply below_alloc | apply pw_below_drewN | apply below_drew1 | refine below_set ?_ GE731.out) | exact HB.out)⟩⟩
              · rw [if_neg c15] at H
                have c15b0 : decide (x8_2 < a1) = false := decide_eq_false c15
                clear c15
                by_cases c20 : 64 ≤ 281474976710656
                · rw [if_pos c20] at H
                  have c20b0 := eq_true c20
                  have c20b1 : decide (64 ≤ 281474976710656) = true := decide_eq_true c20
                  clear c20
                  obtain ⟨y741, hy741⟩ : ∃ y_ : List Bool, y_ = (List.replicate 64 false) := ⟨_, rfl⟩
                  replace H : (conclavelaw04_TreeHoles.l1 k2 a1 l2 x7_2 y741 0 a0_0 a0_1 a0_2 a0_3 a0_4 l0_5) = some r := by first | (rw [hy741]; with_reducible exact H) | (have H2_ := (Option.bind_some _ _).symm.trans H; rw [hy741]; with_reducible exact H2_) | (have H2_ := (Option.bind_some _ _).symm.trans H; with_reducible exact H2_) | with_reducible exact H | (rw [hy741]; exact H) | exact H
                  have Ny741 := Aside0.mk hy741
                  clear hy741
                  have H' := Aside0.mk H
                  clear H
                  go_wp2_with (first | ((with_reducible refine gate_dst (N := 48) rfl ?_); (try (refine gate_guard (by rfl) ?_; dsimp only)); refine Kd.R_make Kd.bool _ 4 rfl (N := 48) rfl 55 _ _ rfl 64 rfl rfl Tryd.underlying55 (.bool false) 1 info4 rfl (by decide) (by omega) false (ok := fun _ => True) (okp := fun _ => True) rfl (fun _ hk => hk) trivial (by omega) (by omega) (Below.refl _ _) (Nat.le_refl _) ?_; intro v742 w21 ho22 hb hg_ hnew_; clear hg_ hnew_; (first | rw [← Ny741.out] at ho22 | (simp only [Int.reduceToNat] at ho22; rw [← Ny741.out] at ho22)); have n0_ := Aside0.mk (Kd.V_elder' (by (with_reducible repeat (first | apply Kd.V_alloc | apply Kd.V_drewN | apply Kd.V_drew)); exact HO_7.out) (Kd.R_base ho22) hb); have n1_ := Aside0.mk (Kd.R_lower ho22 (below_size (by repeat (first | (with_reducible first | exact HB.out | apply below_alloc | apply pw_below_drewN | apply below_drew1 | refine below_set ?_ GE731.out) | exact HB.out)))); have n2_ := Aside0.mk (blk_below (g := gb731) (o := .cells #[.bool a0_0, .int .i64 a0_1, .int .i64 a0_2, .int .i64 a0_3, .int .i64 a0_4, .slice A0_5 l0_5.length c0_5] 29 (0, 0)) (by (with_reducible repeat (first | refine blk_drewN ?_ _ | refine blk_drew ?_ | refine blk_alloc ?_ _)); exact BK731.out) hb); have n3_ := Aside0.mk (below_step (by repeat (first | (with_reducible first | exact HB.out | apply below_alloc | apply pw_below_drewN | apply below_drew1 | refine below_set ?_ GE731.out) | exact HB.out)) hb); clear HO_7; clear BK731; clear HB; have HO_7 := n0_; have HO743 := n1_; have BK731 := n2_; have HB := n3_; clear n0_ n1_ n2_ n3_; clear hb ho22))
                  go_loopg [10] k2 (fun kq v10 w' => ∃ (x9_3 : List Bool) (x10_3 : Int), v10 = .int .i64 x10_3 ∧ Aside0 (conclavelaw04_TreeHoles.l1 kq a1 l2 x7_2 x9_3 x10_3 a0_0 a0_1 a0_2 a0_3 a0_4 l0_5 = some r) ∧ Aside0 (kq ≤ k2) ∧ Aside0 (Kd.V k29 29 w' w.heap.size (fun k_ => some k_ ≠ (v742 : Value).ownBlock ∧ k_ ≠ gb731) u7 x7_2) ∧ Aside0 (Kd.R Kd.bool 4 w' w.heap.size (fun _ => True) v742 x9_3) ∧ Aside0 (w'.heap[gb731]? = some (.cells #[.bool a0_0, .int .i64 a0_1, .int .i64 a0_2, .int .i64 a0_3, .int .i64 a0_4, (.slice A0_5 l0_5.length c0_5)] 29 (0, 0))) ∧ Aside0 (Below w.heap.size w w'))
                  case atStart => exact ⟨(y741), (0), (by first | rfl | (simp; done) | (simp [*]; done)), H', ⟨Nat.le_refl _⟩, ⟨by (with_reducible repeat (first | apply Kd.V_alloc | apply Kd.V_drewN | apply Kd.V_drew)); exact Kd.V_mono HO_7.out (fun _ hk => ⟨hk.2, hk.1⟩)⟩, ⟨by (with_reducible repeat (first | apply Kd.R_alloc | apply Kd.R_drewN | apply Kd.R_drew)); exact HO743.out⟩, ⟨by (with_reducible repeat (first | refine blk_drewN ?_ _ | refine blk_drew ?_ | refine blk_alloc ?_ _)); exact BK731.out⟩, ⟨by repeat (first | (with_reducible first | exact HB.out | apply below_alloc | apply pw_below_drewN | apply below_drew1 | refine below_set ?_ GE731.out) | exact HB.out)⟩⟩
                  case round =>
                    clear H'
                    try clear c1
                    try clear c2
                    try clear p2
                    try clear c5
                    try clear p6
                    try clear c9
                    try clear c9b0
                    try clear c10
                    try clear c10b0
                    try clear c11
                    try clear c13
                    try clear c15
                    try clear c15b0
                    try clear c19
                    try clear c20
                    try clear c20b0
                    try clear c20b1
                    try clear hcz13_0
                    try clear hcz13_1
                    try clear hcz13_2
                    try clear hcz13_3
                    try clear hcz13_4
                    try clear hcz13_5
                    try clear hcz17_0
                    try clear hcz17_1
                    try clear hcz17_2
                    try clear hcz17_3
                    try clear hcz17_4
                    try clear hcz17_5
                    try clear hfz13_0
                    try clear hfz13_1
                    try clear hfz13_2
                    try clear hfz13_3
                    try clear hfz13_4
                    try clear hfz13_5
                    try clear hfz17_0
                    try clear hfz17_1
                    try clear hfz17_2
                    try clear hfz17_3
                    try clear hfz17_4
                    try clear hfz17_5
                    try clear p2
                    obtain ⟨x9_3, x10_3, rfl, HA, HK3, HO_7, HO_9, BK731, HB⟩ := hrel
                    cases gk with
                    | zero => exact absurd HA.out (by simp [conclavelaw04_TreeHoles.l1])
                    | succ k3 =>
                      have H := HA.out
                      clear HA
                      simp only [conclavelaw04_TreeHoles.l1] at H
                      by_cases c23 : x10_3 < a1
                      · rw [if_pos c23] at H
                        have c23b0 : decide (x10_3 < a1) = true := decide_eq_true c23
                        clear c23
                        by_cases c24 : 0 ≤ x10_3
                        · rw [if_pos c24] at H
                          have c24b0 : decide (0 ≤ x10_3) = true := decide_eq_true c24
                          clear c24
                          by_cases c25 : x10_3 < (x9_3.length : Int)
                          · rw [if_pos c25] at H
                            have c25b0 : decide (x10_3 < (x9_3.length : Int)) = true := decide_eq_true c25
                            clear c25
                            obtain ⟨y744, hy744⟩ : ∃ y_ : List Bool, y_ = (x9_3.set (x10_3 : Int).toNat true) := ⟨_, rfl⟩
                            replace H : (conclavelaw04_TreeHoles.l1 k3 a1 l2 x7_2 y744 (wrap64 (x10_3 + 1)) a0_0 a0_1 a0_2 a0_3 a0_4 l0_5) = some r := by first | (rw [hy744]; with_reducible exact H) | (have H2_ := (Option.bind_some _ _).symm.trans H; rw [hy744]; with_reducible exact H2_) | (have H2_ := (Option.bind_some _ _).symm.trans H; with_reducible exact H2_) | with_reducible exact H | (rw [hy744]; exact H) | exact H
                            have Ny744 := Aside0.mk hy744
                            clear hy744
                            have H' := Aside0.mk H
                            clear H
                            have p26 : 0 ≤ (x10_3 : Int) := of_decide_eq_true (by first | (with_reducible assumption) | assumption)
                            have q26 : (x10_3 : Int) < ((x9_3.length : Int) : Int) := of_decide_eq_true (by first | (with_reducible assumption) | assumption)
                            obtain ⟨go26, co26, eo26, gb26, gl26, cl26, HG26⟩ := Kd.R_form HO_9.out (by omega)
                            (first | cases eo26 | (injection eo26 with ea_ en_ ec_; (first | subst ea_ | (injection ea_ with ea_; subst ea_)); subst ec_; clear en_))
                            have GB26 := Aside0.mk gb26
                            have GG26 := Aside0.mk HG26
                            clear gb26 gl26 HG26
                            obtain ⟨hx26_0, hf26_0⟩ := Kd.R_celln false HO_9.out (x10_3 : Int) p26 q26
                            replace p26 := eq_true p26
                            replace q26 := eq_true q26
                            have HP27 := Kd.R_putg HO_9.out (x10_3 : Int) true
                            go_wp2_with (first | ((with_reducible refine gate_store (t := 4) (p := 56) rfl ?_); refine store_event (t := 4) (p := 56) (v := ?vo_w28) (w1 := (wr.setCell ⟨go26, (x10_3 : Int).toNat, none⟩ (.bool true))) ?hg ?ho ?hn ?hr ?_; (case ho => rfl); (case hg => rfl); (case hn => rfl); (case hr => first | (go_simp; done) | (go_simp; rfl)); intro w28 hw; have hg : wr.grownBy w28 (some go26) := (by rw [hw]; exact HP27.2); have hp_ : Kd.R Kd.bool 4 w28 w.heap.size (fun _ => True) (.slice (some ⟨go26, 0, none⟩) x9_3.length co26) y744 := (by rw [hw, Ny744.out]; exact HP27.1); clear HP27; have n0_ := Aside0.mk (Kd.V_afterv (v := (.slice (some ⟨go26, 0, none⟩) x9_3.length co26)) (v1 := (.slice (some ⟨go26, 0, none⟩) x9_3.length co26)) (ok := (fun k_ => k_ ≠ gb731)) (by (with_reducible repeat (first | apply Kd.V_alloc | apply Kd.V_drewN | apply Kd.V_drew)); exact Kd.V_mono HO_7.out (fun _ hk => ⟨hk.2, hk.1⟩)) hg (.inl rfl)); have n1_ := Aside0.mk (hp_); have n2_ := Aside0.mk (blk_grown (g := gb731) (o := .cells #[.bool a0_0, .int .i64 a0_1, .int .i64 a0_2, .int .i64 a0_3, .int .i64 a0_4, .slice A0_5 l0_5.length c0_5] 29 (0, 0)) (by (with_reducible repeat (first | refine blk_drewN ?_ _ | refine blk_drew ?_ | refine blk_alloc ?_ _)); exact BK731.out) hg (Kd.R_ne HO_9.out BK731.out (by decide))); have n3_ := Aside0.mk ((by rw [hw]; exact below_set (HB.out) GB26.out : Below w.heap.size w w28)); clear HO_7; clear HO_9; clear BK731; clear HB; have HO_7 := n0_; have HO_9 := n1_; have BK731 := n2_; have HB := n3_; clear n0_ n1_ n2_ n3_; clear hg hw hp_))
                            go_roundg k3
                            case measure => have := HJ5.out; have := HK2.out; have := HK3.out; omega
                            case rel => exact ⟨(y744), (wrap64 (x10_3 + 1)), (by first | rfl | (simp; done) | (simp [*]; done)), H', ⟨by have := HJ5.out; have := HK2.out; have := HK3.out; omega⟩, ⟨by (with_reducible repeat (first | apply Kd.V_alloc | apply Kd.V_drewN | apply Kd.V_drew)); exact Kd.V_mono HO_7.out (fun _ hk => ⟨hk.2, hk.1⟩)⟩, ⟨by (with_reducible repeat (first | apply Kd.R_alloc | apply Kd.R_drewN | apply Kd.R_drew)); exact HO_9.out⟩, ⟨by (with_reducible repeat (first | refine blk_drewN ?_ _ | refine blk_drew ?_ | refine blk_alloc ?_ _)); exact BK731.out⟩, ⟨by repeat (first | (with_reducible first | exact HB.out | apply below_alloc | apply pw_below_drewN | apply below_drew1 | refine below_set ?_ GE731.out) | exact HB.out)⟩⟩
                          · rw [if_neg c25] at H
                            exact absurd H (by simp)
                        · rw [if_neg c24] at H
                          exact absurd H (by simp)
                      · rw [if_neg c23] at H
                        have c23b0 : decide (x10_3 < a1) = false := decide_eq_false c23
                        clear c23
                        have H' := Aside0.mk H
                        clear H
                        go_wp2
                        go_loopg [7, 11, 60] k3 (fun kq v7 v11 v60 w' => ∃ (x7_4 : List (S29)) (x9_4 : List Bool) (x11_4 : Int) (x60_4 : Int), v11 = .int .i64 x11_4 ∧ v60 = .int .i64 x60_4 ∧ Aside0 (conclavelaw04_TreeHoles.l2 kq x7_4 x9_4 x11_4 l2 (l2.length : Int) x60_4 a0_0 a0_1 a0_2 a0_3 a0_4 l0_5 = some r) ∧ Aside0 (kq ≤ k3) ∧ Aside0 (Kd.V k29 29 w' w.heap.size (fun k_ => some k_ ≠ (v742 : Value).ownBlock ∧ k_ ≠ gb731) v7 x7_4) ∧ Aside0 (Kd.R Kd.bool 4 w' w.heap.size (fun _ => True) v742 x9_4) ∧ Aside0 (w'.heap[gb731]? = some (.cells #[.bool a0_0, .int .i64 a0_1, .int .i64 a0_2, .int .i64 a0_3, .int .i64 a0_4, (.slice A0_5 l0_5.length c0_5)] 29 (0, 0))) ∧ Aside0 (Below w.heap.size w w'))
                        case atStart => exact ⟨(x7_2), (x9_3), (a1), (0), (by first | rfl | (simp; done) | (simp [*]; done)), (by first | rfl | (simp; done) | (simp [*]; done)), H', ⟨Nat.le_refl _⟩, ⟨by (with_reducible repeat (first | apply Kd.V_alloc | apply Kd.V_drewN | apply Kd.V_drew)); exact HO_7.out⟩, ⟨by (with_reducible repeat (first | apply Kd.R_alloc | apply Kd.R_drewN | apply Kd.R_drew)); exact HO_9.out⟩, ⟨by (with_reducible repeat (first | refine blk_drewN ?_ _ | refine blk_drew ?_ | refine blk_alloc ?_ _)); exact BK731.out⟩, ⟨by repeat (first | (with_reducible first | exact HB.out | apply below_alloc | apply pw_below_drewN | apply below_drew1 | refine below_set ?_ GE731.out) | exact HB.out)⟩⟩
                        case round =>
                          clear H'
                          try clear c1
                          try clear c2
                          try clear p2
                          try clear q2
                          try clear hx2
                          try clear c5
                          try clear p6
                          try clear c9
                          try clear c9b0
                          try clear c10
                          try clear c10b0
                          try clear c11
                          try clear c13
                          try clear c15
                          try clear c15b0
                          try clear c19
                          try clear c20
                          try clear c20b0
                          try clear c20b1
                          try clear c23
                          try clear c23b0
                          try clear c24
                          try clear c24b0
                          try clear c25
                          try clear c25b0
                          try clear p26
                          try clear q26
                          try clear hx26
                          try clear hf26
                          try clear c28
                          try clear hcz13_0
                          try clear hcz13_1
                          try clear hcz13_2
                          try clear hcz13_3
                          try clear hcz13_4
                          try clear hcz13_5
                          try clear hcz17_0
                          try clear hcz17_1
                          try clear hcz17_2
                          try clear hcz17_3
                          try clear hcz17_4
                          try clear hcz17_5
                          try clear hfz13_0
                          try clear hfz13_1
                          try clear hfz13_2
                          try clear hfz13_3
                          try clear hfz13_4
                          try clear hfz13_5
                          try clear hfz17_0
                          try clear hfz17_1
                          try clear hfz17_2
                          try clear hfz17_3
                          try clear hfz17_4
                          try clear hfz17_5
                          try clear hx26_0
                          try clear p2
                          try clear p26
                          try clear p6
                          try clear q26
                          obtain ⟨x7_4, x9_4, x11_4, x60_4, rfl, rfl, HA, HK4, HO_7, HO_9, BK731, HB⟩ := hrel
                          cases gk with
                          | zero => exact absurd HA.out (by simp [conclavelaw04_TreeHoles.l2])
                          | succ k4 =>
                            have H := HA.out
                            clear HA
                            simp only [conclavelaw04_TreeHoles.l2] at H
                            by_cases c29 : x60_4 < (l2.length : Int)
                            · rw [if_pos c29] at H
                              have c29b0 : decide (x60_4 < (l2.length : Int)) = true := decide_eq_true c29
                              clear c29
                              by_cases c30 : 0 ≤ x60_4
                              · rw [if_pos c30] at H
                                have c30b0 : decide (0 ≤ x60_4) = true := decide_eq_true c30
                                clear c30
                                by_cases c31 : x60_4 < (l2.length : Int)
                                · rw [if_pos c31] at H
                                  have c31b0 : decide (x60_4 < (l2.length : Int)) = true := decide_eq_true c31
                                  clear c31
                                  replace H := Option.bind_eq_some_iff.mp H
                                  obtain ⟨⟨t746, t749⟩, A320, H⟩ := H
                                  replace H : (if (rd l2 x60_4) ≥ 0 then (if (rd l2 x60_4) < 64 then (if 0 ≤ (mx 0 (mn (rd l2 x60_4) 63)) then (if (mx 0 (mn (rd l2 x60_4) 63)) < (x9_4.length : Int) then (if rdOf false x9_4 (mx 0 (mn (rd l2 x60_4) 63)) = true then (conclavelaw04_TreeHoles.j4 k4 x7_4 x9_4 x11_4 (rd l2 x60_4) t746 t749 (decide (x11_4 > 1)) l2 (l2.length : Int) x60_4 a0_0 a0_1 a0_2 a0_3 a0_4 l0_5) else (conclavelaw04_TreeHoles.j4 k4 x7_4 x9_4 x11_4 (rd l2 x60_4) t746 t749 false l2 (l2.length : Int) x60_4 a0_0 a0_1 a0_2 a0_3 a0_4 l0_5)) else (none)) else (none)) else (conclavelaw04_TreeHoles.j4 k4 x7_4 x9_4 x11_4 (rd l2 x60_4) t746 t749 false l2 (l2.length : Int) x60_4 a0_0 a0_1 a0_2 a0_3 a0_4 l0_5)) else (conclavelaw04_TreeHoles.j4 k4 x7_4 x9_4 x11_4 (rd l2 x60_4) t746 t749 false l2 (l2.length : Int) x60_4 a0_0 a0_1 a0_2 a0_3 a0_4 l0_5)) = some r := H
                                  have A32 := Aside0.mk A320
                                  clear A320
                                  have HC33 := Aside0.mk H
                                  clear H
                                  have p745 : 0 ≤ (x60_4 : Int) := of_decide_eq_true (by first | (with_reducible assumption) | assumption)
                                  have q745 : x60_4 < (l2.length : Int) := of_decide_eq_true (by first | (with_reducible assumption) | assumption)
                                  obtain ⟨ad745, e745, hx745_0⟩ := Kd.at_int HR2.out x60_4 p745 q745
                                  cases e745
                                  replace hx745_0 := (HB.out.cell (World.block_lt_of_cell? w _ hx745_0)).trans hx745_0
                                  replace p745 := eq_true p745
                                  replace q745 := eq_true q745
                                  obtain ⟨Ao34, co34, eo34⟩ := Kd.V_slice HO_7.out
                                  subst eo34
                                  go_upto_region 20 with (first | ((with_reducible refine gate_callee (f := 32) rfl ?_); refine goesL_ (some 67) rfl rfl Tryd.func32 (by kernel_rfl) rfl #[.slice Ao34 x7_4.length co34, .int .i64 (rd l2 x60_4)] rfl (by (try simp only [List.map_toArray, List.map_cons, List.map_nil]); first | done | rfl | (simp only [List.length_drop, List.length_take]; rfl)) ?_; (with_reducible refine (tree_Remove.calls (hrG := ?sideG) k4 (fun k_ => (some k_ ≠ (v742 : Value).ownBlock ∧ k_ ≠ gb731)) _ _ x7_4 (rd l2 x60_4) t746 t749 _ ?side1 A32.out).mono ?_); (case sideG => (first | (with_reducible exact HRG.out) | exact TabG.below HRG.out (by repeat (first | (with_reducible first | exact HB.out | apply below_alloc | apply pw_below_drewN | apply below_drew1 | refine below_set ?_ GE731.out) | (with_reducible exact Below.refl _ _))))); (case side1 => exact HO_7.out); rintro e w35 ⟨v747, rfl, ho0, hb⟩; refine ⟨_, rfl, ?_⟩; have n0_ := Aside0.mk (Kd.V_below (by (with_reducible repeat (first | apply Kd.V_alloc | apply Kd.V_drewN | apply Kd.V_drew)); exact HO_7.out) hb); have n1_ := Aside0.mk (Kd.R_below (by (with_reducible repeat (first | apply Kd.R_alloc | apply Kd.R_drewN | apply Kd.R_drew)); exact HO_9.out) hb); have n2_ := Aside0.mk (Kd.V_lower (Kd.V_mono (ok' := fun k_ => some k_ ≠ (v742 : Value).ownBlock ∧ k_ ≠ gb731) ho0 (fun k_ hk_ => ⟨Or.elim hk_ (fun hs_ => hs_.1) (fun hn_ => (Kd.fresh' (Kd.R_lt (by (with_reducible repeat (first | apply Kd.R_alloc | apply Kd.R_drewN | apply Kd.R_drew)); exact HO_9.out)) k_ hn_)), Or.elim hk_ (fun hs_ => hs_.2) (fun hn_ => (Kd.freshB (g := gb731) (o := .cells #[.bool a0_0, .int .i64 a0_1, .int .i64 a0_2, .int .i64 a0_3, .int .i64 a0_4, .slice A0_5 l0_5.length c0_5] 29 (0, 0)) (by (with_reducible repeat (first | refine blk_drewN ?_ _ | refine blk_drew ?_ | refine blk_alloc ?_ _)); exact BK731.out) k_ hn_))⟩)) (below_size (by repeat (first | (with_reducible first | exact HB.out | apply below_alloc | apply pw_below_drewN | apply below_drew1 | refine below_set ?_ GE731.out) | exact HB.out)))); have n3_ := Aside0.mk (blk_below (g := gb731) (o := .cells #[.bool a0_0, .int .i64 a0_1, .int .i64 a0_2, .int .i64 a0_3, .int .i64 a0_4, .slice A0_5 l0_5.length c0_5] 29 (0, 0)) (by (with_reducible repeat (first | refine blk_drewN ?_ _ | refine blk_drew ?_ | refine blk_alloc ?_ _)); exact BK731.out) hb); have n4_ := Aside0.mk (below_step (by repeat (first | (with_reducible first | exact HB.out | apply below_alloc | apply pw_below_drewN | apply below_drew1 | refine below_set ?_ GE731.out) | exact HB.out)) hb); clear HO_7; clear HO_9; clear BK731; clear HB; have HO_7 := n0_; have HO_9 := n1_; have HO748 := n2_; have BK731 := n3_; have HB := n4_; clear n0_ n1_ n2_ n3_ n4_; (try clear hb); (try clear hb2); (try clear hk); (try clear hi); (try clear ho0)))
                                  (try simp only [Act.put, List.setIfInBounds_toArray, List.set_cons_zero, List.set_cons_succ])
                                  go_cut [16] (fun v16 wc => ∃ (kq : Nat) (x16_32 : Bool), v16 = .bool x16_32 ∧ Aside0 (conclavelaw04_TreeHoles.j4 kq x7_4 x9_4 x11_4 (rd l2 x60_4) t746 t749 x16_32 l2 (l2.length : Int) x60_4 a0_0 a0_1 a0_2 a0_3 a0_4 l0_5 = some r) ∧ Aside0 (kq ≤ k4) ∧ Aside0 (Kd.V k29 29 wc w.heap.size (fun k_ => some k_ ≠ (v742 : Value).ownBlock ∧ k_ ≠ gb731) (.slice Ao34 x7_4.length co34) x7_4) ∧ Aside0 (Kd.R Kd.bool 4 wc w.heap.size (fun _ => True) v742 x9_4) ∧ Aside0 (Kd.V k29 29 wc w.heap.size (fun k_ => some k_ ≠ (v742 : Value).ownBlock ∧ k_ ≠ gb731) v747 t746) ∧ Aside0 (wc.heap[gb731]? = some (.cells #[.bool a0_0, .int .i64 a0_1, .int .i64 a0_2, .int .i64 a0_3, .int .i64 a0_4, (.slice A0_5 l0_5.length c0_5)] 29 (0, 0))) ∧ Aside0 (Below w.heap.size w wc))
                                  case first =>
                                    have H := HC33.out
                                    clear HC33
                                    by_cases c36 : (rd l2 x60_4) ≥ 0
                                    · rw [if_pos c36] at H
                                      have c36b0 : decide (0 ≤ (rd l2 x60_4)) = true := decide_eq_true c36
                                      clear c36
                                      (first | rw [c36b0] | (simp only [i64_w, i32_w]; rw [c36b0]) | skip)
                                      by_cases c37 : (rd l2 x60_4) < 64
                                      · rw [if_pos c37] at H
                                        have c37b0 : decide ((rd l2 x60_4) < 64) = true := decide_eq_true c37
                                        clear c37
                                        obtain ⟨ji38, hji38⟩ : ∃ j_ : Int, (mn (rd l2 x60_4) 63) = j_ := ⟨_, rfl⟩
                                        replace H : (if 0 ≤ (mx 0 (ji38)) then (if (mx 0 (ji38)) < (x9_4.length : Int) then (if rdOf false x9_4 (mx 0 (ji38)) = true then (conclavelaw04_TreeHoles.j4 k4 x7_4 x9_4 x11_4 (rd l2 x60_4) t746 t749 (decide (x11_4 > 1)) l2 (l2.length : Int) x60_4 a0_0 a0_1 a0_2 a0_3 a0_4 l0_5) else (conclavelaw04_TreeHoles.j4 k4 x7_4 x9_4 x11_4 (rd l2 x60_4) t746 t749 false l2 (l2.length : Int) x60_4 a0_0 a0_1 a0_2 a0_3 a0_4 l0_5)) else (none)) else (none)) = some r := by first | (rw [hji38] at H; exact H) | (simp only [hji38] at H ⊢; exact H)
                                        have hji38_ : (if 63 < (rd l2 x60_4) then 63 else (rd l2 x60_4)) = ji38 := hji38
                                        obtain ⟨ji39, hji39⟩ : ∃ j_ : Int, (mx 0 (ji38)) = j_ := ⟨_, rfl⟩
                                        replace H : (if 0 ≤ (ji39) then (if (ji39) < (x9_4.length : Int) then (if rdOf false x9_4 (ji39) = true then (conclavelaw04_TreeHoles.j4 k4 x7_4 x9_4 x11_4 (rd l2 x60_4) t746 t749 (decide (x11_4 > 1)) l2 (l2.length : Int) x60_4 a0_0 a0_1 a0_2 a0_3 a0_4 l0_5) else (conclavelaw04_TreeHoles.j4 k4 x7_4 x9_4 x11_4 (rd l2 x60_4) t746 t749 false l2 (l2.length : Int) x60_4 a0_0 a0_1 a0_2 a0_3 a0_4 l0_5)) else (none)) else (none)) = some r := by first | (rw [hji39] at H; exact H) | (simp only [hji39] at H ⊢; exact H)
                                        have hji39_ : (if 0 < (ji38) then (ji38) else 0) = ji39 := hji39
                                        by_cases c40 : 0 ≤ (ji39)
                                        · rw [if_pos c40] at H
                                          have c40b0 : decide (0 ≤ (ji39)) = true := decide_eq_true c40
                                          clear c40
                                          by_cases c41 : (ji39) < (x9_4.length : Int)
                                          · rw [if_pos c41] at H
                                            have c41b0 : decide ((ji39) < (x9_4.length : Int)) = true := decide_eq_true c41
                                            clear c41
                                            obtain ⟨bq42, hbq42⟩ : ∃ b_ : Bool, b_ = (rdOf false x9_4 (ji39)) := ⟨_, rfl⟩
                                            replace H : (if bq42 = true then (conclavelaw04_TreeHoles.j4 k4 x7_4 x9_4 x11_4 (rd l2 x60_4) t746 t749 (decide (x11_4 > 1)) l2 (l2.length : Int) x60_4 a0_0 a0_1 a0_2 a0_3 a0_4 l0_5) else (conclavelaw04_TreeHoles.j4 k4 x7_4 x9_4 x11_4 (rd l2 x60_4) t746 t749 false l2 (l2.length : Int) x60_4 a0_0 a0_1 a0_2 a0_3 a0_4 l0_5)) = some r := by rw [← hbq42] at H; exact H
                                            have Nbq42 := Aside0.mk hbq42
                                            clear hbq42
                                            by_cases c43 : bq42 = true
                                            · subst c43
                                              have H1 : (conclavelaw04_TreeHoles.j4 k4 x7_4 x9_4 x11_4 (rd l2 x60_4) t746 t749 (decide (x11_4 > 1)) l2 (l2.length : Int) x60_4 a0_0 a0_1 a0_2 a0_3 a0_4 l0_5) = some r := by rw [if_pos rfl] at H; exact H
                                              clear H
                                              have H := H1
                                              clear H1
                                              have H' := Aside0.mk H
                                              clear H
                                              obtain ⟨Ao44, co44, eo44⟩ := Kd.R_slice HO_9.out
                                              subst eo44
                                              have p750 : 0 ≤ ((ji39) : Int) := of_decide_eq_true (by first | (with_reducible assumption) | assumption)
                                              have q750 : (ji39) < (x9_4.length : Int) := of_decide_eq_true (by first | (with_reducible assumption) | assumption)
                                              obtain ⟨ad750, e750, hx750_0⟩ := Kd.at_bool (Kd.R_reads' HO_9.out).2.2 (ji39) p750 q750
                                              (try rw [← Nbq42.out] at hx750_0)
                                              cases e750
                                              replace p750 := eq_true p750
                                              replace q750 := eq_true q750
                                              go_wp2
                                              go_meet
                                              case rel => exact ⟨_, (decide (x11_4 > 1)), (by first | rfl | (simp; done) | (simp [*]; done)), H', ⟨by have := HJ5.out; have := HK2.out; have := HK3.out; have := HK4.out; first | omega | exact Nat.le_refl _⟩, ⟨by (with_reducible repeat (first | apply Kd.V_alloc | apply Kd.V_drewN | apply Kd.V_drew)); exact HO_7.out⟩, ⟨by (with_reducible repeat (first | apply Kd.R_alloc | apply Kd.R_drewN | apply Kd.R_drew)); exact HO_9.out⟩, ⟨by (with_reducible repeat (first | apply Kd.V_alloc | apply Kd.V_drewN | apply Kd.V_drew)); exact HO748.out⟩, ⟨by (with_reducible repeat (first | refine blk_drewN ?_ _ | refine blk_drew ?_ | refine blk_alloc ?_ _)); exact BK731.out⟩, ⟨by repeat (first | (with_reducible first | exact HB.out | apply below_alloc | apply pw_below_drewN | apply below_drew1 | refine below_set ?_ GE731.out) | exact HB.out)⟩⟩
                                            · replace c43 := Bool.eq_false_iff.mpr c43
                                              subst c43
                                              have H1 : (conclavelaw04_TreeHoles.j4 k4 x7_4 x9_4 x11_4 (rd l2 x60_4) t746 t749 false l2 (l2.length : Int) x60_4 a0_0 a0_1 a0_2 a0_3 a0_4 l0_5) = some r := by rw [if_neg (show ¬ (false = true) by decide)] at H; exact H
                                              clear H
                                              have H := H1
                                              clear H1
                                              have H' := Aside0.mk H
                                              clear H
                                              obtain ⟨Ao45, co45, eo45⟩ := Kd.R_slice HO_9.out
                                              subst eo45
                                              have p750 : 0 ≤ ((ji39) : Int) := of_decide_eq_true (by first | (with_reducible assumption) | assumption)
                                              have q750 : (ji39) < (x9_4.length : Int) := of_decide_eq_true (by first | (with_reducible assumption) | assumption)
                                              obtain ⟨ad750, e750, hx750_0⟩ := Kd.at_bool (Kd.R_reads' HO_9.out).2.2 (ji39) p750 q750
                                              (try rw [← Nbq42.out] at hx750_0)
                                              cases e750
                                              replace p750 := eq_true p750
                                              replace q750 := eq_true q750
                                              go_wp2
                                              go_meet
                                              case rel => exact ⟨_, (false), (by first | rfl | (simp; done) | (simp [*]; done)), H', ⟨by have := HJ5.out; have := HK2.out; have := HK3.out; have := HK4.out; first | omega | exact Nat.le_refl _⟩, ⟨by (with_reducible repeat (first | apply Kd.V_alloc | apply Kd.V_drewN | apply Kd.V_drew)); exact HO_7.out⟩, ⟨by (with_reducible repeat (first | apply Kd.R_alloc | apply Kd.R_drewN | apply Kd.R_drew)); exact HO_9.out⟩, ⟨by (with_reducible repeat (first | apply Kd.V_alloc | apply Kd.V_drewN | apply Kd.V_drew)); exact HO748.out⟩, ⟨by (with_reducible repeat (first | refine blk_drewN ?_ _ | refine blk_drew ?_ | refine blk_alloc ?_ _)); exact BK731.out⟩, ⟨by repeat (first | (with_reducible first | exact HB.out | apply below_alloc | apply pw_below_drewN | apply below_drew1 | refine below_set ?_ GE731.out) | exact HB.out)⟩⟩
                                          · rw [if_neg c41] at H
                                            exact absurd H (by simp)
                                        · rw [if_neg c40] at H
                                          exact absurd H (by simp)
                                      · rw [if_neg c37] at H
                                        have c37b0 : decide ((rd l2 x60_4) < 64) = false := decide_eq_false c37
                                        clear c37
                                        have H' := Aside0.mk H
                                        clear H
                                        go_wp2
                                        go_meet
                                        case rel => exact ⟨_, (false), (by first | rfl | (simp; done) | (simp [*]; done)), H', ⟨by have := HJ5.out; have := HK2.out; have := HK3.out; have := HK4.out; first | omega | exact Nat.le_refl _⟩, ⟨by (with_reducible repeat (first | apply Kd.V_alloc | apply Kd.V_drewN | apply Kd.V_drew)); exact HO_7.out⟩, ⟨by (with_reducible repeat (first | apply Kd.R_alloc | apply Kd.R_drewN | apply Kd.R_drew)); exact HO_9.out⟩, ⟨by (with_reducible repeat (first | apply Kd.V_alloc | apply Kd.V_drewN | apply Kd.V_drew)); exact HO748.out⟩, ⟨by (with_reducible repeat (first | refine blk_drewN ?_ _ | refine blk_drew ?_ | refine blk_alloc ?_ _)); exact BK731.out⟩, ⟨by repeat (first | (with_reducible first | exact HB.out | apply below_alloc | apply pw_below_drewN | apply below_drew1 | refine below_set ?_ GE731.out) | exact HB.out)⟩⟩
                                    · rw [if_neg c36] at H
                                      have c36b0 : decide (0 ≤ (rd l2 x60_4)) = false := decide_eq_false c36
                                      clear c36
                                      (first | rw [c36b0] | (simp only [i64_w, i32_w]; rw [c36b0]) | skip)
                                      have H' := Aside0.mk H
                                      clear H
                                      go_wp2
                                      go_meet
                                      case rel => exact ⟨_, (false), (by first | rfl | (simp; done) | (simp [*]; done)), H', ⟨by have := HJ5.out; have := HK2.out; have := HK3.out; have := HK4.out; first | omega | exact Nat.le_refl _⟩, ⟨by (with_reducible repeat (first | apply Kd.V_alloc | apply Kd.V_drewN | apply Kd.V_drew)); exact HO_7.out⟩, ⟨by (with_reducible repeat (first | apply Kd.R_alloc | apply Kd.R_drewN | apply Kd.R_drew)); exact HO_9.out⟩, ⟨by (with_reducible repeat (first | apply Kd.V_alloc | apply Kd.V_drewN | apply Kd.V_drew)); exact HO748.out⟩, ⟨by (with_reducible repeat (first | refine blk_drewN ?_ _ | refine blk_drew ?_ | refine blk_alloc ?_ _)); exact BK731.out⟩, ⟨by repeat (first | (with_reducible first | exact HB.out | apply below_alloc | apply pw_below_drewN | apply below_drew1 | refine below_set ?_ GE731.out) | exact HB.out)⟩⟩
                                  case rest =>
                                    clear HC33
                                    try clear c1
                                    try clear c2
                                    try clear p2
                                    try clear q2
                                    try clear hx2
                                    try clear c3
                                    try clear c4
                                    try clear q4
                                    try clear c5
                                    try clear p6
                                    try clear p7
                                    try clear q7
                                    try clear hx7
                                    try clear c9
                                    try clear c9b0
                                    try clear c10
                                    try clear c10b0
                                    try clear c11
                                    try clear c13
                                    try clear c15
                                    try clear c15b0
                                    try clear c19
                                    try clear c20
                                    try clear c20b0
                                    try clear c20b1
                                    try clear c23
                                    try clear c23b0
                                    try clear c24
                                    try clear c24b0
                                    try clear c25
                                    try clear c25b0
                                    try clear p26
                                    try clear q26
                                    try clear hx26
                                    try clear hf26
                                    try clear c28
                                    try clear c29
                                    try clear c29b0
                                    try clear c30
                                    try clear c30b0
                                    try clear c31
                                    try clear c31b0
                                    try clear c32
                                    try clear c36
                                    try clear c36b0
                                    try clear c37
                                    try clear c37b0
                                    try clear c40
                                    try clear c40b0
                                    try clear c41
                                    try clear c41b0
                                    try clear q42
                                    try clear c43
                                    try clear hcz13_0
                                    try clear hcz13_1
                                    try clear hcz13_2
                                    try clear hcz13_3
                                    try clear hcz13_4
                                    try clear hcz13_5
                                    try clear hcz17_0
                                    try clear hcz17_1
                                    try clear hcz17_2
                                    try clear hcz17_3
                                    try clear hcz17_4
                                    try clear hcz17_5
                                    try clear hfz13_0
                                    try clear hfz13_1
                                    try clear hfz13_2
                                    try clear hfz13_3
                                    try clear hfz13_4
                                    try clear hfz13_5
                                    try clear hfz17_0
                                    try clear hfz17_1
                                    try clear hfz17_2
                                    try clear hfz17_3
                                    try clear hfz17_4
                                    try clear hfz17_5
                                    try clear hx26_0
                                    try clear hx745_0
                                    try clear hx750_0
                                    try clear p2
                                    try clear p26
                                    try clear p6
                                    try clear p745
                                    try clear p750
                                    try clear q2
                                    try clear q26
                                    try clear q745
                                    try clear q750
                                    obtain ⟨kq, x16_32, rfl, HA, HJ32, HO_7, HO_9, HO_14, BK731, HB⟩ := hcut
                                    cases kq with
                                    | zero => exact absurd HA.out (by simp [conclavelaw04_TreeHoles.j4])
                                    | succ kj32 =>
                                      have H := HA.out
                                      clear HA
                                      simp only [conclavelaw04_TreeHoles.j4] at H
                                      by_cases c46 : (x16_32 != (t749 == 0)) = true
                                      · rw [if_pos c46] at H
                                        have c46b0 : (x16_32 != (t749 == 0)) = true := c46
                                        (try (have c46b1 : decide (x16_32 = (t749 == 0)) = false := by simpa using c46))
                                        (try (have c46b2 : (x16_32 == (t749 == 0)) = false := by simpa using c46))
                                        (try (have c46b3 : ¬ (x16_32 = (t749 == 0)) := by simpa using c46))
                                        clear c46
                                        obtain rfl := Option.some.inj H
                                        try exact absurd hr Bool.false_ne_true
                                        all_goals
                                          go_wp2
                                          go_ret
                                          exact ⟨by first | rfl | (simp [errW_none, errW_some] <;> rfl) | (simp [*, errW_none, errW_some] <;> rfl), by repeat (first | (with_reducible first | exact HB.out | apply below_alloc | apply pw_below_drewN | apply below_drew1 | refine below_set ?_ GE731.out) | exact HB.out)⟩
                                      · rw [if_neg c46] at H
                                        have c46b0 : (x16_32 != (t749 == 0)) = false := by simpa using c46
                                        (try (have c46b1 : decide (x16_32 = (t749 == 0)) = true := by simpa using c46))
                                        (try (have c46b2 : (x16_32 == (t749 == 0)) = true := by simpa using c46))
                                        clear c46
                                        by_cases c47 : x16_32 = true
                                        · subst c47
                                          have H1 : (if 0 ≤ (rd l2 x60_4) then (if (rd l2 x60_4) < (x9_4.length : Int) then (conclavelaw04_TreeHoles.l2 kj32 t746 (x9_4.set ((rd l2 x60_4) : Int).toNat false) (wrap64 (x11_4 - 1)) l2 (l2.length : Int) (wrap64 (x60_4 + 1)) a0_0 a0_1 a0_2 a0_3 a0_4 l0_5) else (none)) else (none)) = some r := by rw [if_pos rfl] at H; exact H
                                          clear H
                                          have H := H1
                                          clear H1
                                          by_cases c48 : 0 ≤ (rd l2 x60_4)
                                          · rw [if_pos c48] at H
                                            have c48b0 : decide (0 ≤ (rd l2 x60_4)) = true := decide_eq_true c48
                                            clear c48
                                            by_cases c49 : (rd l2 x60_4) < (x9_4.length : Int)
                                            · rw [if_pos c49] at H
                                              have c49b0 : decide ((rd l2 x60_4) < (x9_4.length : Int)) = true := decide_eq_true c49
                                              clear c49
                                              obtain ⟨y751, hy751⟩ : ∃ y_ : List Bool, y_ = (x9_4.set ((rd l2 x60_4) : Int).toNat false) := ⟨_, rfl⟩
                                              replace H : (conclavelaw04_TreeHoles.l2 kj32 t746 y751 (wrap64 (x11_4 - 1)) l2 (l2.length : Int) (wrap64 (x60_4 + 1)) a0_0 a0_1 a0_2 a0_3 a0_4 l0_5) = some r := by first | (rw [hy751]; with_reducible exact H) | (have H2_ := (Option.bind_some _ _).symm.trans H; rw [hy751]; with_reducible exact H2_) | (have H2_ := (Option.bind_some _ _).symm.trans H; with_reducible exact H2_) | with_reducible exact H | (rw [hy751]; exact H) | exact H
                                              have Ny751 := Aside0.mk hy751
                                              clear hy751
                                              have H' := Aside0.mk H
                                              clear H
                                              have p50 : 0 ≤ ((rd l2 x60_4) : Int) := of_decide_eq_true (by first | (with_reducible assumption) | assumption)
                                              have q50 : ((rd l2 x60_4) : Int) < ((x9_4.length : Int) : Int) := of_decide_eq_true (by first | (with_reducible assumption) | assumption)
                                              obtain ⟨go50, co50, eo50, gb50, gl50, cl50, HG50⟩ := Kd.R_form HO_9.out (by omega)
                                              (first | cases eo50 | (injection eo50 with ea_ en_ ec_; (first | subst ea_ | (injection ea_ with ea_; subst ea_)); subst ec_; clear en_))
                                              have GB50 := Aside0.mk gb50
                                              have GG50 := Aside0.mk HG50
                                              clear gb50 gl50 HG50
                                              obtain ⟨hx50_0, hf50_0⟩ := Kd.R_celln false HO_9.out ((rd l2 x60_4) : Int) p50 q50
                                              replace p50 := eq_true p50
                                              replace q50 := eq_true q50
                                              have HP51 := Kd.R_putg HO_9.out ((rd l2 x60_4) : Int) false
                                              go_wp2_with (first | ((with_reducible refine gate_store (t := 4) (p := 96) rfl ?_); refine store_event (t := 4) (p := 96) (v := ?vo_w52) (w1 := (wc.setCell ⟨go50, ((rd l2 x60_4) : Int).toNat, none⟩ (.bool false))) ?hg ?ho ?hn ?hr ?_; (case ho => rfl); (case hg => rfl); (case hn => rfl); (case hr => first | (go_simp; done) | (go_simp; rfl)); intro w52 hw; have hg : wc.grownBy w52 (some go50) := (by rw [hw]; exact HP51.2); have hp_ : Kd.R Kd.bool 4 w52 w.heap.size (fun _ => True) (.slice (some ⟨go50, 0, none⟩) x9_4.length co50) y751 := (by rw [hw, Ny751.out]; exact HP51.1); clear HP51; have n0_ := Aside0.mk (Kd.V_afterv (v := (.slice (some ⟨go50, 0, none⟩) x9_4.length co50)) (v1 := (.slice (some ⟨go50, 0, none⟩) x9_4.length co50)) (ok := (fun k_ => k_ ≠ gb731)) (by (with_reducible repeat (first | apply Kd.V_alloc | apply Kd.V_drewN | apply Kd.V_drew)); exact Kd.V_mono HO_7.out (fun _ hk => ⟨hk.2, hk.1⟩)) hg (.inl rfl)); have n1_ := Aside0.mk (hp_); have n2_ := Aside0.mk (Kd.V_afterv (v := (.slice (some ⟨go50, 0, none⟩) x9_4.length co50)) (v1 := (.slice (some ⟨go50, 0, none⟩) x9_4.length co50)) (ok := (fun k_ => k_ ≠ gb731)) (by (with_reducible repeat (first | apply Kd.V_alloc | apply Kd.V_drewN | apply Kd.V_drew)); exact Kd.V_mono HO_14.out (fun _ hk => ⟨hk.2, hk.1⟩)) hg (.inl rfl)); have n3_ := Aside0.mk (blk_grown (g := gb731) (o := .cells #[.bool a0_0, .int .i64 a0_1, .int .i64 a0_2, .int .i64 a0_3, .int .i64 a0_4, .slice A0_5 l0_5.length c0_5] 29 (0, 0)) (by (with_reducible repeat (first | refine blk_drewN ?_ _ | refine blk_drew ?_ | refine blk_alloc ?_ _)); exact BK731.out) hg (Kd.R_ne HO_9.out BK731.out (by decide))); have n4_ := Aside0.mk ((by rw [hw]; exact below_set (HB.out) GB50.out : Below w.heap.size w w52)); clear HO_7; clear HO_9; clear HO_14; clear BK731; clear HB; have HO_7 := n0_; have HO_9 := n1_; have HO_14 := n2_; have BK731 := n3_; have HB := n4_; clear n0_ n1_ n2_ n3_ n4_; clear hg hw hp_))
                                              go_roundg kj32
                                              case measure => have := HJ5.out; have := HK2.out; have := HK3.out; have := HK4.out; have := HJ32.out; omega
                                              case rel => exact ⟨(t746), (y751), (wrap64 (x11_4 - 1)), (wrap64 (x60_4 + 1)), (by first | rfl | (simp; done) | (simp [*]; done)), (by first | rfl | (simp; done) | (simp [*]; done)), H', ⟨by have := HJ5.out; have := HK2.out; have := HK3.out; have := HK4.out; have := HJ32.out; omega⟩, ⟨by (with_reducible repeat (first | apply Kd.V_alloc | apply Kd.V_drewN | apply Kd.V_drew)); exact Kd.V_mono HO_14.out (fun _ hk => ⟨hk.2, hk.1⟩)⟩, ⟨by (with_reducible repeat (first | apply Kd.R_alloc | apply Kd.R_drewN | apply Kd.R_drew)); exact HO_9.out⟩, ⟨by (with_reducible repeat (first | refine blk_drewN ?_ _ | refine blk_drew ?_ | refine blk_alloc ?_ _)); exact BK731.out⟩, ⟨by repeat (first | (with_reducible first | exact HB.out | apply below_alloc | apply pw_below_drewN | apply below_drew1 | refine below_set ?_ GE731.out) | exact HB.out)⟩⟩
                                            · rw [if_neg c49] at H
                                              exact absurd H (by simp)
                                          · rw [if_neg c48] at H
                                            exact absurd H (by simp)
                                        · replace c47 := Bool.eq_false_iff.mpr c47
                                          subst c47
                                          have H1 : (conclavelaw04_TreeHoles.l2 kj32 x7_4 x9_4 x11_4 l2 (l2.length : Int) (wrap64 (x60_4 + 1)) a0_0 a0_1 a0_2 a0_3 a0_4 l0_5) = some r := by rw [if_neg (show ¬ (false = true) by decide)] at H; exact H
                                          clear H
                                          have H := H1
                                          clear H1
                                          have H' := Aside0.mk H
                                          clear H
                                          go_wp2
                                          go_roundg kj32
                                          case measure => have := HJ5.out; have := HK2.out; have := HK3.out; have := HK4.out; have := HJ32.out; omega
                                          case rel => exact ⟨(x7_4), (x9_4), (x11_4), (wrap64 (x60_4 + 1)), (by first | rfl | (simp; done) | (simp [*]; done)), (by first | rfl | (simp; done) | (simp [*]; done)), H', ⟨by have := HJ5.out; have := HK2.out; have := HK3.out; have := HK4.out; have := HJ32.out; omega⟩, ⟨by (with_reducible repeat (first | apply Kd.V_alloc | apply Kd.V_drewN | apply Kd.V_drew)); exact HO_7.out⟩, ⟨by (with_reducible repeat (first | apply Kd.R_alloc | apply Kd.R_drewN | apply Kd.R_drew)); exact HO_9.out⟩, ⟨by (with_reducible repeat (first | refine blk_drewN ?_ _ | refine blk_drew ?_ | refine blk_alloc ?_ _)); exact BK731.out⟩, ⟨by repeat (first | (with_reducible first | exact HB.out | apply below_alloc | apply pw_below_drewN | apply below_drew1 | refine below_set ?_ GE731.out) | exact HB.out)⟩⟩
                                · rw [if_neg c31] at H
                                  exact absurd H (by simp)
                              · rw [if_neg c30] at H
                                exact absurd H (by simp)
                            · rw [if_neg c29] at H
                              have c29b0 : decide (x60_4 < (l2.length : Int)) = false := decide_eq_false c29
                              clear c29
                              have H' := Aside0.mk H
                              clear H
                              go_wp2
                              go_loopg [17] k4 (fun kq v17 w' => ∃ (x17_5 : Int), v17 = .int .i64 x17_5 ∧ Aside0 (conclavelaw04_TreeHoles.l3 kq x7_4 x9_4 x17_5 a0_0 a0_1 a0_2 a0_3 a0_4 l0_5 = some r) ∧ Aside0 (kq ≤ k4) ∧ Aside0 (Kd.V k29 29 w' w.heap.size (fun k_ => some k_ ≠ (v742 : Value).ownBlock ∧ k_ ≠ gb731) u7 x7_4) ∧ Aside0 (Kd.R Kd.bool 4 w' w.heap.size (fun _ => True) v742 x9_4) ∧ Aside0 (w'.heap[gb731]? = some (.cells #[.bool a0_0, .int .i64 a0_1, .int .i64 a0_2, .int .i64 a0_3, .int .i64 a0_4, (.slice A0_5 l0_5.length c0_5)] 29 (0, 0))) ∧ Aside0 (Below w.heap.size w w'))
                              case atStart => exact ⟨(0), (by first | rfl | (simp; done) | (simp [*]; done)), H', ⟨Nat.le_refl _⟩, ⟨by (with_reducible repeat (first | apply Kd.V_alloc | apply Kd.V_drewN | apply Kd.V_drew)); exact HO_7.out⟩, ⟨by (with_reducible repeat (first | apply Kd.R_alloc | apply Kd.R_drewN | apply Kd.R_drew)); exact HO_9.out⟩, ⟨by (with_reducible repeat (first | refine blk_drewN ?_ _ | refine blk_drew ?_ | refine blk_alloc ?_ _)); exact BK731.out⟩, ⟨by repeat (first | (with_reducible first | exact HB.out | apply below_alloc | apply pw_below_drewN | apply below_drew1 | refine below_set ?_ GE731.out) | exact HB.out)⟩⟩
                              case round =>
                                clear H'
                                try clear c1
                                try clear c2
                                try clear p2
                                try clear q2
                                try clear hx2
                                try clear c3
                                try clear c4
                                try clear q4
                                try clear c5
                                try clear p5
                                try clear q5
                                try clear hx5
                                try clear hf5
                                try clear p6
                                try clear p7
                                try clear q7
                                try clear hx7
                                try clear c9
                                try clear c9b0
                                try clear c10
                                try clear c10b0
                                try clear c11
                                try clear c13
                                try clear c15
                                try clear c15b0
                                try clear c19
                                try clear c20
                                try clear c20b0
                                try clear c20b1
                                try clear c23
                                try clear c23b0
                                try clear c24
                                try clear c24b0
                                try clear c25
                                try clear c25b0
                                try clear p26
                                try clear q26
                                try clear hx26
                                try clear hf26
                                try clear c28
                                try clear c29
                                try clear c29b0
                                try clear c30
                                try clear c30b0
                                try clear c31
                                try clear c31b0
                                try clear c32
                                try clear c36
                                try clear c36b0
                                try clear c37
                                try clear c37b0
                                try clear c40
                                try clear c40b0
                                try clear c41
                                try clear c41b0
                                try clear q42
                                try clear c43
                                try clear c46
                                try clear c46b0
                                try clear c46b1
                                try clear c46b2
                                try clear c47
                                try clear c48
                                try clear c48b0
                                try clear c49
                                try clear c49b0
                                try clear p50
                                try clear q50
                                try clear hx50
                                try clear hf50
                                try clear hcz13_0
                                try clear hcz13_1
                                try clear hcz13_2
                                try clear hcz13_3
                                try clear hcz13_4
                                try clear hcz13_5
                                try clear hcz17_0
                                try clear hcz17_1
                                try clear hcz17_2
                                try clear hcz17_3
                                try clear hcz17_4
                                try clear hcz17_5
                                try clear hfz13_0
                                try clear hfz13_1
                                try clear hfz13_2
                                try clear hfz13_3
                                try clear hfz13_4
                                try clear hfz13_5
                                try clear hfz17_0
                                try clear hfz17_1
                                try clear hfz17_2
                                try clear hfz17_3
                                try clear hfz17_4
                                try clear hfz17_5
                                try clear hx26_0
                                try clear hx50_0
                                try clear hx745_0
                                try clear hx750_0
                                try clear p2
                                try clear p26
                                try clear p50
                                try clear p6
                                try clear p7
                                try clear p745
                                try clear p750
                                try clear q2
                                try clear q26
                                try clear q4
                                try clear q42
                                try clear q50
                                try clear q7
                                try clear q745
                                try clear q750
                                obtain ⟨x17_5, rfl, HA, HK5, HO_7, HO_9, BK731, HB⟩ := hrel
                                cases gk with
                                | zero => exact absurd HA.out (by simp [conclavelaw04_TreeHoles.l3])
                                | succ k5 =>
                                  have H := HA.out
                                  clear HA
                                  simp only [conclavelaw04_TreeHoles.l3] at H
                                  by_cases c53 : 0 ≤ x17_5
                                  · rw [if_pos c53] at H
                                    have c53b0 : decide (0 ≤ x17_5) = true := decide_eq_true c53
                                    clear c53
                                    by_cases c54 : x17_5 < (x9_4.length : Int)
                                    · rw [if_pos c54] at H
                                      have c54b0 : decide (x17_5 < (x9_4.length : Int)) = true := decide_eq_true c54
                                      clear c54
                                      obtain ⟨bq55, hbq55⟩ : ∃ b_ : Bool, b_ = (rdOf false x9_4 x17_5) := ⟨_, rfl⟩
                                      replace H : (if bq55 = true then (conclavelaw04_TreeHoles.l3 k5 x7_4 x9_4 (wrap64 (x17_5 + 1)) a0_0 a0_1 a0_2 a0_3 a0_4 l0_5) else ((tree_Add.f k5 x7_4 a0_0 a0_1 a0_2 a0_3 a0_4 l0_5).bind fun bt753 => (if x17_5 = 32 then (some (bt753.2.2 == 41)) else (if bt753.2.2 = 0 then (some (bt753.2.1 == x17_5)) else (some false))))) = some r := by rw [← hbq55] at H; exact H
                                      have Nbq55 := Aside0.mk hbq55
                                      clear hbq55
                                      by_cases c56 : bq55 = true
                                      · subst c56
                                        have H1 : (conclavelaw04_TreeHoles.l3 k5 x7_4 x9_4 (wrap64 (x17_5 + 1)) a0_0 a0_1 a0_2 a0_3 a0_4 l0_5) = some r := by rw [if_pos rfl] at H; exact H
                                        clear H
                                        have H := H1
                                        clear H1
                                        have H' := Aside0.mk H
                                        clear H
                                        obtain ⟨Ao57, co57, eo57⟩ := Kd.R_slice HO_9.out
                                        subst eo57
                                        have p752 : 0 ≤ (x17_5 : Int) := of_decide_eq_true (by first | (with_reducible assumption) | assumption)
                                        have q752 : x17_5 < (x9_4.length : Int) := of_decide_eq_true (by first | (with_reducible assumption) | assumption)
                                        obtain ⟨ad752, e752, hx752_0⟩ := Kd.at_bool (Kd.R_reads' HO_9.out).2.2 x17_5 p752 q752
                                        (try rw [← Nbq55.out] at hx752_0)
                                        cases e752
                                        replace p752 := eq_true p752
                                        replace q752 := eq_true q752
                                        go_wp2
                                        go_roundg k5
                                        case measure => have := HJ5.out; have := HK2.out; have := HK3.out; have := HK4.out; have := HK5.out; omega
                                        case rel => exact ⟨(wrap64 (x17_5 + 1)), (by first | rfl | (simp; done) | (simp [*]; done)), H', ⟨by have := HJ5.out; have := HK2.out; have := HK3.out; have := HK4.out; have := HK5.out; omega⟩, ⟨by (with_reducible repeat (first | apply Kd.V_alloc | apply Kd.V_drewN | apply Kd.V_drew)); exact HO_7.out⟩, ⟨by (with_reducible repeat (first | apply Kd.R_alloc | apply Kd.R_drewN | apply Kd.R_drew)); exact HO_9.out⟩, ⟨by (with_reducible repeat (first | refine blk_drewN ?_ _ | refine blk_drew ?_ | refine blk_alloc ?_ _)); exact BK731.out⟩, ⟨by repeat (first | (with_reducible first | exact HB.out | apply below_alloc | apply pw_below_drewN | apply below_drew1 | refine below_set ?_ GE731.out) | exact HB.out)⟩⟩
                                      · replace c56 := Bool.eq_false_iff.mpr c56
                                        subst c56
                                        have H1 : ((tree_Add.f k5 x7_4 a0_0 a0_1 a0_2 a0_3 a0_4 l0_5).bind fun bt753 => (if x17_5 = 32 then (some (bt753.2.2 == 41)) else (if bt753.2.2 = 0 then (some (bt753.2.1 == x17_5)) else (some false)))) = some r := by rw [if_neg (show ¬ (false = true) by decide)] at H; exact H
                                        clear H
                                        have H := H1
                                        clear H1
                                        replace H := Option.bind_eq_some_iff.mp H
                                        obtain ⟨⟨t753, t756, t757⟩, A580, H⟩ := H
                                        replace H : (if x17_5 = 32 then (some (t757 == 41)) else (if t757 = 0 then (some (t756 == x17_5)) else (some false))) = some r := H
                                        have A58 := Aside0.mk A580
                                        clear A580
                                        by_cases c59 : x17_5 = 32
                                        · rw [if_pos c59] at H
                                          have c59b0 : (x17_5 == 32) = true := beq_iff_eq.mpr c59
                                          have c59b1 : (x17_5 != 32) = false := bne_eq_false_iff_eq.mpr c59
                                          clear c59
                                          obtain rfl := Option.some.inj H
                                          try exact absurd hr Bool.false_ne_true
                                          all_goals
                                            obtain ⟨Ao60, co60, eo60⟩ := Kd.R_slice HO_9.out
                                            subst eo60
                                            have p752 : 0 ≤ (x17_5 : Int) := of_decide_eq_true (by first | (with_reducible assumption) | assumption)
                                            have q752 : x17_5 < (x9_4.length : Int) := of_decide_eq_true (by first | (with_reducible assumption) | assumption)
                                            obtain ⟨ad752, e752, hx752_0⟩ := Kd.at_bool (Kd.R_reads' HO_9.out).2.2 x17_5 p752 q752
                                            (try rw [← Nbq55.out] at hx752_0)
                                            cases e752
                                            replace p752 := eq_true p752
                                            replace q752 := eq_true q752
                                            have hcz61_0 : wr.cell? ⟨gb731, 0, none⟩ = some (.bool a0_0) := (blk_cell BK731.out 0).trans rfl
                                            have hcz61_1 : wr.cell? ⟨gb731, 1, none⟩ = some (.int .i64 a0_1) := (blk_cell BK731.out 1).trans rfl
                                            have hcz61_2 : wr.cell? ⟨gb731, 2, none⟩ = some (.int .i64 a0_2) := (blk_cell BK731.out 2).trans rfl
                                            have hcz61_3 : wr.cell? ⟨gb731, 3, none⟩ = some (.int .i64 a0_3) := (blk_cell BK731.out 3).trans rfl
                                            have hcz61_4 : wr.cell? ⟨gb731, 4, none⟩ = some (.int .i64 a0_4) := (blk_cell BK731.out 4).trans rfl
                                            have hcz61_5 : wr.cell? ⟨gb731, 5, none⟩ = some (.slice A0_5 l0_5.length c0_5) := (blk_cell BK731.out 5).trans rfl
                                            have hfz61_0 := blk_frozen BK731.out 0
                                            have hfz61_1 := blk_frozen BK731.out 1
                                            have hfz61_2 := blk_frozen BK731.out 2
                                            have hfz61_3 := blk_frozen BK731.out 3
                                            have hfz61_4 := blk_frozen BK731.out 4
                                            have hfz61_5 := blk_frozen BK731.out 5
                                            obtain ⟨Ao62, co62, eo62⟩ := Kd.V_slice HO_7.out
                                            subst eo62
                                            go_wp2_with (first | ((with_reducible refine gate_callee (f := 19) rfl ?_); refine goesL_ (some 109) rfl rfl Tryd.func19 (by kernel_rfl) rfl #[.slice Ao62 x7_4.length co62, .agg #[.bool a0_0, .int .i64 a0_1, .int .i64 a0_2, .int .i64 a0_3, .int .i64 a0_4, .slice A0_5 l0_5.length c0_5]] rfl (by (try simp only [List.map_toArray, List.map_cons, List.map_nil]); first | done | rfl | (simp only [List.length_drop, List.length_take]; rfl)) ?_; (with_reducible refine (tree_Add.calls (hrG := ?sideG) k5 _ _ x7_4 a0_0 a0_1 a0_2 a0_3 a0_4 (fun k_ => k_ < w.heap.size) _ _ l0_5 t753 t756 t757 _ ?side1 ?side2 ?side3 A58.out).mono ?_); (case sideG => (first | (with_reducible exact HRG.out) | exact TabG.below HRG.out (by repeat (first | (with_reducible first | exact HB.out | apply below_alloc | apply pw_below_drewN | apply below_drew1 | refine below_set ?_ GE731.out) | (with_reducible exact Below.refl _ _))))); (case side1 => repeat (first | exact (Kd.V_reads' HO_7.out).2.2 | (with_reducible refine Kd.C_alloc ?_ _) | (with_reducible refine Kd.C_drewN ?_ _) | (with_reducible refine Kd.C_drew ?_))); (case side2 => exact (Kd.V_reads' HO_7.out).2.1); (case side3 => exact Kd.V_mk HC0_5.out (Kd.F_below (Kd.C_F (Kd.heap_int .i64) HR0_5.out) (by repeat (first | (with_reducible first | exact HB.out | apply below_alloc | apply pw_below_drewN | apply below_drew1 | refine below_set ?_ GE731.out) | exact HB.out)))); rintro e w63 ⟨v754, rfl, ho0, hb⟩; refine ⟨_, rfl, ?_⟩; have ho0 := Kd.S_N (Kd.S_mono (ok' := fun k_ => (fun k_ => k_ < w.heap.size) k_ ∨ _) ho0 (fun k_ h_ => Or.inr h_)); have n0_ := Aside0.mk (Kd.V_elder' (by (with_reducible repeat (first | apply Kd.V_alloc | apply Kd.V_drewN | apply Kd.V_drew)); exact HO_7.out) (Kd.N_base ho0) hb); have n1_ := Aside0.mk (Kd.R_below (by (with_reducible repeat (first | apply Kd.R_alloc | apply Kd.R_drewN | apply Kd.R_drew)); exact HO_9.out) hb); have n2_ := Aside0.mk (Kd.N_lower (Kd.N_mono (ok' := fun k_ => some k_ ≠ (.slice (some ad752) x9_4.length co60 : Value).ownBlock ∧ k_ ≠ gb731) ho0 (fun k_ hk_ => ⟨Or.elim hk_ (fun hs_ => fun e_ => Nat.not_le.2 hs_ (Kd.R_base HO_9.out k_ e_.symm)) (fun hn_ => (Kd.fresh' (Kd.R_lt (by (with_reducible repeat (first | apply Kd.R_alloc | apply Kd.R_drewN | apply Kd.R_drew)); exact HO_9.out)) k_ hn_)), Or.elim hk_ (fun hs_ => fun e_ => Nat.not_le.2 hs_ (by rw [e_]; exact GW731.out)) (fun hn_ => (Kd.freshB (g := gb731) (o := .cells #[.bool a0_0, .int .i64 a0_1, .int .i64 a0_2, .int .i64 a0_3, .int .i64 a0_4, .slice A0_5 l0_5.length c0_5] 29 (0, 0)) (by (with_reducible repeat (first | refine blk_drewN ?_ _ | refine blk_drew ?_ | refine blk_alloc ?_ _)); exact BK731.out) k_ hn_))⟩)) (below_size (by repeat (first | (with_reducible first | exact HB.out | apply below_alloc | apply pw_below_drewN | apply below_drew1 | refine below_set ?_ GE731.out) | exact HB.out)))); have n3_ := Aside0.mk (blk_below (g := gb731) (o := .cells #[.bool a0_0, .int .i64 a0_1, .int .i64 a0_2, .int .i64 a0_3, .int .i64 a0_4, .slice A0_5 l0_5.length c0_5] 29 (0, 0)) (by (with_reducible repeat (first | refine blk_drewN ?_ _ | refine blk_drew ?_ | refine blk_alloc ?_ _)); exact BK731.out) hb); have n4_ := Aside0.mk (below_step (by repeat (first | (with_reducible first | exact HB.out | apply below_alloc | apply pw_below_drewN | apply below_drew1 | refine below_set ?_ GE731.out) | exact HB.out)) hb); clear HO_7; clear HO_9; clear BK731; clear HB; have HO_7 := n0_; have HO_9 := n1_; have HO755 := n2_; have BK731 := n3_; have HB := n4_; clear n0_ n1_ n2_ n3_ n4_; (try clear hb); (try clear hb2); (try clear hk); (try clear hi); (try clear ho0)))
                                            go_ret
                                            exact ⟨by first | rfl | (simp [errW_none, errW_some] <;> rfl) | (simp [*, errW_none, errW_some] <;> rfl), by repeat (first | (with_reducible first | exact HB.out | apply below_alloc | apply pw_below_drewN | apply below_drew1 | refine below_set ?_ GE731.out) | exact HB.out)⟩
                                        · rw [if_neg c59] at H
                                          have c59b0 : (x17_5 == 32) = false := beq_eq_false_iff_ne.mpr c59
                                          have c59b1 : (x17_5 != 32) = true := bne_iff_ne.mpr c59
                                          by_cases c64 : t757 = 0
                                          · rw [if_pos c64] at H
                                            have c64b0 : (t757 == 0) = true := beq_iff_eq.mpr c64
                                            have c64b1 : (t757 != 0) = false := bne_eq_false_iff_eq.mpr c64
                                            clear c64
                                            obtain rfl := Option.some.inj H
                                            try exact absurd hr Bool.false_ne_true
                                            all_goals
                                              obtain ⟨Ao65, co65, eo65⟩ := Kd.R_slice HO_9.out
                                              subst eo65
                                              have p752 : 0 ≤ (x17_5 : Int) := of_decide_eq_true (by first | (with_reducible assumption) | assumption)
                                              have q752 : x17_5 < (x9_4.length : Int) := of_decide_eq_true (by first | (with_reducible assumption) | assumption)
                                              obtain ⟨ad752, e752, hx752_0⟩ := Kd.at_bool (Kd.R_reads' HO_9.out).2.2 x17_5 p752 q752
                                              (try rw [← Nbq55.out] at hx752_0)
                                              cases e752
                                              replace p752 := eq_true p752
                                              replace q752 := eq_true q752
                                              have hcz66_0 : wr.cell? ⟨gb731, 0, none⟩ = some (.bool a0_0) := (blk_cell BK731.out 0).trans rfl
                                              have hcz66_1 : wr.cell? ⟨gb731, 1, none⟩ = some (.int .i64 a0_1) := (blk_cell BK731.out 1).trans rfl
                                              have hcz66_2 : wr.cell? ⟨gb731, 2, none⟩ = some (.int .i64 a0_2) := (blk_cell BK731.out 2).trans rfl
                                              have hcz66_3 : wr.cell? ⟨gb731, 3, none⟩ = some (.int .i64 a0_3) := (blk_cell BK731.out 3).trans rfl
                                              have hcz66_4 : wr.cell? ⟨gb731, 4, none⟩ = some (.int .i64 a0_4) := (blk_cell BK731.out 4).trans rfl
                                              have hcz66_5 : wr.cell? ⟨gb731, 5, none⟩ = some (.slice A0_5 l0_5.length c0_5) := (blk_cell BK731.out 5).trans rfl
                                              have hfz66_0 := blk_frozen BK731.out 0
                                              have hfz66_1 := blk_frozen BK731.out 1
                                              have hfz66_2 := blk_frozen BK731.out 2
                                              have hfz66_3 := blk_frozen BK731.out 3
                                              have hfz66_4 := blk_frozen BK731.out 4
                                              have hfz66_5 := blk_frozen BK731.out 5
                                              obtain ⟨Ao67, co67, eo67⟩ := Kd.V_slice HO_7.out
                                              subst eo67
                                              go_wp2_with (first | ((with_reducible refine gate_callee (f := 19) rfl ?_); refine goesL_ (some 109) rfl rfl Tryd.func19 (by kernel_rfl) rfl #[.slice Ao67 x7_4.length co67, .agg #[.bool a0_0, .int .i64 a0_1, .int .i64 a0_2, .int .i64 a0_3, .int .i64 a0_4, .slice A0_5 l0_5.length c0_5]] rfl (by (try simp only [List.map_toArray, List.map_cons, List.map_nil]); first | done | rfl | (simp only [List.length_drop, List.length_take]; rfl)) ?_; (with_reducible refine (tree_Add.calls (hrG := ?sideG) k5 _ _ x7_4 a0_0 a0_1 a0_2 a0_3 a0_4 (fun k_ => k_ < w.heap.size) _ _ l0_5 t753 t756 t757 _ ?side1 ?side2 ?side3 A58.out).mono ?_); (case sideG => (first | (with_reducible exact HRG.out) | exact TabG.below HRG.out (by repeat (first | (with_reducible first | exact HB.out | apply below_alloc | apply pw_below_drewN | apply below_drew1 | refine below_set ?_ GE731.out) | (with_reducible exact Below.refl _ _))))); (case side1 => repeat (first | exact (Kd.V_reads' HO_7.out).2.2 | (with_reducible refine Kd.C_alloc ?_ _) | (with_reducible refine Kd.C_drewN ?_ _) | (with_reducible refine Kd.C_drew ?_))); (case side2 => exact (Kd.V_reads' HO_7.out).2.1); (case side3 => exact Kd.V_mk HC0_5.out (Kd.F_below (Kd.C_F (Kd.heap_int .i64) HR0_5.out) (by repeat (first | (with_reducible first | exact HB.out | apply below_alloc | apply pw_below_drewN | apply below_drew1 | refine below_set ?_ GE731.out) | exact HB.out)))); rintro e w68 ⟨v754, rfl, ho0, hb⟩; refine ⟨_, rfl, ?_⟩; have ho0 := Kd.S_N (Kd.S_mono (ok' := fun k_ => (fun k_ => k_ < w.heap.size) k_ ∨ _) ho0 (fun k_ h_ => Or.inr h_)); have n0_ := Aside0.mk (Kd.V_elder' (by (with_reducible repeat (first | apply Kd.V_alloc | apply Kd.V_drewN | apply Kd.V_drew)); exact HO_7.out) (Kd.N_base ho0) hb); have n1_ := Aside0.mk (Kd.R_below (by (with_reducible repeat (first | apply Kd.R_alloc | apply Kd.R_drewN | apply Kd.R_drew)); exact HO_9.out) hb); have n2_ := Aside0.mk (Kd.N_lower (Kd.N_mono (ok' := fun k_ => some k_ ≠ (.slice (some ad752) x9_4.length co65 : Value).ownBlock ∧ k_ ≠ gb731) ho0 (fun k_ hk_ => ⟨Or.elim hk_ (fun hs_ => fun e_ => Nat.not_le.2 hs_ (Kd.R_base HO_9.out k_ e_.symm)) (fun hn_ => (Kd.fresh' (Kd.R_lt (by (with_reducible repeat (first | apply Kd.R_alloc | apply Kd.R_drewN | apply Kd.R_drew)); exact HO_9.out)) k_ hn_)), Or.elim hk_ (fun hs_ => fun e_ => Nat.not_le.2 hs_ (by rw [e_]; exact GW731.out)) (fun hn_ => (Kd.freshB (g := gb731) (o := .cells #[.bool a0_0, .int .i64 a0_1, .int .i64 a0_2, .int .i64 a0_3, .int .i64 a0_4, .slice A0_5 l0_5.length c0_5] 29 (0, 0)) (by (with_reducible repeat (first | refine blk_drewN ?_ _ | refine blk_drew ?_ | refine blk_alloc ?_ _)); exact BK731.out) k_ hn_))⟩)) (below_size (by repeat (first | (with_reducible first | exact HB.out | apply below_alloc | apply pw_below_drewN | apply below_drew1 | refine below_set ?_ GE731.out) | exact HB.out)))); have n3_ := Aside0.mk (blk_below (g := gb731) (o := .cells #[.bool a0_0, .int .i64 a0_1, .int .i64 a0_2, .int .i64 a0_3, .int .i64 a0_4, .slice A0_5 l0_5.length c0_5] 29 (0, 0)) (by (with_reducible repeat (first | refine blk_drewN ?_ _ | refine blk_drew ?_ | refine blk_alloc ?_ _)); exact BK731.out) hb); have n4_ := Aside0.mk (below_step (by repeat (first | (with_reducible first | exact HB.out | apply below_alloc | apply pw_below_drewN | apply below_drew1 | refine below_set ?_ GE731.out) | exact HB.out)) hb); clear HO_7; clear HO_9; clear BK731; clear HB; have HO_7 := n0_; have HO_9 := n1_; have HO755 := n2_; have BK731 := n3_; have HB := n4_; clear n0_ n1_ n2_ n3_ n4_; (try clear hb); (try clear hb2); (try clear hk); (try clear hi); (try clear ho0)))
                                              go_ret
                                              exact ⟨by first | rfl | (simp [errW_none, errW_some] <;> rfl) | (simp [*, errW_none, errW_some] <;> rfl), by repeat (first | (with_reducible first | exact HB.out | apply below_alloc | apply pw_below_drewN | apply below_drew1 | refine below_set ?_ GE731.out) | exact HB.out)⟩
                                          · rw [if_neg c64] at H
                                            exact absurd ((Option.some.inj H).trans hr) Bool.false_ne_true
                                    · rw [if_neg c54] at H
                                      exact absurd H (by simp)
                                  · rw [if_neg c53] at H
                                    exact absurd H (by simp)
                · rw [if_neg c20] at H
                  exact absurd H (by simp)
  · replace c5 := Bool.eq_false_iff.mpr c5
    subst c5
    have H1 : (some false) = some r := by rw [if_neg (show ¬ (false = true) by decide)] at H; exact H
    clear H
    have H := H1
    clear H1
    obtain rfl := Option.some.inj H
    try exact absurd hr Bool.false_ne_true
    all_goals
      go_enter Tryd.func9, Tryd.ntmps9
      go_wp2_with (first | ((with_reducible refine gate_dst (N := 3) rfl ?_); (try (refine gate_guard (by rfl) ?_; dsimp only)); refine box_event ?hg (N := 3) ?hd (cs := #[.bool a0_0, .int .i64 a0_1, .int .i64 a0_2, .int .i64 a0_3, .int .i64 a0_4, .slice A0_5 l0_5.length c0_5]) (t := 29) ?hr ?_; (case hd => rfl); (case hg => rfl); (case hr => first | (go_simp; done) | (go_simp; rfl)); intro gb731 hg w73 hbox hb; have n0_ := Aside0.mk (below_step (by repeat (first | (with_reducible first | exact HB.out | apply below_alloc | apply pw_below_drewN | apply below_drew1) | exact HB.out)) hb); have n1_ := Aside0.mk (hbox); have n2_ := Aside0.mk ((by rw [hg]; exact (below_size (by repeat (first | (with_reducible first | exact HB.out | apply below_alloc | apply pw_below_drewN | apply below_drew1) | exact HB.out))) : w.heap.size ≤ gb731)); have n3_ := Aside0.mk ((by rw [hg]; exact (below_size (by repeat (first | (with_reducible first | exact HB.out | apply below_alloc | apply pw_below_drewN | apply below_drew1) | exact HB.out))) : w.heap.size ≤ gb731)); clear HB; have HB := n0_; have BK731 := n1_; have GW731 := n2_; have GE731 := n3_; clear n0_ n1_ n2_ n3_; clear hb hbox hg) | ((with_reducible refine gate_callee (f := 13) rfl ?_); refine goesL_ (some 21) rfl rfl Tryd.func13 (by kernel_rfl) rfl #[] rfl (by (try simp only [List.map_toArray, List.map_cons, List.map_nil]); first | done | rfl | (simp only [List.length_drop, List.length_take]; rfl)) ?_; (with_reducible refine (conclavelaw04_anchor.calls (hrG := ?sideG) k  false _ A4.out).mono ?_); (case sideG => (first | (with_reducible exact HRG.out) | exact TabG.below HRG.out (by repeat (first | (with_reducible first | exact HB.out | apply below_alloc | apply pw_below_drewN | apply below_drew1 | refine below_set ?_ GE731.out) | (with_reducible exact Below.refl _ _))))); rintro e w74 ⟨rfl, hb⟩; refine ⟨_, rfl, ?_⟩; have n0_ := Aside0.mk (blk_below (g := gb731) (o := .cells #[.bool a0_0, .int .i64 a0_1, .int .i64 a0_2, .int .i64 a0_3, .int .i64 a0_4, .slice A0_5 l0_5.length c0_5] 29 (0, 0)) (by (with_reducible repeat (first | refine blk_drewN ?_ _ | refine blk_drew ?_ | refine blk_alloc ?_ _)); exact BK731.out) hb); have n1_ := Aside0.mk (below_step (by repeat (first | (with_reducible first | exact HB.out | apply below_alloc | apply pw_below_drewN | apply below_drew1 | refine below_set ?_ GE731.out) | exact HB.out)) hb); clear BK731; clear HB; have BK731 := n0_; have HB := n1_; clear n0_ n1_; (try clear hb); (try clear hb2); (try clear hk); (try clear hi)))
      go_ret
      exact ⟨by first | rfl | (simp [errW_none, errW_some] <;> rfl) | (simp [*, errW_none, errW_some] <;> rfl), by repeat (first | (with_reducible first | exact HB.out | apply below_alloc | apply pw_below_drewN | apply below_drew1 | refine below_set ?_ GE731.out) | exact HB.out)⟩
def conclavelaw04_TreeHoles.Pure : Prop := ∀ (a0_0 : Bool) (a0_1 : Int) (a0_2 : Int) (a0_3 : Int) (a0_4 : Int) (l0_5 : List Int) (a1 : Int) (l2 : List Int), (Lit.int .i64 a0_1).wf = true → (Lit.int .i64 a0_2).wf = true → (Lit.int .i64 a0_3).wf = true → (Lit.int .i64 a0_4).wf = true → (l0_5.length ≤ maxLen ∧ ∀ x ∈ l0_5, (Lit.int .i64 x).wf = true) → (Lit.int .i64 a1).wf = true → (l2.length ≤ maxLen ∧ ∀ x ∈ l2, (Lit.int .i64 x).wf = true) → ∃ k, conclavelaw04_TreeHoles.f k a0_0 a0_1 a0_2 a0_3 a0_4 l0_5 a1 l2 = some true
theorem conclavelaw04_TreeHoles.walk (P : conclavelaw04_TreeHoles.Pure) (a0_0 : Bool) (a0_1 : Int) (a0_2 : Int) (a0_3 : Int) (a0_4 : Int) (A0_5 : Option Addr) (c0_5 : Nat) (l0_5 : List Int) (a1 : Int) (A2 : Option Addr) (c2 : Nat) (l2 : List Int) (w : World) (hrG : TabG w) (hr0_5 : Kd.C (Kd.int .i64) w A0_5 l0_5.length l0_5) (hc0_5 : l0_5.length ≤ c0_5) (hr2 : Kd.C (Kd.int .i64) w A2 l2.length l2) (hc2 : l2.length ≤ c2) (h1 : (Lit.int .i64 a0_1).wf = true) (h2 : (Lit.int .i64 a0_2).wf = true) (h3 : (Lit.int .i64 a0_3).wf = true) (h4 : (Lit.int .i64 a0_4).wf = true) (h5 : l0_5.length ≤ maxLen ∧ ∀ x ∈ l0_5, (Lit.int .i64 x).wf = true) (h6 : (Lit.int .i64 a1).wf = true) (h7 : l2.length ≤ maxLen ∧ ∀ x ∈ l2, (Lit.int .i64 x).wf = true) :
    Calls Tryd.prog 9 #[.agg #[.bool a0_0, .int .i64 a0_1, .int .i64 a0_2, .int .i64 a0_3, .int .i64 a0_4, .slice A0_5 l0_5.length c0_5], .int .i64 a1, .slice A2 l2.length c2] w fun e w' => e = .returned (.bool true) ∧ Below w.heap.size w w' := by
  obtain ⟨k, h⟩ := P a0_0 a0_1 a0_2 a0_3 a0_4 l0_5 a1 l2 h1 h2 h3 h4 h5 h6 h7
  refine (conclavelaw04_TreeHoles.calls (hrG := hrG) k a0_0 a0_1 a0_2 a0_3 a0_4 A0_5 c0_5 l0_5 a1 A2 c2 l2 true w hr0_5 hc0_5 hr2 hc2 h rfl).mono ?_
  rintro e w' ⟨rfl, hd⟩
  exact ⟨rfl, hd⟩
end Go.Proofs.YtbblomnhobodkaaDoor.PTw
