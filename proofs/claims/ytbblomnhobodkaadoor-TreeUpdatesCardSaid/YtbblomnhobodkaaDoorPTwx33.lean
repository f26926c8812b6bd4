/- What this claim reaches of longer texts of this session. -/
import Derived.Test.YtbblomnhobodkaaDoorPTwx0
import Derived.Test.YtbblomnhobodkaaDoorPTwx8
import Derived.Test.YtbblomnhobodkaaDoorPTwx13
import Derived.Test.YtbblomnhobodkaaDoorPTwx32
namespace Go.Proofs.YtbblomnhobodkaaDoor.PTw
open Go.RowKit Go.Proofs.YtbblomnhobodkaaDoorW.PW Go.Proofs.YtbblomnhobodkaaDoorW.PL Go.Proofs.YtbblomnhobodkaaDoorW.PM
attribute [local go_sem] max2_int min2_int max_two min_two max_three min_three max_four min_four   -- for this text's walks alone
set_option linter.unusedVariables false
set_option linter.unusedSimpArgs false
mutual
def w4TreeUpdates.j0 : Nat→Int→Int→List (S29)→List (S29)→List Int→List (S29)→Bool→Option (Bool)
 | 0,_,_,_,_,_,_,_=>none
 | k + 1,x2,x3,x9,x11,x13,x16,x90=>if x90 = true then (some false) else (w4TreeUpdates.l0 k x2 x3 x9 x11 x13 x16 ([] : List Int) (x9.length : Int) 0)
def w4TreeUpdates.l0 : Nat→Int→Int→List (S29)→List (S29)→List Int→List (S29)→List Int→Int→Int→Option (Bool)
 | 0,_,_,_,_,_,_,_,_,_=>none
 | k + 1,x2,x3,x9,x11,x13,x16,x18,x92,x93=>if x93 < x92 then ((r4Leaves.f x9).bind fun t799=>((w4upward.f k (wrap64 (2 * x2)) t799).bind fun t800=>(w4TreeUpdates.l1 k x2 x3 x9 x11 x13 x16 x18 x93 false x92 x93 t800 (t800.length : Int) 0))) else (w4TreeUpdates.l2 k x9 x11 x13 x18 0 x13 (x13.length : Int) 0)
def w4TreeUpdates.l1 : Nat→Int→Int→List (S29)→List (S29)→List Int→List (S29)→List Int→Int→Bool→Int→Int→List Int→Int→Int→Option (Bool)
 | 0,_,_,_,_,_,_,_,_,_,_,_,_,_,_=>none
 | k + 1,x2,x3,x9,x11,x13,x16,x18,x19,x20,x92,x93,x100,x101,x102=>if x102 < x101 then (if 0≤x102 then (if x102 < (x100.length : Int) then (if x20 = true then (w4TreeUpdates.l1 k x2 x3 x9 x11 x13 x16 x18 x19 true x92 x93 x100 x101 (wrap64 (x102 + 1))) else (w4TreeUpdates.l1 k x2 x3 x9 x11 x13 x16 x18 x19 (x19 == (rd x100 x102)) x92 x93 x100 x101 (wrap64 (x102 + 1)))) else (none)) else (none)) else (if 0≤x19 then (if x19 < (x9.length : Int) then ((some (([(⟨(rd_T29 x9 x19).f0,(rd_T29 x9 x19).f1,(rd_T29 x9 x19).f2,(rd_T29 x9 x19).f3,(rd_T29 x9 x19).f4,(rd_T29 x9 x19).f5⟩ : S29)] : List (S29)) : List (S29))).bind fun y805=>(if x19 = (wrap64 (2 * x2)) then (if x19 < (x11.length : Int) then (if ((rd_T29 x11 x19).f1) = x3 then (if x19 < (x16.length : Int) then (if ((rd_T29 x16 x19).f1) = x3 then (if ((rd_T29 x11 x19).f0 = true) then (if ((rd_T29 x16 x19).f0 = true) then (w4TreeUpdates.l0 k x2 x3 x9 x11 x13 x16 x18 x92 (wrap64 (x93 + 1))) else (some false)) else (some false)) else (some false)) else (none)) else (some false)) else (none)) else (if x20 = true then (if x19 < (x11.length : Int) then (if (rd_T29 x11 x19).f0 = true then (some false) else (if x19 < (x16.length : Int) then (if (rd_T29 x16 x19).f0 = true then (if x18.length < 17592186044416 then (w4TreeUpdates.l0 k x2 x3 x9 x11 x13 x16 (x18 ++ [x19]) x92 (wrap64 (x93 + 1))) else (none)) else (w4TreeUpdates.l0 k x2 x3 x9 x11 x13 x16 x18 x92 (wrap64 (x93 + 1)))) else (none))) else (none)) else (if x19≤(wrap64 (x19 + 1)) then (if (wrap64 (x19 + 1))≤(x11.length : Int) then ((r4Same.f k y805 ((x11.take ((wrap64 (x19 + 1)) : Int).toNat).drop (x19 : Int).toNat)).bind fun t822=>(if t822 = true then (if (wrap64 (x19 + 1))≤(x16.length : Int) then ((r4Same.f k y805 ((x16.take ((wrap64 (x19 + 1)) : Int).toNat).drop (x19 : Int).toNat)).bind fun t828=>(if t828 = true then (w4TreeUpdates.l0 k x2 x3 x9 x11 x13 x16 x18 x92 (wrap64 (x93 + 1))) else (some false))) else (none)) else (some false))) else (none)) else (none))))) else (none)) else (none))
def w4TreeUpdates.l2 : Nat→List (S29)→List (S29)→List Int→List Int→Int→List Int→Int→Int→Option (Bool)
 | 0,_,_,_,_,_,_,_,_=>none
 | k + 1,x9,x11,x13,x18,x24,x191,x192,x193=>if x193 < x192 then (if 0≤x193 then (if x193 < (x191.length : Int) then (w4TreeUpdates.l3 k x9 x11 x13 x18 x24 (rd x191 x193) x191 x192 x193 x18 (x18.length : Int) 0) else (none)) else (none)) else (if x24 = (x13.length : Int) then (if x24 = (x18.length : Int) then ((tree_Members.f k x11).bind fun t829=>((tree_Members.f k x9).bind fun t832=>((r1Ints.f k t829 t832).bind fun t835=>(some t835)))) else (some false)) else (some false))
def w4TreeUpdates.l3 : Nat→List (S29)→List (S29)→List Int→List Int→Int→Int→List Int→Int→Int→List Int→Int→Int→Option (Bool)
 | 0,_,_,_,_,_,_,_,_,_,_,_,_=>none
 | k + 1,x9,x11,x13,x18,x24,x26,x191,x192,x193,x197,x198,x199=>if x199 < x198 then (if 0≤x199 then (if x199 < (x197.length : Int) then (if x26 = (rd x197 x199) then (w4TreeUpdates.l3 k x9 x11 x13 x18 (wrap64 (x24 + 1)) x26 x191 x192 x193 x197 x198 (wrap64 (x199 + 1))) else (w4TreeUpdates.l3 k x9 x11 x13 x18 x24 x26 x191 x192 x193 x197 x198 (wrap64 (x199 + 1)))) else (none)) else (none)) else (w4TreeUpdates.l2 k x9 x11 x13 x18 x24 x191 x192 (wrap64 (x193 + 1)))
end
def w4TreeUpdates.f (k : Nat) (a0_0 : Bool) (a0_1 : Int) (a0_2 : Int) (a0_3 : Int) (a0_4 : Int) (l0_5 : List Int) (l1 : List (S32)) (a2 : Int) (a3 : Int) : Option (Bool):=(w4anchor.f k).bind fun t776=>(if t776 = true then ((w4grown.f k a0_0 a0_1 a0_2 a0_3 a0_4 l0_5 l1).bind fun t777=>((tree_Update.f k t777 a2 false a3 0 0 0 ([] : List Int)).bind fun bt781=>((tree_Filtered.f k t777 a2).bind fun bt785=>(if 0≤(bt785.1.length : Int) then (if ((bt785.1.length : Int) : Int).toNat≤35184372088832 then ((some (List.replicate ((bt785.1.length : Int) : Int).toNat 0 : List Int)).bind fun y791=>((tree_Merge.f k t777 a2 false a3 0 0 0 ([] : List Int) y791 y791).bind fun bt794=>((r4Full.f t777 a2).bind fun t798=>(if t798 = true then (if bt781.2 = 0 then (if bt794.2 = 0 then (if (bt781.1.length : Int) = (t777.length : Int) then (w4TreeUpdates.j0 k a2 a3 t777 bt781.1 bt785.1 bt794.1 ((bt794.1.length : Int) != (t777.length : Int))) else (w4TreeUpdates.j0 k a2 a3 t777 bt781.1 bt785.1 bt794.1 true)) else (w4TreeUpdates.j0 k a2 a3 t777 bt781.1 bt785.1 bt794.1 true)) else (w4TreeUpdates.j0 k a2 a3 t777 bt781.1 bt785.1 bt794.1 true)) else (if bt781.2 = 40 then (some (bt794.2 == 40)) else (some false)))))) else (none)) else (none))))) else (some false))
theorem w4TreeUpdates.mono_l : ∀ k,(∀ y0 y1 y2 y3 y4 y5 y6,LeO (w4TreeUpdates.j0 k y0 y1 y2 y3 y4 y5 y6) (w4TreeUpdates.j0 (k + 1) y0 y1 y2 y3 y4 y5 y6))∧(∀ y0 y1 y2 y3 y4 y5 y6 y7 y8,LeO (w4TreeUpdates.l0 k y0 y1 y2 y3 y4 y5 y6 y7 y8) (w4TreeUpdates.l0 (k + 1) y0 y1 y2 y3 y4 y5 y6 y7 y8))∧(∀ y0 y1 y2 y3 y4 y5 y6 y7 y8 y9 y10 y11 y12 y13,LeO (w4TreeUpdates.l1 k y0 y1 y2 y3 y4 y5 y6 y7 y8 y9 y10 y11 y12 y13) (w4TreeUpdates.l1 (k + 1) y0 y1 y2 y3 y4 y5 y6 y7 y8 y9 y10 y11 y12 y13))∧(∀ y0 y1 y2 y3 y4 y5 y6 y7,LeO (w4TreeUpdates.l2 k y0 y1 y2 y3 y4 y5 y6 y7) (w4TreeUpdates.l2 (k + 1) y0 y1 y2 y3 y4 y5 y6 y7))∧(∀ y0 y1 y2 y3 y4 y5 y6 y7 y8 y9 y10 y11,LeO (w4TreeUpdates.l3 k y0 y1 y2 y3 y4 y5 y6 y7 y8 y9 y10 y11) (w4TreeUpdates.l3 (k + 1) y0 y1 y2 y3 y4 y5 y6 y7 y8 y9 y10 y11))
 | 0=>⟨fun _ _ _ _ _ _ _ r h=>by simp [w4TreeUpdates.j0] at h,fun _ _ _ _ _ _ _ _ _ r h=>by simp [w4TreeUpdates.l0] at h,fun _ _ _ _ _ _ _ _ _ _ _ _ _ _ r h=>by simp [w4TreeUpdates.l1] at h,fun _ _ _ _ _ _ _ _ r h=>by simp [w4TreeUpdates.l2] at h,fun _ _ _ _ _ _ _ _ _ _ _ _ r h=>by simp [w4TreeUpdates.l3] at h⟩
 | k + 1=>by
  obtain ⟨ih0,ih1,ih2,ih3,ih4⟩:=w4TreeUpdates.mono_l k;refine ⟨?_,?_,?_,?_,?_⟩
  ·
   intro y0 y1 y2 y3 y4 y5 y6;unfold w4TreeUpdates.j0
   repeat' first
   | (with_reducible exact ih0 _ _ _ _ _ _ _)
   | (with_reducible exact ih1 _ _ _ _ _ _ _ _ _)
   | (with_reducible exact ih2 _ _ _ _ _ _ _ _ _ _ _ _ _ _)
   | (with_reducible exact ih3 _ _ _ _ _ _ _ _)
   | (with_reducible exact ih4 _ _ _ _ _ _ _ _ _ _ _ _)
   | (with_reducible exact w4anchor.mono _)
   | (with_reducible exact w4grown.mono _ _ _ _ _ _ _ _)
   | (with_reducible exact w4upward.mono _ _ _)
   | (with_reducible exact r1Ints.mono _ _ _)
   | (with_reducible exact r4Same.mono _ _ _)
   | (with_reducible exact tree_Filtered.mono _ _ _)
   | (with_reducible exact tree_Members.mono _ _)
   | (with_reducible exact tree_Merge.mono _ _ _ _ _ _ _ _ _ _ _)
   | (with_reducible exact tree_Update.mono _ _ _ _ _ _ _ _ _)
   | (with_reducible exact LeO.refl _)
   | (with_reducible exact LeO.none _)
   | (with_reducible refine LeO.ite ?_ ?_)
   | (with_reducible refine LeO.bind ?_ (fun _=>?_))
   | exact ih0 _ _ _ _ _ _ _
   | exact ih1 _ _ _ _ _ _ _ _ _
   | exact ih2 _ _ _ _ _ _ _ _ _ _ _ _ _ _
   | exact ih3 _ _ _ _ _ _ _ _
   | exact ih4 _ _ _ _ _ _ _ _ _ _ _ _
   | exact w4anchor.mono _
   | exact w4grown.mono _ _ _ _ _ _ _ _
   | exact w4upward.mono _ _ _
   | exact r1Ints.mono _ _ _
   | exact r4Same.mono _ _ _
   | exact tree_Filtered.mono _ _ _
   | exact tree_Members.mono _ _
   | exact tree_Merge.mono _ _ _ _ _ _ _ _ _ _ _
   | exact tree_Update.mono _ _ _ _ _ _ _ _ _
   | exact LeO.none _
   | refine LeO.ite ?_ ?_
   | refine LeO.bind ?_ (fun _=>?_)
  ·
   intro y0 y1 y2 y3 y4 y5 y6 y7 y8;unfold w4TreeUpdates.l0
   repeat' first
   | (with_reducible exact ih0 _ _ _ _ _ _ _)
   | (with_reducible exact ih1 _ _ _ _ _ _ _ _ _)
   | (with_reducible exact ih2 _ _ _ _ _ _ _ _ _ _ _ _ _ _)
   | (with_reducible exact ih3 _ _ _ _ _ _ _ _)
   | (with_reducible exact ih4 _ _ _ _ _ _ _ _ _ _ _ _)
   | (with_reducible exact w4anchor.mono _)
   | (with_reducible exact w4grown.mono _ _ _ _ _ _ _ _)
   | (with_reducible exact w4upward.mono _ _ _)
   | (with_reducible exact r1Ints.mono _ _ _)
   | (with_reducible exact r4Same.mono _ _ _)
   | (with_reducible exact tree_Filtered.mono _ _ _)
   | (with_reducible exact tree_Members.mono _ _)
   | (with_reducible exact tree_Merge.mono _ _ _ _ _ _ _ _ _ _ _)
   | (with_reducible exact tree_Update.mono _ _ _ _ _ _ _ _ _)
   | (with_reducible exact LeO.refl _)
   | (with_reducible exact LeO.none _)
   | (with_reducible refine LeO.ite ?_ ?_)
   | (with_reducible refine LeO.bind ?_ (fun _=>?_))
   | exact ih0 _ _ _ _ _ _ _
   | exact ih1 _ _ _ _ _ _ _ _ _
   | exact ih2 _ _ _ _ _ _ _ _ _ _ _ _ _ _
   | exact ih3 _ _ _ _ _ _ _ _
   | exact ih4 _ _ _ _ _ _ _ _ _ _ _ _
   | exact w4anchor.mono _
   | exact w4grown.mono _ _ _ _ _ _ _ _
   | exact w4upward.mono _ _ _
   | exact r1Ints.mono _ _ _
   | exact r4Same.mono _ _ _
   | exact tree_Filtered.mono _ _ _
   | exact tree_Members.mono _ _
   | exact tree_Merge.mono _ _ _ _ _ _ _ _ _ _ _
   | exact tree_Update.mono _ _ _ _ _ _ _ _ _
   | exact LeO.none _
   | refine LeO.ite ?_ ?_
   | refine LeO.bind ?_ (fun _=>?_)
  ·
   intro y0 y1 y2 y3 y4 y5 y6 y7 y8 y9 y10 y11 y12 y13;unfold w4TreeUpdates.l1
   repeat' first
   | (with_reducible exact ih0 _ _ _ _ _ _ _)
   | (with_reducible exact ih1 _ _ _ _ _ _ _ _ _)
   | (with_reducible exact ih2 _ _ _ _ _ _ _ _ _ _ _ _ _ _)
   | (with_reducible exact ih3 _ _ _ _ _ _ _ _)
   | (with_reducible exact ih4 _ _ _ _ _ _ _ _ _ _ _ _)
   | (with_reducible exact w4anchor.mono _)
   | (with_reducible exact w4grown.mono _ _ _ _ _ _ _ _)
   | (with_reducible exact w4upward.mono _ _ _)
   | (with_reducible exact r1Ints.mono _ _ _)
   | (with_reducible exact r4Same.mono _ _ _)
   | (with_reducible exact tree_Filtered.mono _ _ _)
   | (with_reducible exact tree_Members.mono _ _)
   | (with_reducible exact tree_Merge.mono _ _ _ _ _ _ _ _ _ _ _)
   | (with_reducible exact tree_Update.mono _ _ _ _ _ _ _ _ _)
   | (with_reducible exact LeO.refl _)
   | (with_reducible exact LeO.none _)
   | (with_reducible refine LeO.ite ?_ ?_)
   | (with_reducible refine LeO.bind ?_ (fun _=>?_))
   | exact ih0 _ _ _ _ _ _ _
   | exact ih1 _ _ _ _ _ _ _ _ _
   | exact ih2 _ _ _ _ _ _ _ _ _ _ _ _ _ _
   | exact ih3 _ _ _ _ _ _ _ _
   | exact ih4 _ _ _ _ _ _ _ _ _ _ _ _
   | exact w4anchor.mono _
   | exact w4grown.mono _ _ _ _ _ _ _ _
   | exact w4upward.mono _ _ _
   | exact r1Ints.mono _ _ _
   | exact r4Same.mono _ _ _
   | exact tree_Filtered.mono _ _ _
   | exact tree_Members.mono _ _
   | exact tree_Merge.mono _ _ _ _ _ _ _ _ _ _ _
   | exact tree_Update.mono _ _ _ _ _ _ _ _ _
   | exact LeO.none _
   | refine LeO.ite ?_ ?_
   | refine LeO.bind ?_ (fun _=>?_)
  ·
   intro y0 y1 y2 y3 y4 y5 y6 y7;unfold w4TreeUpdates.l2
   repeat' first
   | (with_reducible exact ih0 _ _ _ _ _ _ _)
   | (with_reducible exact ih1 _ _ _ _ _ _ _ _ _)
   | (with_reducible exact ih2 _ _ _ _ _ _ _ _ _ _ _ _ _ _)
   | (with_reducible exact ih3 _ _ _ _ _ _ _ _)
   | (with_reducible exact ih4 _ _ _ _ _ _ _ _ _ _ _ _)
   | (with_reducible exact w4anchor.mono _)
   | (with_reducible exact w4grown.mono _ _ _ _ _ _ _ _)
   | (with_reducible exact w4upward.mono _ _ _)
   | (with_reducible exact r1Ints.mono _ _ _)
   | (with_reducible exact r4Same.mono _ _ _)
   | (with_reducible exact tree_Filtered.mono _ _ _)
   | (with_reducible exact tree_Members.mono _ _)
   | (with_reducible exact tree_Merge.mono _ _ _ _ _ _ _ _ _ _ _)
   | (with_reducible exact tree_Update.mono _ _ _ _ _ _ _ _ _)
   | (with_reducible exact LeO.refl _)
   | (with_reducible exact LeO.none _)
   | (with_reducible refine LeO.ite ?_ ?_)
   | (with_reducible refine LeO.bind ?_ (fun _=>?_))
   | exact ih0 _ _ _ _ _ _ _
   | exact ih1 _ _ _ _ _ _ _ _ _
   | exact ih2 _ _ _ _ _ _ _ _ _ _ _ _ _ _
   | exact ih3 _ _ _ _ _ _ _ _
   | exact ih4 _ _ _ _ _ _ _ _ _ _ _ _
   | exact w4anchor.mono _
   | exact w4grown.mono _ _ _ _ _ _ _ _
   | exact w4upward.mono _ _ _
   | exact r1Ints.mono _ _ _
   | exact r4Same.mono _ _ _
   | exact tree_Filtered.mono _ _ _
   | exact tree_Members.mono _ _
   | exact tree_Merge.mono _ _ _ _ _ _ _ _ _ _ _
   | exact tree_Update.mono _ _ _ _ _ _ _ _ _
   | exact LeO.none _
   | refine LeO.ite ?_ ?_
   | refine LeO.bind ?_ (fun _=>?_)
  ·
   intro y0 y1 y2 y3 y4 y5 y6 y7 y8 y9 y10 y11;unfold w4TreeUpdates.l3
   repeat' first
   | (with_reducible exact ih0 _ _ _ _ _ _ _)
   | (with_reducible exact ih1 _ _ _ _ _ _ _ _ _)
   | (with_reducible exact ih2 _ _ _ _ _ _ _ _ _ _ _ _ _ _)
   | (with_reducible exact ih3 _ _ _ _ _ _ _ _)
   | (with_reducible exact ih4 _ _ _ _ _ _ _ _ _ _ _ _)
   | (with_reducible exact w4anchor.mono _)
   | (with_reducible exact w4grown.mono _ _ _ _ _ _ _ _)
   | (with_reducible exact w4upward.mono _ _ _)
   | (with_reducible exact r1Ints.mono _ _ _)
   | (with_reducible exact r4Same.mono _ _ _)
   | (with_reducible exact tree_Filtered.mono _ _ _)
   | (with_reducible exact tree_Members.mono _ _)
   | (with_reducible exact tree_Merge.mono _ _ _ _ _ _ _ _ _ _ _)
   | (with_reducible exact tree_Update.mono _ _ _ _ _ _ _ _ _)
   | (with_reducible exact LeO.refl _)
   | (with_reducible exact LeO.none _)
   | (with_reducible refine LeO.ite ?_ ?_)
   | (with_reducible refine LeO.bind ?_ (fun _=>?_))
   | exact ih0 _ _ _ _ _ _ _
   | exact ih1 _ _ _ _ _ _ _ _ _
   | exact ih2 _ _ _ _ _ _ _ _ _ _ _ _ _ _
   | exact ih3 _ _ _ _ _ _ _ _
   | exact ih4 _ _ _ _ _ _ _ _ _ _ _ _
   | exact w4anchor.mono _
   | exact w4grown.mono _ _ _ _ _ _ _ _
   | exact w4upward.mono _ _ _
   | exact r1Ints.mono _ _ _
   | exact r4Same.mono _ _ _
   | exact tree_Filtered.mono _ _ _
   | exact tree_Members.mono _ _
   | exact tree_Merge.mono _ _ _ _ _ _ _ _ _ _ _
   | exact tree_Update.mono _ _ _ _ _ _ _ _ _
   | exact LeO.none _
   | refine LeO.ite ?_ ?_
   | refine LeO.bind ?_ (fun _=>?_)
theorem w4TreeUpdates.mono : ∀ a0 a1 a2 a3 a4 a5 a6 a7 a8 k,LeO (w4TreeUpdates.f k a0 a1 a2 a3 a4 a5 a6 a7 a8) (w4TreeUpdates.f (k + 1) a0 a1 a2 a3 a4 a5 a6 a7 a8):=by
 intro a0 a1 a2 a3 a4 a5 a6 a7 a8 k;obtain ⟨ih0,ih1,ih2,ih3,ih4⟩:=w4TreeUpdates.mono_l k;unfold w4TreeUpdates.f
 repeat' first
  | (with_reducible exact ih0 _ _ _ _ _ _ _)
  | (with_reducible exact ih1 _ _ _ _ _ _ _ _ _)
  | (with_reducible exact ih2 _ _ _ _ _ _ _ _ _ _ _ _ _ _)
  | (with_reducible exact ih3 _ _ _ _ _ _ _ _)
  | (with_reducible exact ih4 _ _ _ _ _ _ _ _ _ _ _ _)
  | (with_reducible exact w4anchor.mono _)
  | (with_reducible exact w4grown.mono _ _ _ _ _ _ _ _)
  | (with_reducible exact w4upward.mono _ _ _)
  | (with_reducible exact r1Ints.mono _ _ _)
  | (with_reducible exact r4Same.mono _ _ _)
  | (with_reducible exact tree_Filtered.mono _ _ _)
  | (with_reducible exact tree_Members.mono _ _)
  | (with_reducible exact tree_Merge.mono _ _ _ _ _ _ _ _ _ _ _)
  | (with_reducible exact tree_Update.mono _ _ _ _ _ _ _ _ _)
  | (with_reducible exact LeO.refl _)
  | (with_reducible exact LeO.none _)
  | (with_reducible refine LeO.ite ?_ ?_)
  | (with_reducible refine LeO.bind ?_ (fun _=>?_))
  | exact ih0 _ _ _ _ _ _ _
  | exact ih1 _ _ _ _ _ _ _ _ _
  | exact ih2 _ _ _ _ _ _ _ _ _ _ _ _ _ _
  | exact ih3 _ _ _ _ _ _ _ _
  | exact ih4 _ _ _ _ _ _ _ _ _ _ _ _
  | exact w4anchor.mono _
  | exact w4grown.mono _ _ _ _ _ _ _ _
  | exact w4upward.mono _ _ _
  | exact r1Ints.mono _ _ _
  | exact r4Same.mono _ _ _
  | exact tree_Filtered.mono _ _ _
  | exact tree_Members.mono _ _
  | exact tree_Merge.mono _ _ _ _ _ _ _ _ _ _ _
  | exact tree_Update.mono _ _ _ _ _ _ _ _ _
  | exact LeO.none _
  | refine LeO.ite ?_ ?_
  | refine LeO.bind ?_ (fun _=>?_)
end Go.Proofs.YtbblomnhobodkaaDoor.PTw
