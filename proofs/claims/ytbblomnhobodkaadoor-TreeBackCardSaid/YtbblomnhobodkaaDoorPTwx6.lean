/- What this claim reaches of longer texts of this session. -/
import Derived.Test.YtbblomnhobodkaaDoorPTwx0
import Derived.Test.YtbblomnhobodkaaDoorPTwx1
import Derived.Test.YtbblomnhobodkaaDoorPTwx4
import Derived.Shelf.Spec.TrailingZeros
import Derived.Lib.ItoaNum
import Derived.Lib.LaidTab
import Derived.Laws.Bits64
import Derived.Lib.Hide
import Derived.RangeFuncBox
import Derived.Maps.AppendAt
import Derived.Lib.SliceRun
import Derived.Shelf.Spec.SlicesInsert
import Derived.Shelf.Spec.SlicesInsertGrow
import Derived.Deep.DeepCutAuto
namespace Go.Proofs.YtbblomnhobodkaaDoor.PTw
open Go.RowKit Go.Proofs.YtbblomnhobodkaaDoorW.PW Go.Proofs.YtbblomnhobodkaaDoorW.PL Go.Proofs.YtbblomnhobodkaaDoorW.PM
attribute [local go_sem] max2_int min2_int max_two min_two max_three min_three max_four min_four   -- for this text's walks alone
set_option linter.unusedVariables false
set_option linter.unusedSimpArgs false
def heap_Children.f (a0 : Int) (a1 : Int) : Option (Int × Int × Int):=(heap_Level.f a0).bind fun t202=>((heap_in.f a0 a1).bind fun t203=>(if t203 = true then (if t202 = 0 then (some (0,0,30)) else (if 0≤(wrap64 (t202 - 1)) then (some (wrap64 (a0 - (shl .i64 1 (wrap64 (t202 - 1)))),wrap64 (a0 + (shl .i64 1 (wrap64 (t202 - 1)))),0)) else (none))) else (some (0,0,30))))
set_option maxHeartbeats 8000000 in
set_option maxRecDepth 100000 in
theorem heap_Children.calls (a0 : Int) (a1 : Int) (r1 : Int) (r2 : Int) (r3 : Int) (w : World) (hrG : TabG w) (h : heap_Children.f a0 a1 = some (r1,r2,r3)) :
 Calls Tryd.prog 57 #[.int .i64 a0,.int .i64 a1] w fun e w'=>e = .returned (.tuple #[.int .i64 r1,.int .i64 r2,.int .i64 r3])∧Drawn0 w w':=by
 have HRG:=Az.mk hrG
 clear hrG
 have H : ((heap_Level.f a0).bind fun t202=>((heap_in.f a0 a1).bind fun t203=>(if t203 = true then (if t202 = 0 then (some (0,0,30)) else (if 0≤(wrap64 (t202 - 1)) then (some (wrap64 (a0 - (shl .i64 1 (wrap64 (t202 - 1)))),wrap64 (a0 + (shl .i64 1 (wrap64 (t202 - 1)))),0)) else (none))) else (some (0,0,30))))) = some (r1,r2,r3):=h
 clear h
 replace H:=Option.bind_eq_some_iff.mp H
 obtain ⟨t202,A30,H⟩:=H
 replace H : ((heap_in.f a0 a1).bind fun t203=>(if t203 = true then (if t202 = 0 then (some (0,0,30)) else (if 0≤(wrap64 (t202 - 1)) then (some (wrap64 (a0 - (shl .i64 1 (wrap64 (t202 - 1)))),wrap64 (a0 + (shl .i64 1 (wrap64 (t202 - 1)))),0)) else (none))) else (some (0,0,30)))) = some (r1,r2,r3):=H
 have A3:=Az.mk A30
 clear A30
 replace H:=Option.bind_eq_some_iff.mp H
 obtain ⟨t203,A40,H⟩:=H
 replace H : (if t203 = true then (if t202 = 0 then (some (0,0,30)) else (if 0≤(wrap64 (t202 - 1)) then (some (wrap64 (a0 - (shl .i64 1 (wrap64 (t202 - 1)))),wrap64 (a0 + (shl .i64 1 (wrap64 (t202 - 1)))),0)) else (none))) else (some (0,0,30))) = some (r1,r2,r3):=H
 have A4:=Az.mk A40
 clear A40
 by_cases c5 : t203 = true
 · subst c5
   have H1 : (if t202 = 0 then (some (0,0,30)) else (if 0≤(wrap64 (t202 - 1)) then (some (wrap64 (a0 - (shl .i64 1 (wrap64 (t202 - 1)))),wrap64 (a0 + (shl .i64 1 (wrap64 (t202 - 1)))),0)) else (none))) = some (r1,r2,r3):=by rw [if_pos rfl] at H;exact H
   clear H
   have H:=H1
   clear H1
   by_cases c6 : t202 = 0
   · rw [if_pos c6] at H
     have c6b0 : (t202 == 0) = true:=beq_iff_eq.mpr c6
     have c6b1 : (t202 != 0) = false:=bne_eq_false_iff_eq.mpr c6
     clear c6
     simp only [Option.some.injEq,Prod.mk.injEq] at H
     obtain ⟨rfl,rfl,rfl⟩:=H
     go_enter Tryd.func57,Tryd.ntmps57
     go_wp2_with (first | (go_at_call 76;(with_reducible refine (heap_Level.calls (hrG:=?sideG) a0 t202 _ A3.out).mono ?_);(case sideG=>(first | (with_reducible exact HRG.out) | exact TabG.below HRG.out (by repeat (first | (with_reducible first | exact HB.out | apply bwA | apply bwN | apply bw1) | (with_reducible exact Below.refl _ _)))));rintro e w' ⟨rfl,⟨nd,rfl⟩⟩;(try first | exact ⟨rfl,_,World.drewN_drewN _ _ _⟩ | exact ⟨rfl,_,Eq.trans (World.drewN_drewN _ _ _) (congrArg (World.drewN _) (Nat.add_assoc _ _ _))⟩)) | (go_at_call 70;(with_reducible refine (heap_in.calls a0 a1 true _ A4.out).mono ?_);rintro e w' ⟨rfl,⟨nd,rfl⟩⟩;(try first | exact ⟨rfl,_,World.drewN_drewN _ _ _⟩ | exact ⟨rfl,_,Eq.trans (World.drewN_drewN _ _ _) (congrArg (World.drewN _) (Nat.add_assoc _ _ _))⟩)))
     repeat (go_quiet (first | (go_at_call 76;(with_reducible refine (heap_Level.calls (hrG:=?sideG) a0 t202 _ A3.out).mono ?_);(case sideG=>(first | (with_reducible exact HRG.out) | exact TabG.below HRG.out (by repeat (first | (with_reducible first | exact HB.out | apply bwA | apply bwN | apply bw1) | (with_reducible exact Below.refl _ _)))));rintro e w' ⟨rfl,⟨nd,rfl⟩⟩;(try first | exact ⟨rfl,_,World.drewN_drewN _ _ _⟩ | exact ⟨rfl,_,Eq.trans (World.drewN_drewN _ _ _) (congrArg (World.drewN _) (Nat.add_assoc _ _ _))⟩)) | (go_at_call 70;(with_reducible refine (heap_in.calls a0 a1 true _ A4.out).mono ?_);rintro e w' ⟨rfl,⟨nd,rfl⟩⟩;(try first | exact ⟨rfl,_,World.drewN_drewN _ _ _⟩ | exact ⟨rfl,_,Eq.trans (World.drewN_drewN _ _ _) (congrArg (World.drewN _) (Nat.add_assoc _ _ _))⟩)));try go_wp2_with (first | (go_at_call 76;(with_reducible refine (heap_Level.calls (hrG:=?sideG) a0 t202 _ A3.out).mono ?_);(case sideG=>(first | (with_reducible exact HRG.out) | exact TabG.below HRG.out (by repeat (first | (with_reducible first | exact HB.out | apply bwA | apply bwN | apply bw1) | (with_reducible exact Below.refl _ _)))));rintro e w' ⟨rfl,⟨nd,rfl⟩⟩;(try first | exact ⟨rfl,_,World.drewN_drewN _ _ _⟩ | exact ⟨rfl,_,Eq.trans (World.drewN_drewN _ _ _) (congrArg (World.drewN _) (Nat.add_assoc _ _ _))⟩)) | (go_at_call 70;(with_reducible refine (heap_in.calls a0 a1 true _ A4.out).mono ?_);rintro e w' ⟨rfl,⟨nd,rfl⟩⟩;(try first | exact ⟨rfl,_,World.drewN_drewN _ _ _⟩ | exact ⟨rfl,_,Eq.trans (World.drewN_drewN _ _ _) (congrArg (World.drewN _) (Nat.add_assoc _ _ _))⟩))))
     go_ret3
     exact ⟨by first | rfl | (simp;done) | (simp [*];done),by repeat (first | exact Drawn0.refl _ | apply Drawn0.step)⟩
   · rw [if_neg c6] at H
     have c6b0 : (t202 == 0) = false:=beq_eq_false_iff_ne.mpr c6
     have c6b1 : (t202 != 0) = true:=bne_iff_ne.mpr c6
     obtain ⟨ji7,hji7⟩ : ∃ j_ : Int,(wrap64 (t202 - 1)) = j_:=⟨_,rfl⟩
     replace H : (if 0≤(ji7) then (some (wrap64 (a0 - (shl .i64 1 (ji7))),wrap64 (a0 + (shl .i64 1 (ji7))),0)) else (none)) = some (r1,r2,r3):=by first | (rw [hji7] at H;exact H) | (simp only [hji7] at H ⊢;exact H)
     (try rw [hji7] at A3)
     (try rw [hji7] at A4)
     have hji7w : (IntKind.i64.wrap (t202 - 1)) = ji7:=(i64_w _).trans hji7
     by_cases c8 : 0≤(ji7)
     · rw [if_pos c8] at H
       have c8b0:=eq_true c8
       have c8b1 : decide (0≤(ji7)) = true:=decide_eq_true c8
       clear c8
       obtain ⟨ji9,hji9⟩ : ∃ j_ : Int,(shl .i64 1 (ji7)) = j_:=⟨_,rfl⟩
       replace H : (some (wrap64 (a0 - (ji9)),wrap64 (a0 + (ji9)),0)) = some (r1,r2,r3):=by first | (rw [hji9] at H;exact H) | (simp only [hji9] at H ⊢;exact H)
       (try rw [hji9] at A3)
       (try rw [hji9] at A4)
       have hji9_ : (IntKind.i64.wrap (1 * 2 ^ min (ji7).toNat 64)) = ji9:=hji9
       have hji9z : (ji7)≤64→(IntKind.i64.wrap (1 * 2 ^ (ji7).toNat)) = ji9:=shl_small hji9
       have hji9u : (IntKind.i64.wrap (2 ^ min (ji7).toNat 64)) = ji9:=by have h_:=hji9_;rw [Int.one_mul] at h_;exact h_
       have hji9v : (ji7)≤64→(IntKind.i64.wrap (2 ^ (ji7).toNat)) = ji9:=fun hle_=>by have h_:=hji9z hle_;rw [Int.one_mul] at h_;exact h_
       have hji9y : (wrap64 (1 * 2 ^ min (ji7).toNat 64)) = ji9:=(i64_w _).symm.trans hji9_
       have hji9x : (ji7)≤64→(wrap64 (1 * 2 ^ (ji7).toNat)) = ji9:=fun h_=>(i64_w _).symm.trans (hji9z h_)
       have c10b0:=eq_true (of_decide_eq_true (by first | (with_reducible assumption) | assumption) : 0≤(ji7))
       simp only [Option.some.injEq,Prod.mk.injEq] at H
       obtain ⟨rfl,rfl,rfl⟩:=H
       go_enter Tryd.func57,Tryd.ntmps57
       go_wp2_with (first | (go_at_call 76;(with_reducible refine (heap_Level.calls (hrG:=?sideG) a0 t202 _ A3.out).mono ?_);(case sideG=>(first | (with_reducible exact HRG.out) | exact TabG.below HRG.out (by repeat (first | (with_reducible first | exact HB.out | apply bwA | apply bwN | apply bw1) | (with_reducible exact Below.refl _ _)))));rintro e w' ⟨rfl,⟨nd,rfl⟩⟩;(try first | exact ⟨rfl,_,World.drewN_drewN _ _ _⟩ | exact ⟨rfl,_,Eq.trans (World.drewN_drewN _ _ _) (congrArg (World.drewN _) (Nat.add_assoc _ _ _))⟩)) | (go_at_call 70;(with_reducible refine (heap_in.calls a0 a1 true _ A4.out).mono ?_);rintro e w' ⟨rfl,⟨nd,rfl⟩⟩;(try first | exact ⟨rfl,_,World.drewN_drewN _ _ _⟩ | exact ⟨rfl,_,Eq.trans (World.drewN_drewN _ _ _) (congrArg (World.drewN _) (Nat.add_assoc _ _ _))⟩)))
       repeat (go_quiet (first | (go_at_call 76;(with_reducible refine (heap_Level.calls (hrG:=?sideG) a0 t202 _ A3.out).mono ?_);(case sideG=>(first | (with_reducible exact HRG.out) | exact TabG.below HRG.out (by repeat (first | (with_reducible first | exact HB.out | apply bwA | apply bwN | apply bw1) | (with_reducible exact Below.refl _ _)))));rintro e w' ⟨rfl,⟨nd,rfl⟩⟩;(try first | exact ⟨rfl,_,World.drewN_drewN _ _ _⟩ | exact ⟨rfl,_,Eq.trans (World.drewN_drewN _ _ _) (congrArg (World.drewN _) (Nat.add_assoc _ _ _))⟩)) | (go_at_call 70;(with_reducible refine (heap_in.calls a0 a1 true _ A4.out).mono ?_);rintro e w' ⟨rfl,⟨nd,rfl⟩⟩;(try first | exact ⟨rfl,_,World.drewN_drewN _ _ _⟩ | exact ⟨rfl,_,Eq.trans (World.drewN_drewN _ _ _) (congrArg (World.drewN _) (Nat.add_assoc _ _ _))⟩)));try go_wp2_with (first | (go_at_call 76;(with_reducible refine (heap_Level.calls (hrG:=?sideG) a0 t202 _ A3.out).mono ?_);(case sideG=>(first | (with_reducible exact HRG.out) | exact TabG.below HRG.out (by repeat (first | (with_reducible first | exact HB.out | apply bwA | apply bwN | apply bw1) | (with_reducible exact Below.refl _ _)))));rintro e w' ⟨rfl,⟨nd,rfl⟩⟩;(try first | exact ⟨rfl,_,World.drewN_drewN _ _ _⟩ | exact ⟨rfl,_,Eq.trans (World.drewN_drewN _ _ _) (congrArg (World.drewN _) (Nat.add_assoc _ _ _))⟩)) | (go_at_call 70;(with_reducible refine (heap_in.calls a0 a1 true _ A4.out).mono ?_);rintro e w' ⟨rfl,⟨nd,rfl⟩⟩;(try first | exact ⟨rfl,_,World.drewN_drewN _ _ _⟩ | exact ⟨rfl,_,Eq.trans (World.drewN_drewN _ _ _) (congrArg (World.drewN _) (Nat.add_assoc _ _ _))⟩))))
       go_ret3
       exact ⟨by first | rfl | (simp;done) | (simp only [← hji7,← hji9] <;> (first | rfl | simp)) | (simp [*];done),by repeat (first | exact Drawn0.refl _ | apply Drawn0.step)⟩
     · rw [if_neg c8] at H
       exact absurd H (by simp)
 · replace c5:=Bool.eq_false_iff.mpr c5
   subst c5
   have H1 : (some (0,0,30)) = some (r1,r2,r3):=by rw [if_neg (show ¬ (false = true) by decide)] at H;exact H
   clear H
   have H:=H1
   clear H1
   simp only [Option.some.injEq,Prod.mk.injEq] at H
   obtain ⟨rfl,rfl,rfl⟩:=H
   go_enter Tryd.func57,Tryd.ntmps57
   go_wp2_with (first | (go_at_call 76;(with_reducible refine (heap_Level.calls (hrG:=?sideG) a0 t202 _ A3.out).mono ?_);(case sideG=>(first | (with_reducible exact HRG.out) | exact TabG.below HRG.out (by repeat (first | (with_reducible first | exact HB.out | apply bwA | apply bwN | apply bw1) | (with_reducible exact Below.refl _ _)))));rintro e w' ⟨rfl,⟨nd,rfl⟩⟩;(try first | exact ⟨rfl,_,World.drewN_drewN _ _ _⟩ | exact ⟨rfl,_,Eq.trans (World.drewN_drewN _ _ _) (congrArg (World.drewN _) (Nat.add_assoc _ _ _))⟩)) | (go_at_call 70;(with_reducible refine (heap_in.calls a0 a1 false _ A4.out).mono ?_);rintro e w' ⟨rfl,⟨nd,rfl⟩⟩;(try first | exact ⟨rfl,_,World.drewN_drewN _ _ _⟩ | exact ⟨rfl,_,Eq.trans (World.drewN_drewN _ _ _) (congrArg (World.drewN _) (Nat.add_assoc _ _ _))⟩)))
   repeat (go_quiet (first | (go_at_call 76;(with_reducible refine (heap_Level.calls (hrG:=?sideG) a0 t202 _ A3.out).mono ?_);(case sideG=>(first | (with_reducible exact HRG.out) | exact TabG.below HRG.out (by repeat (first | (with_reducible first | exact HB.out | apply bwA | apply bwN | apply bw1) | (with_reducible exact Below.refl _ _)))));rintro e w' ⟨rfl,⟨nd,rfl⟩⟩;(try first | exact ⟨rfl,_,World.drewN_drewN _ _ _⟩ | exact ⟨rfl,_,Eq.trans (World.drewN_drewN _ _ _) (congrArg (World.drewN _) (Nat.add_assoc _ _ _))⟩)) | (go_at_call 70;(with_reducible refine (heap_in.calls a0 a1 false _ A4.out).mono ?_);rintro e w' ⟨rfl,⟨nd,rfl⟩⟩;(try first | exact ⟨rfl,_,World.drewN_drewN _ _ _⟩ | exact ⟨rfl,_,Eq.trans (World.drewN_drewN _ _ _) (congrArg (World.drewN _) (Nat.add_assoc _ _ _))⟩)));try go_wp2_with (first | (go_at_call 76;(with_reducible refine (heap_Level.calls (hrG:=?sideG) a0 t202 _ A3.out).mono ?_);(case sideG=>(first | (with_reducible exact HRG.out) | exact TabG.below HRG.out (by repeat (first | (with_reducible first | exact HB.out | apply bwA | apply bwN | apply bw1) | (with_reducible exact Below.refl _ _)))));rintro e w' ⟨rfl,⟨nd,rfl⟩⟩;(try first | exact ⟨rfl,_,World.drewN_drewN _ _ _⟩ | exact ⟨rfl,_,Eq.trans (World.drewN_drewN _ _ _) (congrArg (World.drewN _) (Nat.add_assoc _ _ _))⟩)) | (go_at_call 70;(with_reducible refine (heap_in.calls a0 a1 false _ A4.out).mono ?_);rintro e w' ⟨rfl,⟨nd,rfl⟩⟩;(try first | exact ⟨rfl,_,World.drewN_drewN _ _ _⟩ | exact ⟨rfl,_,Eq.trans (World.drewN_drewN _ _ _) (congrArg (World.drewN _) (Nat.add_assoc _ _ _))⟩))))
   go_ret3
   exact ⟨by first | rfl | (simp;done) | (simp [*];done),by repeat (first | exact Drawn0.refl _ | apply Drawn0.step)⟩
mutual
def tree_Resolution.j0 : Nat→List (S29)→Int→Bool→Option (List Int)
 | 0,_,_,_=>none
 | k + 1,x0,x1,x18=>if x18 = true then (some ([] : List Int)) else (if 0≤x1 then (if x1 < (x0.length : Int) then (if (rd_T29 x0 x1).f0 = true then (tree_Resolution.l0 k (([x1] : List Int)) ((rd_T29 x0 x1).f5) (((rd_T29 x0 x1).f5).length : Int) 0) else ((tree_Leaves.f x0).bind fun t213=>((heap_Children.f x1 t213).bind fun bt214=>(if bt214.2.2 = 0 then ((tree_Resolution.f k x0 bt214.1).bind fun t217=>((tree_Resolution.f k x0 bt214.2.1).bind fun t220=>(if t217.length + t220.length < 17592186044416 then (some (t217 ++ t220)) else (none)))) else (some ([] : List Int)))))) else (none)) else (none))
def tree_Resolution.l0 : Nat→List Int→List Int→Int→Int→Option (List Int)
 | 0,_,_,_,_=>none
 | k + 1,x5,x30,x31,x32=>if x32 < x31 then (if 0≤x32 then (if x32 < (x30.length : Int) then (if x5.length < 17592186044416 then (tree_Resolution.l0 k (x5 ++ [wrap64 (2 * (rd x30 x32))]) x30 x31 (wrap64 (x32 + 1))) else (none)) else (none)) else (none)) else (some x5)
def tree_Resolution.f : Nat→List (S29)→Int→Option (List Int)
 | 0,_,_=>none
 | k + 1,l0,a1=>if a1 < 0 then (tree_Resolution.j0 k l0 a1 true) else (tree_Resolution.j0 k l0 a1 (decide (a1≥(l0.length : Int))))
end
theorem tree_Resolution.mono_l : ∀ k,(∀ y0 y1,LeO (tree_Resolution.f k y0 y1) (tree_Resolution.f (k + 1) y0 y1))∧(∀ y0 y1 y2,LeO (tree_Resolution.j0 k y0 y1 y2) (tree_Resolution.j0 (k + 1) y0 y1 y2))∧(∀ y0 y1 y2 y3,LeO (tree_Resolution.l0 k y0 y1 y2 y3) (tree_Resolution.l0 (k + 1) y0 y1 y2 y3))
 | 0=>⟨fun _ _ r h=>by simp [tree_Resolution.f] at h,fun _ _ _ r h=>by simp [tree_Resolution.j0] at h,fun _ _ _ _ r h=>by simp [tree_Resolution.l0] at h⟩
 | k + 1=>by
  obtain ⟨ih0,ih1,ih2⟩:=tree_Resolution.mono_l k
  refine ⟨?_,?_,?_⟩
  · intro y0 y1
    unfold tree_Resolution.f
    repeat' first
    | (with_reducible exact ih0 _ _)
    | (with_reducible exact ih1 _ _ _)
    | (with_reducible exact ih2 _ _ _ _)
    | (with_reducible exact LeO.refl _)
    | (with_reducible exact LeO.none _)
    | (with_reducible refine LeO.ite ?_ ?_)
    | (with_reducible refine LeO.bind ?_ (fun _=>?_))
    | exact ih0 _ _
    | exact ih1 _ _ _
    | exact ih2 _ _ _ _
    | exact LeO.none _
    | refine LeO.ite ?_ ?_
    | refine LeO.bind ?_ (fun _=>?_)
  · intro y0 y1 y2
    unfold tree_Resolution.j0
    repeat' first
    | (with_reducible exact ih0 _ _)
    | (with_reducible exact ih1 _ _ _)
    | (with_reducible exact ih2 _ _ _ _)
    | (with_reducible exact LeO.refl _)
    | (with_reducible exact LeO.none _)
    | (with_reducible refine LeO.ite ?_ ?_)
    | (with_reducible refine LeO.bind ?_ (fun _=>?_))
    | exact ih0 _ _
    | exact ih1 _ _ _
    | exact ih2 _ _ _ _
    | exact LeO.none _
    | refine LeO.ite ?_ ?_
    | refine LeO.bind ?_ (fun _=>?_)
  · intro y0 y1 y2 y3
    unfold tree_Resolution.l0
    repeat' first
    | (with_reducible exact ih0 _ _)
    | (with_reducible exact ih1 _ _ _)
    | (with_reducible exact ih2 _ _ _ _)
    | (with_reducible exact LeO.refl _)
    | (with_reducible exact LeO.none _)
    | (with_reducible refine LeO.ite ?_ ?_)
    | (with_reducible refine LeO.bind ?_ (fun _=>?_))
    | exact ih0 _ _
    | exact ih1 _ _ _
    | exact ih2 _ _ _ _
    | exact LeO.none _
    | refine LeO.ite ?_ ?_
    | refine LeO.bind ?_ (fun _=>?_)
theorem tree_Resolution.mono : ∀ a0 a1 k,LeO (tree_Resolution.f k a0 a1) (tree_Resolution.f (k + 1) a0 a1):=by
 intro a0 a1 k
 obtain ⟨ih0,ih1,ih2⟩:=tree_Resolution.mono_l k
 exact ih0 a0 a1
set_option maxHeartbeats 8000000 in
set_option maxRecDepth 100000 in
theorem tree_Resolution.calls (k : Nat) : ∀ (A0 : Option Addr) (c0 : Nat) (l0 : List (S29)) (a1 : Int) (r : List Int) (w : World) (hrG : TabG w) (hr0 : Kd.C k29 w A0 l0.length l0) (hc0 : l0.length≤c0) (h : tree_Resolution.f k l0 a1 = some r),
 Calls Tryd.prog 25 #[.slice A0 l0.length c0,.int .i64 a1] w fun e w'=>∃ v0_ : Value,e = .returned (v0_)∧Kd.R (Kd.int .i64) 3 w' w.heap.size (fun _=>True) v0_ r∧Below w.heap.size w w':=by
 induction k using Nat.strongRecOn with
 | _ k ih=>
 intro A0 c0 l0 a1 r w hrG hr0 hc0 h
 have HRG:=Az.mk hrG
 clear hrG
 cases k with
 | zero=>exact absurd h (by simp [tree_Resolution.f])
 | succ k=>
 simp only [tree_Resolution.f] at h
 have HR0:=Az.mk hr0
 have HC0:=Az.mk hc0
 clear hr0 hc0
 have HB:=Az.mk (Below.refl w.heap.size w)
 have H : (if a1 < 0 then (tree_Resolution.j0 k l0 a1 true) else (tree_Resolution.j0 k l0 a1 (decide (a1≥(l0.length : Int))))) = some r:=h
 clear h
 have HC3:=Az.mk H
 clear H
 go_enter Tryd.func25,Tryd.ntmps25
 go_upto_region 1 with (fail)
 go_cut [18] (fun v18 wc=>∃ (kq : Nat) (x18_2 : Bool),v18 = .bool x18_2∧Az (tree_Resolution.j0 kq l0 a1 x18_2 = some r)∧Az (kq≤k)∧Az (Below w.heap.size w wc))
 case first=>
  have H:=HC3.out
  clear HC3
  by_cases c4 : a1 < 0
  · rw [if_pos c4] at H
    have c4b0 : decide (a1 < 0) = true:=decide_eq_true c4
    clear c4
    (first | rw [c4b0] | (simp only [i64_w,i32_w];rw [c4b0]) | skip)
    have H':=Az.mk H
    clear H
    go_wp2
    go_meet
    case rel=>exact ⟨_,(true),(by first | rfl | (simp;done) | (simp [*];done)),H',⟨by first | omega | exact Nat.le_refl _⟩,⟨bmv HB.out⟩⟩
  · rw [if_neg c4] at H
    have c4b0 : decide (a1 < 0) = false:=decide_eq_false c4
    clear c4
    (first | rw [c4b0] | (simp only [i64_w,i32_w];rw [c4b0]) | skip)
    have H':=Az.mk H
    clear H
    go_wp2
    go_meet
    case rel=>exact ⟨_,(decide (a1≥(l0.length : Int))),(by first | rfl | (simp;done) | (simp [*];done)),H',⟨by first | omega | exact Nat.le_refl _⟩,⟨bmv HB.out⟩⟩
 case rest=>
  clear HC3
  try clear c4
  try clear c4b0
  obtain ⟨kq,x18_2,rfl,HA,HJ2,HB⟩:=hcut
  cases kq with
  | zero=>exact absurd HA.out (by simp [tree_Resolution.j0])
  | succ kj2=>
   have H:=HA.out
   clear HA
   simp only [tree_Resolution.j0] at H
   by_cases c5 : x18_2 = true
   · subst c5
     have H1 : (some ([] : List Int)) = some r:=by rw [if_pos rfl] at H;exact H
     clear H
     have H:=H1
     clear H1
     obtain rfl:=Option.some.inj H
     go_wp2
     go_ret
     exact ⟨_,by first | rfl | (simp [errW_none,errW_some] <;> rfl) | (simp [*,errW_none,errW_some] <;> rfl),by first | exact Kd.R_nil _ _ _ _ _ | exact Kd.N_nil _ _ _ _ _ | exact Kd.V_nil _ _ _ _ _ | exact Kd.Q_nil _ _ _ _ _ | exact Kd.S_nil _ _ _ _ _,bmv HB.out⟩
   · replace c5:=Bool.eq_false_iff.mpr c5
     subst c5
     have H1 : (if 0≤a1 then (if a1 < (l0.length : Int) then (if (rd_T29 l0 a1).f0 = true then (tree_Resolution.l0 kj2 (([a1] : List Int)) ((rd_T29 l0 a1).f5) (((rd_T29 l0 a1).f5).length : Int) 0) else ((tree_Leaves.f l0).bind fun t213=>((heap_Children.f a1 t213).bind fun bt214=>(if bt214.2.2 = 0 then ((tree_Resolution.f kj2 l0 bt214.1).bind fun t217=>((tree_Resolution.f kj2 l0 bt214.2.1).bind fun t220=>(if t217.length + t220.length < 17592186044416 then (some (t217 ++ t220)) else (none)))) else (some ([] : List Int)))))) else (none)) else (none)) = some r:=by rw [if_neg (show ¬ (false = true) by decide)] at H;exact H
     clear H
     have H:=H1
     clear H1
     by_cases c6 : 0≤a1
     · rw [if_pos c6] at H
       have c6b0 : decide (0≤a1) = true:=decide_eq_true c6
       clear c6
       by_cases c7 : a1 < (l0.length : Int)
       · rw [if_pos c7] at H
         have c7b0 : decide (a1 < (l0.length : Int)) = true:=decide_eq_true c7
         clear c7
         obtain ⟨bq8,hbq8⟩ : ∃ b_ : Bool,b_ = ((rd_T29 l0 a1).f0):=⟨_,rfl⟩
         replace H : (if bq8 = true then (tree_Resolution.l0 kj2 (([a1] : List Int)) ((rd_T29 l0 a1).f5) (((rd_T29 l0 a1).f5).length : Int) 0) else ((tree_Leaves.f l0).bind fun t213=>((heap_Children.f a1 t213).bind fun bt214=>(if bt214.2.2 = 0 then ((tree_Resolution.f kj2 l0 bt214.1).bind fun t217=>((tree_Resolution.f kj2 l0 bt214.2.1).bind fun t220=>(if t217.length + t220.length < 17592186044416 then (some (t217 ++ t220)) else (none)))) else (some ([] : List Int)))))) = some r:=by rw [← hbq8] at H;exact H
         have Nbq8:=Az.mk hbq8
         clear hbq8
         by_cases c9 : bq8 = true
         · subst c9
           have H1 : (tree_Resolution.l0 kj2 (([a1] : List Int)) ((rd_T29 l0 a1).f5) (((rd_T29 l0 a1).f5).length : Int) 0) = some r:=by rw [if_pos rfl] at H;exact H
           clear H
           have H:=H1
           clear H1
           obtain ⟨y205,hy205⟩ : ∃ y_ : List Int,y_ = (([a1] : List Int)):=⟨_,rfl⟩
           replace H : (tree_Resolution.l0 kj2 y205 ((rd_T29 l0 a1).f5) (((rd_T29 l0 a1).f5).length : Int) 0) = some r:=by first | (rw [hy205];with_reducible exact H) | (have H2_:=(Option.bind_some _ _).symm.trans H;rw [hy205];with_reducible exact H2_) | (have H2_:=(Option.bind_some _ _).symm.trans H;with_reducible exact H2_) | with_reducible exact H | (rw [hy205];exact H) | exact H
           have Ny205:=Az.mk hy205
           clear hy205
           have H':=Az.mk H
           clear H
           have p204 : 0≤(a1 : Int):=of_decide_eq_true (by first | (with_reducible assumption) | assumption)
           have q204 : a1 < (l0.length : Int):=of_decide_eq_true (by first | (with_reducible assumption) | assumption)
           obtain ⟨ad204,A204_5,c204_5,e204,hx204_0,hx204_1,hx204_2,hx204_3,hx204_4,hx204_5,hl204_5,hi204_5⟩:=at_T29 HR0.out a1 p204 q204
           (try rw [← Nbq8.out] at hx204_0)
           cases e204
           replace hx204_0:=(HB.out.cell (World.block_lt_of_cell? w _ hx204_0)).trans hx204_0
           replace hx204_1:=(HB.out.cell (World.block_lt_of_cell? w _ hx204_1)).trans hx204_1
           replace hx204_2:=(HB.out.cell (World.block_lt_of_cell? w _ hx204_2)).trans hx204_2
           replace hx204_3:=(HB.out.cell (World.block_lt_of_cell? w _ hx204_3)).trans hx204_3
           replace hx204_4:=(HB.out.cell (World.block_lt_of_cell? w _ hx204_4)).trans hx204_4
           replace hx204_5:=(HB.out.cell (World.block_lt_of_cell? w _ hx204_5)).trans hx204_5
           have HR204_5:=Az.mk hi204_5
           have HC204_5:=Az.mk hl204_5
           clear hi204_5 hl204_5
           replace p204:=eq_true p204
           replace q204:=eq_true q204
           go_wp2_with (first | ((with_reducible refine gate_dst (N:=25) rfl ?_);(try (refine gate_guard (by rfl) ?_;dsimp only));refine Kd.R_lit (Kd.int .i64) _ 3 ?hg (N:=25) ?hd (xs:=([a1] : List Int)) (inner:=[.int .i64 a1]) (ok:=fun _=>True) (okp:=fun _=>True) ?hr ?hp (fun _ hk=>hk) trivial (Below.refl _ _) (Nat.le_refl _) (by simp) ?_;(case hd=>rfl);(case hg=>rfl);(case hr=>first | (go_simp;done) | (go_simp;rfl));(case hp=>exact (Reps.one (show Kd.M (Kd.int .i64) _ _ _ a1 [.int .i64 a1] from rfl) (Reps.none _ _)));intro v206 w10 ho11 hb hg_ hnew_;clear hg_ hnew_;(first | rw [← Ny205.out] at ho11 | (simp only [Int.reduceToNat] at ho11;rw [← Ny205.out] at ho11));have n0_:=Az.mk (Kd.R_lower ho11 (bwZ (bmv HB.out)));have n1_:=Az.mk (bwT (bmv HB.out) hb);clear HB;have HO207:=n0_;have HB:=n1_;clear n0_ n1_;clear hb ho11;have p208 : 0≤(a1 : Int):=of_decide_eq_true (by first | (with_reducible assumption) | assumption);have q208 : a1 < (l0.length : Int):=of_decide_eq_true (by first | (with_reducible assumption) | assumption);obtain ⟨ad208,A208_5,c208_5,e208,hx208_0,hx208_1,hx208_2,hx208_3,hx208_4,hx208_5,hl208_5,hi208_5⟩:=at_T29 HR0.out a1 p208 q208;(try rw [← Nbq8.out] at hx208_0);obtain rfl : ad204 = ad208:=(by injection e208);replace hx208_0:=(HB.out.cell (World.block_lt_of_cell? w _ hx208_0)).trans hx208_0;replace hx208_1:=(HB.out.cell (World.block_lt_of_cell? w _ hx208_1)).trans hx208_1;replace hx208_2:=(HB.out.cell (World.block_lt_of_cell? w _ hx208_2)).trans hx208_2;replace hx208_3:=(HB.out.cell (World.block_lt_of_cell? w _ hx208_3)).trans hx208_3;replace hx208_4:=(HB.out.cell (World.block_lt_of_cell? w _ hx208_4)).trans hx208_4;replace hx208_5:=(HB.out.cell (World.block_lt_of_cell? w _ hx208_5)).trans hx208_5;have HR208_5:=Az.mk hi208_5;have HC208_5:=Az.mk hl208_5;clear hi208_5 hl208_5;replace p208:=eq_true p208;replace q208:=eq_true q208))
           go_loopg [5,32] kj2 (fun kq v5 v32 w'=>∃ (x5_2 : List Int) (x32_2 : Int),v32 = .int .i64 x32_2∧Az (tree_Resolution.l0 kq x5_2 ((rd_T29 l0 a1).f5) (((rd_T29 l0 a1).f5).length : Int) x32_2 = some r)∧Az (kq≤kj2)∧Az (Kd.R (Kd.int .i64) 3 w' w.heap.size (fun _=>True) v5 x5_2)∧Az (Below w.heap.size w w'))
           case atStart=>exact ⟨(y205),(0),(by first | rfl | (simp;done) | (simp [*];done)),H',⟨Nat.le_refl _⟩,⟨R_mv HO207.out⟩,⟨bmv HB.out⟩⟩
           case round=>
            clear H'
            try clear c4
            try clear c4b0
            try clear c5
            try clear c6
            try clear c6b0
            try clear c7
            try clear c7b0
            try clear c9
            try clear hx204_0
            try clear hx204_1
            try clear hx204_2
            try clear hx204_3
            try clear hx204_4
            try clear hx204_5
            try clear hx208_0
            try clear hx208_1
            try clear hx208_2
            try clear hx208_3
            try clear hx208_4
            try clear hx208_5
            try clear p204
            try clear p208
            try clear q204
            try clear q208
            obtain ⟨x5_2,x32_2,rfl,HA,HK2,HO_5,HB⟩:=hrel
            cases gk with
            | zero=>exact absurd HA.out (by simp [tree_Resolution.l0])
            | succ k2=>
             have H:=HA.out
             clear HA
             simp only [tree_Resolution.l0] at H
             by_cases c12 : x32_2 < (((rd_T29 l0 a1).f5).length : Int)
             · rw [if_pos c12] at H
               have c12b0 : decide (x32_2 < (((rd_T29 l0 a1).f5).length : Int)) = true:=decide_eq_true c12
               clear c12
               by_cases c13 : 0≤x32_2
               · rw [if_pos c13] at H
                 have c13b0 : decide (0≤x32_2) = true:=decide_eq_true c13
                 clear c13
                 by_cases c14 : x32_2 < (((rd_T29 l0 a1).f5).length : Int)
                 · rw [if_pos c14] at H
                   have c14b0 : decide (x32_2 < (((rd_T29 l0 a1).f5).length : Int)) = true:=decide_eq_true c14
                   clear c14
                   by_cases c15 : x5_2.length < 17592186044416
                   · rw [if_pos c15] at H
                     have LMc15:=Az.mk c15
                     clear c15
                     obtain ⟨y210,hy210⟩ : ∃ y_ : List Int,y_ = (x5_2 ++ [wrap64 (2 * (rd ((rd_T29 l0 a1).f5) x32_2))]):=⟨_,rfl⟩
                     replace H : (tree_Resolution.l0 k2 y210 ((rd_T29 l0 a1).f5) (((rd_T29 l0 a1).f5).length : Int) (wrap64 (x32_2 + 1))) = some r:=by first | (rw [hy210];with_reducible exact H) | (have H2_:=(Option.bind_some _ _).symm.trans H;rw [hy210];with_reducible exact H2_) | (have H2_:=(Option.bind_some _ _).symm.trans H;with_reducible exact H2_) | with_reducible exact H | (rw [hy210];exact H) | exact H
                     have Ny210:=Az.mk hy210
                     clear hy210
                     have H':=Az.mk H
                     clear H
                     have p209 : 0≤(x32_2 : Int):=of_decide_eq_true (by first | (with_reducible assumption) | assumption)
                     have q209 : x32_2 < (((rd_T29 l0 a1).f5).length : Int):=of_decide_eq_true (by first | (with_reducible assumption) | assumption)
                     obtain ⟨ad209,e209,hx209_0⟩:=Kd.at_int HR208_5.out x32_2 p209 q209
                     cases e209
                     replace hx209_0:=(HB.out.cell (World.block_lt_of_cell? w _ hx209_0)).trans hx209_0
                     replace p209:=eq_true p209
                     replace q209:=eq_true q209
                     go_wp2_with (first | ((with_reducible refine gate_builtin (b:=.append) (xs:=#[.tmp 36,.tmp 39]) rfl ?_);(try (refine gate_guard (by rfl) ?_;dsimp only));at_builtin;refine Kd.R_append (Kd.int .i64) (w0:=w) w.heap.size rfl (.tmp 36) (.tmp 39) 27 3 (.int .i64 0) 8 rfl Tryd.underlying27 info3 rfl (by decide) (by omega) u5 x5_2 (wrap64 (2 * (rd ((rd_T29 l0 a1).f5) x32_2))) [.int .i64 (wrap64 (2 * (rd ((rd_T29 l0 a1).f5) x32_2)))] (fun _=>True) (fun _=>False) rfl rfl ?aP (fun _ hk=>hk.elim) ?aF ?aO ?aB ?aS ?aL ?_;(case aP=>exact rfl);(case aB=>exact (bmv HB.out));(case aF=>exact (fun _ _=>trivial));(case aO=>exact (R_mv HO_5.out));(case aS=>exact (bwZ (bmv HB.out)));(case aL=>have:=LMc15.out;omega);intro v211 w16 ho hb hg hat;rw [← Ny210.out] at ho;have n0_:=Az.mk (hb);have n1_:=Az.mk (ho);clear HB;clear HO_5;have HB:=n0_;have HO212:=n1_;clear n0_ n1_;clear ho hb hg hat))
                     go_roundg k2
                     case measure=>have:=HJ2.out;have:=HK2.out;omega
                     case rel=>exact ⟨(y210),(wrap64 (x32_2 + 1)),(by first | rfl | (simp;done) | (simp [*];done)),H',⟨by have:=HJ2.out;have:=HK2.out;omega⟩,⟨R_mv HO212.out⟩,⟨bmv HB.out⟩⟩
                   · rw [if_neg c15] at H
                     exact absurd H (by simp)
                 · rw [if_neg c14] at H
                   exact absurd H (by simp)
               · rw [if_neg c13] at H
                 exact absurd H (by simp)
             · rw [if_neg c12] at H
               have c12b0 : decide (x32_2 < (((rd_T29 l0 a1).f5).length : Int)) = false:=decide_eq_false c12
               clear c12
               obtain rfl:=Option.some.inj H
               go_wp2
               go_ret
               exact ⟨_,by first | rfl | (simp [errW_none,errW_some] <;> rfl) | (simp [*,errW_none,errW_some] <;> rfl),R_mv HO_5.out,bmv HB.out⟩
         · replace c9:=Bool.eq_false_iff.mpr c9
           subst c9
           have H1 : ((tree_Leaves.f l0).bind fun t213=>((heap_Children.f a1 t213).bind fun bt214=>(if bt214.2.2 = 0 then ((tree_Resolution.f kj2 l0 bt214.1).bind fun t217=>((tree_Resolution.f kj2 l0 bt214.2.1).bind fun t220=>(if t217.length + t220.length < 17592186044416 then (some (t217 ++ t220)) else (none)))) else (some ([] : List Int))))) = some r:=by rw [if_neg (show ¬ (false = true) by decide)] at H;exact H
           clear H
           have H:=H1
           clear H1
           replace H:=Option.bind_eq_some_iff.mp H
           obtain ⟨t213,A170,H⟩:=H
           replace H : ((heap_Children.f a1 t213).bind fun bt214=>(if bt214.2.2 = 0 then ((tree_Resolution.f kj2 l0 bt214.1).bind fun t217=>((tree_Resolution.f kj2 l0 bt214.2.1).bind fun t220=>(if t217.length + t220.length < 17592186044416 then (some (t217 ++ t220)) else (none)))) else (some ([] : List Int)))) = some r:=H
           have A17:=Az.mk A170
           clear A170
           replace H:=Option.bind_eq_some_iff.mp H
           obtain ⟨⟨t214,t215,t216⟩,A180,H⟩:=H
           replace H : (if t216 = 0 then ((tree_Resolution.f kj2 l0 t214).bind fun t217=>((tree_Resolution.f kj2 l0 t215).bind fun t220=>(if t217.length + t220.length < 17592186044416 then (some (t217 ++ t220)) else (none)))) else (some ([] : List Int))) = some r:=H
           have A18:=Az.mk A180
           clear A180
           by_cases c19 : t216 = 0
           · rw [if_pos c19] at H
             have c19b0 : (t216 == 0) = true:=beq_iff_eq.mpr c19
             have c19b1 : (t216 != 0) = false:=bne_eq_false_iff_eq.mpr c19
             clear c19
             replace H:=Option.bind_eq_some_iff.mp H
             obtain ⟨t217,A200,H⟩:=H
             replace H : ((tree_Resolution.f kj2 l0 t215).bind fun t220=>(if t217.length + t220.length < 17592186044416 then (some (t217 ++ t220)) else (none))) = some r:=H
             have A20:=Az.mk A200
             clear A200
             replace H:=Option.bind_eq_some_iff.mp H
             obtain ⟨t220,A210,H⟩:=H
             replace H : (if t217.length + t220.length < 17592186044416 then (some (t217 ++ t220)) else (none)) = some r:=H
             have A21:=Az.mk A210
             clear A210
             by_cases c22 : t217.length + t220.length < 17592186044416
             · rw [if_pos c22] at H
               have LMc22:=Az.mk c22
               clear c22
               obtain ⟨y223,hy223⟩ : ∃ y_ : List Int,y_ = (t217 ++ t220):=⟨_,rfl⟩
               replace H : (some y223) = some r:=by first | (rw [hy223];with_reducible exact H) | (have H2_:=(Option.bind_some _ _).symm.trans H;rw [hy223];with_reducible exact H2_) | (have H2_:=(Option.bind_some _ _).symm.trans H;with_reducible exact H2_) | with_reducible exact H | (rw [hy223];exact H) | exact H
               have Ny223:=Az.mk hy223
               clear hy223
               obtain rfl:=Option.some.inj H
               have p204 : 0≤(a1 : Int):=of_decide_eq_true (by first | (with_reducible assumption) | assumption)
               have q204 : a1 < (l0.length : Int):=of_decide_eq_true (by first | (with_reducible assumption) | assumption)
               obtain ⟨ad204,A204_5,c204_5,e204,hx204_0,hx204_1,hx204_2,hx204_3,hx204_4,hx204_5,hl204_5,hi204_5⟩:=at_T29 HR0.out a1 p204 q204
               (try rw [← Nbq8.out] at hx204_0)
               cases e204
               replace hx204_0:=(HB.out.cell (World.block_lt_of_cell? w _ hx204_0)).trans hx204_0
               replace hx204_1:=(HB.out.cell (World.block_lt_of_cell? w _ hx204_1)).trans hx204_1
               replace hx204_2:=(HB.out.cell (World.block_lt_of_cell? w _ hx204_2)).trans hx204_2
               replace hx204_3:=(HB.out.cell (World.block_lt_of_cell? w _ hx204_3)).trans hx204_3
               replace hx204_4:=(HB.out.cell (World.block_lt_of_cell? w _ hx204_4)).trans hx204_4
               replace hx204_5:=(HB.out.cell (World.block_lt_of_cell? w _ hx204_5)).trans hx204_5
               have HR204_5:=Az.mk hi204_5
               have HC204_5:=Az.mk hl204_5
               clear hi204_5 hl204_5
               replace p204:=eq_true p204
               replace q204:=eq_true q204
               go_wp2_with (first | ((with_reducible refine gate_callee (f:=29) rfl ?_);refine goesL_ (some 46) rfl rfl Tryd.func29 (by kernel_rfl) rfl #[.slice (some ad204) l0.length c0] rfl (by (try simp only [List.map_toArray,List.map_cons,List.map_nil]);first | done | rfl | (simp only [List.length_drop,List.length_take];rfl)) ?_;(with_reducible refine (tree_Leaves.calls _ _ l0 t213 _ ?side1 ?side2 A17.out).mono ?_);(case side1=>exact C_mv ((Kd.C_below HR0.out HB.out)));(case side2=>exact HC0.out);rintro e w' ⟨rfl,⟨nd,rfl⟩⟩;refine ⟨_,rfl,?_⟩) | ((with_reducible refine gate_callee (f:=57) rfl ?_);refine goesL_ (some 47) rfl rfl Tryd.func57 (by kernel_rfl) rfl #[.int .i64 a1,.int .i64 t213] rfl (by (try simp only [List.map_toArray,List.map_cons,List.map_nil]);first | done | rfl | (simp only [List.length_drop,List.length_take];rfl)) ?_;(with_reducible refine (heap_Children.calls (hrG:=?sideG) a1 t213 t214 t215 t216 _ A18.out).mono ?_);(case sideG=>(first | (with_reducible exact HRG.out) | exact TabG.below HRG.out (by repeat (first | (with_reducible first | exact HB.out | apply bwA | apply bwN | apply bw1) | (with_reducible exact Below.refl _ _)))));rintro e w' ⟨rfl,⟨nd,rfl⟩⟩;refine ⟨_,rfl,?_⟩) | ((with_reducible refine gate_callee (f:=25) rfl ?_);refine goesL_ (some 55) rfl rfl Tryd.func25 (by kernel_rfl) rfl #[.slice (some ad204) l0.length c0,.int .i64 t214] rfl (by (try simp only [List.map_toArray,List.map_cons,List.map_nil]);first | done | rfl | (simp only [List.length_drop,List.length_take];rfl)) ?_;(with_reducible refine (ih kj2 (by have:=HJ2.out;omega) _ _ l0 t214 t217 _ ?sideG ?side1 ?side2 A20.out).mono ?_);(case sideG=>(first | (with_reducible exact HRG.out) | exact TabG.below HRG.out (by repeat (first | (with_reducible first | exact HB.out | apply bwA | apply bwN | apply bw1) | (with_reducible exact Below.refl _ _)))));(case side1=>exact C_mv ((Kd.C_below HR0.out HB.out)));(case side2=>exact HC0.out);rintro e w23 ⟨v218,rfl,ho0,hb⟩;refine ⟨_,rfl,?_⟩;have n0_:=Az.mk (Kd.R_lower ho0 (bwZ (bmv HB.out)));have n1_:=Az.mk (bwT (bmv HB.out) hb);clear HB;have HO219:=n0_;have HB:=n1_;clear n0_ n1_;(try clear hb);(try clear hb2);(try clear hk);(try clear hi);(try clear ho0)) | ((with_reducible refine gate_callee (f:=25) rfl ?_);refine goesL_ (some 58) rfl rfl Tryd.func25 (by kernel_rfl) rfl #[.slice (some ad204) l0.length c0,.int .i64 t215] rfl (by (try simp only [List.map_toArray,List.map_cons,List.map_nil]);first | done | rfl | (simp only [List.length_drop,List.length_take];rfl)) ?_;(with_reducible refine (ih kj2 (by have:=HJ2.out;omega) _ _ l0 t215 t220 _ ?sideG ?side1 ?side2 A21.out).mono ?_);(case sideG=>(first | (with_reducible exact HRG.out) | exact TabG.below HRG.out (by repeat (first | (with_reducible first | exact HB.out | apply bwA | apply bwN | apply bw1) | (with_reducible exact Below.refl _ _)))));(case side1=>exact C_mv ((Kd.C_below HR0.out HB.out)));(case side2=>exact HC0.out);rintro e w24 ⟨v221,rfl,ho0,hb⟩;refine ⟨_,rfl,?_⟩;have n0_:=Az.mk (Kd.R_elder' (R_mv HO219.out) (Kd.R_base ho0) hb);have n1_:=Az.mk (Kd.R_lower (Kd.R_new' ho0 (Kd.R_lt (R_mv HO219.out))) (bwZ (bmv HB.out)));have n2_:=Az.mk (bwT (bmv HB.out) hb);clear HO219;clear HB;have HO219:=n0_;have HO222:=n1_;have HB:=n2_;clear n0_ n1_ n2_;(try clear hb);(try clear hb2);(try clear hk);(try clear hi);(try clear ho0);obtain ⟨Ao26,co26,eo26⟩:=Kd.R_slice HO222.out;subst eo26) | ((with_reducible refine gate_builtin (b:=.append) (xs:=#[.tmp 55,.tmp 58]) rfl ?_);(try (refine gate_guard (by rfl) ?_;dsimp only));at_builtin;refine Kd.R_append_rows (Kd.int .i64) (w0:=w) w.heap.size rfl (.tmp 55) (.tmp 58) 27 3 (.int .i64 0) 8 rfl Tryd.underlying27 info3 rfl (by decide) (by omega) v218 t217 t220 _ _ _ (fun k_=>some k_≠(.slice Ao26 t220.length co26 : Value).ownBlock) (fun _=>False) rfl rfl ?aO ?aR (fun _ _ h=>h) (fun _ h=>h.elim) ?aF ?aB ?aS ?aL ?_;(case aR=>repeat (first | exact (Kd.R_reads' HO222.out).2.2 | (with_reducible refine Kd.C_alloc ?_ _) | (with_reducible refine Kd.C_drewN ?_ _) | (with_reducible refine Kd.C_drew ?_)));(case aB=>exact (bmv HB.out));(case aF=>exact (fun k_ hk=>Kd.fresh' (Kd.R_lt (R_mv HO222.out)) k_ hk));(case aO=>exact (R_mv (Kd.R_mono HO219.out (fun _ hk=>hk.2))));(case aS=>exact (bwZ (bmv HB.out)));(case aL=>have:=LMc22.out;omega);intro v224 w25 ho hb hg hat;rw [← Ny223.out] at ho;have n0_:=Az.mk (Kd.R_after (ok:=(fun _=>True)) (R_mv HO222.out) hg hat);have n1_:=Az.mk (hb);have n2_:=Az.mk (ho);clear HO222;clear HB;clear HO219;have HO222:=n0_;have HB:=n1_;have HO225:=n2_;clear n0_ n1_ n2_;clear ho hb hg hat))
               go_ret
               exact ⟨_,by first | rfl | (simp [errW_none,errW_some] <;> rfl) | (simp [*,errW_none,errW_some] <;> rfl),R_mv (Kd.R_mono HO225.out (fun _ hk=>trivial)),bmv HB.out⟩
             · rw [if_neg c22] at H
               exact absurd H (by simp)
           · rw [if_neg c19] at H
             have c19b0 : (t216 == 0) = false:=beq_eq_false_iff_ne.mpr c19
             have c19b1 : (t216 != 0) = true:=bne_iff_ne.mpr c19
             obtain rfl:=Option.some.inj H
             have p204 : 0≤(a1 : Int):=of_decide_eq_true (by first | (with_reducible assumption) | assumption)
             have q204 : a1 < (l0.length : Int):=of_decide_eq_true (by first | (with_reducible assumption) | assumption)
             obtain ⟨ad204,A204_5,c204_5,e204,hx204_0,hx204_1,hx204_2,hx204_3,hx204_4,hx204_5,hl204_5,hi204_5⟩:=at_T29 HR0.out a1 p204 q204
             (try rw [← Nbq8.out] at hx204_0)
             cases e204
             replace hx204_0:=(HB.out.cell (World.block_lt_of_cell? w _ hx204_0)).trans hx204_0
             replace hx204_1:=(HB.out.cell (World.block_lt_of_cell? w _ hx204_1)).trans hx204_1
             replace hx204_2:=(HB.out.cell (World.block_lt_of_cell? w _ hx204_2)).trans hx204_2
             replace hx204_3:=(HB.out.cell (World.block_lt_of_cell? w _ hx204_3)).trans hx204_3
             replace hx204_4:=(HB.out.cell (World.block_lt_of_cell? w _ hx204_4)).trans hx204_4
             replace hx204_5:=(HB.out.cell (World.block_lt_of_cell? w _ hx204_5)).trans hx204_5
             have HR204_5:=Az.mk hi204_5
             have HC204_5:=Az.mk hl204_5
             clear hi204_5 hl204_5
             replace p204:=eq_true p204
             replace q204:=eq_true q204
             go_wp2_with (first | ((with_reducible refine gate_callee (f:=29) rfl ?_);refine goesL_ (some 46) rfl rfl Tryd.func29 (by kernel_rfl) rfl #[.slice (some ad204) l0.length c0] rfl (by (try simp only [List.map_toArray,List.map_cons,List.map_nil]);first | done | rfl | (simp only [List.length_drop,List.length_take];rfl)) ?_;(with_reducible refine (tree_Leaves.calls _ _ l0 t213 _ ?side1 ?side2 A17.out).mono ?_);(case side1=>exact C_mv ((Kd.C_below HR0.out HB.out)));(case side2=>exact HC0.out);rintro e w' ⟨rfl,⟨nd,rfl⟩⟩;refine ⟨_,rfl,?_⟩) | ((with_reducible refine gate_callee (f:=57) rfl ?_);refine goesL_ (some 47) rfl rfl Tryd.func57 (by kernel_rfl) rfl #[.int .i64 a1,.int .i64 t213] rfl (by (try simp only [List.map_toArray,List.map_cons,List.map_nil]);first | done | rfl | (simp only [List.length_drop,List.length_take];rfl)) ?_;(with_reducible refine (heap_Children.calls (hrG:=?sideG) a1 t213 t214 t215 t216 _ A18.out).mono ?_);(case sideG=>(first | (with_reducible exact HRG.out) | exact TabG.below HRG.out (by repeat (first | (with_reducible first | exact HB.out | apply bwA | apply bwN | apply bw1) | (with_reducible exact Below.refl _ _)))));rintro e w' ⟨rfl,⟨nd,rfl⟩⟩;refine ⟨_,rfl,?_⟩))
             go_ret
             exact ⟨_,by first | rfl | (simp [errW_none,errW_some] <;> rfl) | (simp [*,errW_none,errW_some] <;> rfl),by first | exact Kd.R_nil _ _ _ _ _ | exact Kd.N_nil _ _ _ _ _ | exact Kd.V_nil _ _ _ _ _ | exact Kd.Q_nil _ _ _ _ _ | exact Kd.S_nil _ _ _ _ _,bmv HB.out⟩
       · rw [if_neg c7] at H
         exact absurd H (by simp)
     · rw [if_neg c6] at H
       exact absurd H (by simp)
def sibOf (s : Int × Int) : Int:=wrap64 (wrap64 (2 * s.2) - s.1)
section
open Go.Shelf
attribute [local go_sem] Oper.semAt_some
set_option maxHeartbeats 2000000 in
theorem copath_no (a0 a1 : Int) (w : World) (h : heap_in.f a0 a1 = some false) : Calls Tryd.prog 56 #[.int .i64 a0,.int .i64 a1] w fun e w'=>e = .returned (.tuple #[.slice none 0 0,.int .i64 30])∧Below w.heap.size w w':=by
 have hc:=Lib.hid (heap_in.calls a0 a1 false w h)
 clear h
 go_enter Tryd.func56,Tryd.ntmps56
 go_wp2_with (go_at_call 70;refine hc.out.mono ?_;rintro e w' ⟨rfl,⟨nd,rfl⟩⟩)
 go_ret2
 exact ⟨rfl,bwN (Below.refl _ _) _⟩
set_option maxRecDepth 100000 in
set_option maxHeartbeats 4000000 in
theorem copath_yes (a0 a1 : Int) (steps : List (Int × Int)) (w : World) (hT : TabG w) (h : heap_in.f a0 a1 = some true) (hs : upF 8 a0 a1 = some steps) :
 Calls Tryd.prog 56 #[.int .i64 a0,.int .i64 a1] w fun e w'=>∃ v,e = .returned (.tuple #[v,.int .i64 0])∧w'.ownsRow w.heap.size 3 1 v steps.length ((steps.map sibOf).map (Value.int .i64))∧Below w.heap.size w w':=by
 have hc:=Lib.hid (heap_in.calls a0 a1 true w h)
 have HT:=Lib.hid hT
 have HS:=Lib.hid hs
 clear h hT hs
 refine (callsIn_wide (n:=100)).1 ?_
 refine callsIn_of_wp_marks Tryd.func56 rfl trivial ?_ rfl
 simp only [Tryd.ntmps56,List.size_toArray,List.length_cons,List.length_nil,Nat.reduceAdd,Nat.reduceSub,Array.replicate_succ,Array.replicate_zero,List.push_toArray,List.append_toArray,List.nil_append,List.cons_append]
 gi_wp2_with (first
  | (refine ⟨trivial,?_⟩;gi_at_call 70;refine (callsIn_wide.2 hc.out).mono ?_;rintro e w1 ⟨rfl,⟨nd,rfl⟩⟩)
  | (refine ⟨trivial,?_⟩;gi_at_call 71;refine (callsIn_wide.2 (walk_calls _ _ _)).mono ?_;rintro e w1 ⟨rfl,rfl⟩))
 have hB0 : Below w.heap.size w ((((w.drewN nd).alloc (.cells #[.slice none 0 0] 27)).alloc (.cells #[.int .i64 a0] 3)).alloc (.cells #[.int .i64 a1] 3)):=bwA (bwA (bwA (bwN (Below.refl _ w) nd) _) _) _
 have e4:=three_allocs (w.drewN nd) (.cells #[.slice none 0 0] 27) (.cells #[.int .i64 a0] 3) (.cells #[.int .i64 a1] 3)
 rw [show (w.drewN nd).heap.size = w.heap.size from rfl] at e4
 obtain ⟨e0,e1,e2,e3⟩:=e4
 have hTl:=HT.out.lt
 have hT3:=HT.out.below hB0
 generalize (((w.drewN nd).alloc (.cells #[.slice none 0 0] 27)).alloc (.cells #[.int .i64 a0] 3)).alloc (.cells #[.int .i64 a1] 3) = w3 at *
 have HB0:=Lib.hid hB0;have E0:=Lib.hid e0;have HE3:=Lib.hid e3
 have hle:=upF_le _ _ _ _ HS.out
 obtain ⟨i0,hi,hz0,hz1,hz2⟩:=info_parts infoInt3
 have HI:=Lib.hid (And.intro hi (And.intro hz0 (And.intro hz1 hz2)))
 have hy:=walk_yields (w.heap.size + 3) w.heap.size (w.heap.size + 1) (w.heap.size + 2) a0 a1 steps w3 (by omega) (by omega) (by omega) (by omega) (by omega) (by omega) (by omega) (by omega) (by omega) e1 e2 hT3 HS.out
 clear hB0 e0 e1 e2 hT3 hi hz0 hz1 hz2
 refine wpIn_rangeFunc_cell rfl (by decide) (gf:=80) (lb:=#[.pointer (some ⟨w.heap.size + 1,0,none⟩),.pointer (some ⟨w.heap.size + 2,0,none⟩)]) (by simp [Act.eval]) trivial (enters_of Tryd.func80 (by kernel_rfl) rfl) hy
  RoundKeeps.trans (fun W l o o' hl ho hc=>⟨by simp,fun k hk hn=>other_putObj W l k o' (by omega)⟩) (fun _=>rfl)
  (fun (pre : List (Int × Int)) W=>Coll w (w.heap.size + 3) w.heap.size (w.heap.size + 1) (pre.map sibOf) W) (by rw [e3];exact Coll.own (by omega) (by omega) _) (fun s W v h=>h.set (by omega) (by omega) (by omega) v)
  (fun s W h=>⟨h.row,below_drew h.below,h.size⟩) ⟨⟨_,E0.out,own_nil _ _ _ _⟩,HB0.out,by omega⟩
  (fun s=>{ tmps:=#[.int .i64 a0,.int .i64 a1,undef,undef,.slice none 0 0,.int .i64 0,.pointer (some ⟨w.heap.size,0,none⟩),.int .i64 s.1,.int .i64 s.2,.int .i64 a0,.int .i64 a1,.bool true,.bool false,.int .i64 a0,.int .i64 a1,.func (.func 80) #[] #[.pointer (some ⟨w.heap.size + 1,0,none⟩),.pointer (some ⟨w.heap.size + 2,0,none⟩)],.int .i64 s.1,.int .i64 s.2,undef,undef,undef,undef,undef,undef,undef,undef],defers:=[] }) ?assign ?body ?done
 case assign=>
  intro l x W K hK
  gi_wp2
  exact hK
 case body=>
  rintro l pre x W ⟨⟨v,h1,h2⟩,h3,h4⟩ hpre
  have hlen : pre.length + 1 < 9:=by
   obtain ⟨t,ht⟩:=hpre
   have:=congrArg List.length ht
   simp at this;omega
  have c1 : W.cell? ⟨w.heap.size,0,none⟩ = some v:=by simp [World.cell?,h1]
  have f1 : W.frozen? ⟨w.heap.size,0,none⟩ = false:=by simp [World.frozen?,h1]
  have hsz:=h3.size
  have H1:=Lib.hid h1;have H2:=Lib.hid h2;have H3:=Lib.hid h3
  clear h1 h2 h3 hpre
  gi_wp2_with (gi_at_builtin;refine wpListIn_append_own _ rfl _ _ 27 rfl (w.heap.size + 3) 3 i0 (.int .i64 0) 1 8 Tryd.underlying27 HI.out.1 HI.out.2.1 HI.out.2.2.1 HI.out.2.2.2 rfl (by decide) _ _ _ rfl (H2.out.alloc _) ⟨W.heap.size,0,none⟩ 1 1 [.int .i64 (sibOf x)] rfl rfl (cell_one_new _ _ _) (by simp [Value.oneCell']) (by simp;unfold maxLen;omega) (by simp;omega) (by simp;omega) ?_;intro v' w1 hown' hgrow _;obtain ⟨g',cap',rfl⟩:=ownsRow_succ hown';have hm:=Coll.mid (by omega) H1.out H2.out h4 hgrow;have c2 : w1.cell? ⟨w.heap.size,0,none⟩ = some v:=(by simp [World.cell?,hm]);have f2 : w1.frozen? ⟨w.heap.size,0,none⟩ = false:=(by simp [World.frozen?,hm]);have HOW:=Lib.hid hown';have HGR:=Lib.hid hgrow;clear hm hown' hgrow)
  have hcr:=Coll.round (Nat.le_refl _) (by omega) (Bx:=w.heap.size + 1) H1.out H2.out H3.out h4 HOW.out HGR.out
  rw [List.length_map] at hcr
  refine ⟨hcr.1,hcr.2.1,?_⟩
  show Coll _ _ _ _ (List.map sibOf (pre ++ [x])) _
  rw [List.map_append];exact hcr.2.2
 case done=>
  rintro D W hD ⟨⟨v,h1,h2⟩,h3,h4⟩ hK
  have c1 : W.cell? ⟨w.heap.size,0,none⟩ = some v:=by simp [World.cell?,h1]
  have H1:=Lib.hid h1;have H2:=Lib.hid h2;have H3:=Lib.hid h3;have HK:=Lib.hid hK
  clear h1 h2 h3 hK
  gi_wp2
  refine ⟨by simp,.inl ⟨_,_,rfl,run_takeDeferred HK.out,?_⟩⟩
  have h2:=own_weaken H2.out (base':=w.heap.size) (by omega)
  rw [List.length_map] at h2
  exact ⟨_,by simp [results,Tryd.results56,go_sem],v,rfl,h2.kept (grownBy_putObj' W D _) (by
   cases hb : v.ownBlock with
   | none=>exact .inl rfl
   | some g=>
    right
    intro e
    obtain ⟨cells,hcells⟩:=own_typed H2.out g hb
    cases e
    rw [HK.out] at hcells;cases hcells),H3.out.grown (grownBy_putObj' W D _) H3.out.size (fun k e=>by cases e;omega)⟩
end
def heap_Copath.f (a0 : Int) (a1 : Int) : Option (List Int × Int):=(heap_in.f a0 a1).bind fun t=>if t = true then (upF 8 a0 a1).map (fun l=>(l.map sibOf,0)) else some ([],30)
theorem heap_Copath.calls (a0 : Int) (a1 : Int) (r1 : List Int) (r2 : Int) (w : World) (hrG : TabG w) (h : heap_Copath.f a0 a1 = some (r1,r2)) :
 Calls Tryd.prog 56 #[.int .i64 a0,.int .i64 a1] w fun e w'=>∃ v0_ : Value,e = .returned (.tuple #[v0_,.int .i64 r2])∧Kd.R (Kd.int .i64) 3 w' w.heap.size (fun _=>True) v0_ r1∧Below w.heap.size w w':=by
 unfold heap_Copath.f at h
 obtain ⟨b,hb,h⟩:=Option.bind_eq_some_iff.1 h
 cases b with
 | false=>
  simp only [Bool.false_eq_true,if_false,Option.some.injEq,Prod.mk.injEq] at h
  obtain ⟨rfl,rfl⟩:=h
  refine (copath_no a0 a1 w hb).mono ?_
  rintro e w' ⟨rfl,hB⟩
  exact ⟨_,rfl,Kd.R_nil _ _ _ _ _,hB⟩
 | true=>
  simp only [if_true] at h
  obtain ⟨steps,hs,h⟩:=Option.map_eq_some_iff.1 h
  simp only [Prod.mk.injEq] at h
  obtain ⟨rfl,rfl⟩:=h
  refine (copath_yes a0 a1 steps w hrG hb hs).mono ?_
  rintro e w' ⟨v,rfl,hr,hB⟩
  refine ⟨v,rfl,Kd.R_of_own ?_ (fun _ _=>trivial),hB⟩
  rw [List.length_map];exact hr
end Go.Proofs.YtbblomnhobodkaaDoor.PTw
