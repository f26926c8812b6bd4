/- What this claim reaches of longer texts of this session. -/
import Derived.Test.YtbblomnhobodkaaDoorPTwx0
import Derived.Test.YtbblomnhobodkaaDoorPTwx1
namespace Go.Proofs.YtbblomnhobodkaaDoor.PTw
open Go.RowKit Go.Proofs.YtbblomnhobodkaaDoorW.PW Go.Proofs.YtbblomnhobodkaaDoorW.PL Go.Proofs.YtbblomnhobodkaaDoorW.PM
attribute [local go_sem] max2_int min2_int max_two min_two max_three min_three max_four min_four   -- for this text's walks alone
set_option linter.unusedVariables false
set_option linter.unusedSimpArgs false
def heap_Under.j0 : Nat→Int→Int→Bool→Option (Bool)
 | 0,_,_,_=>none
 | k + 1,x0,x1,x17=>if x17 = true then (some false) else ((heap_Level.f x1).bind fun t109=>((heap_Level.f x0).bind fun t110=>(if t110≤t109 then (if 0≤(wrap64 (t109 + 1)) then (some ((shr .i64 x0 (wrap64 (t109 + 1))) == (shr .i64 x1 (wrap64 (t109 + 1))))) else (none)) else (some false))))
def heap_Under.f (k : Nat) (a0 : Int) (a1 : Int) (a2 : Int) : Option (Bool):=(heap_in.f a0 a2).bind fun t107=>(if t107 = true then ((heap_in.f a1 a2).bind fun t108=>(heap_Under.j0 k a0 a1 (!t108))) else (heap_Under.j0 k a0 a1 true))
theorem heap_Under.mono_l : ∀ k,(∀ y0 y1 y2,LeO (heap_Under.j0 k y0 y1 y2) (heap_Under.j0 (k + 1) y0 y1 y2))
 | 0=>fun _ _ _ r h=>by simp [heap_Under.j0] at h
 | k + 1=>by
  have ih0:=heap_Under.mono_l k
  · intro y0 y1 y2
    unfold heap_Under.j0
    repeat' first
    | (with_reducible exact ih0 _ _ _)
    | (with_reducible exact LeO.refl _)
    | (with_reducible exact LeO.none _)
    | (with_reducible refine LeO.ite ?_ ?_)
    | (with_reducible refine LeO.bind ?_ (fun _=>?_))
    | exact ih0 _ _ _
    | exact LeO.none _
    | refine LeO.ite ?_ ?_
    | refine LeO.bind ?_ (fun _=>?_)
theorem heap_Under.mono : ∀ a0 a1 a2 k,LeO (heap_Under.f k a0 a1 a2) (heap_Under.f (k + 1) a0 a1 a2):=by
 intro a0 a1 a2 k
 have ih0:=heap_Under.mono_l k
 unfold heap_Under.f
 repeat' first
  | (with_reducible exact ih0 _ _ _)
  | (with_reducible exact LeO.refl _)
  | (with_reducible exact LeO.none _)
  | (with_reducible refine LeO.ite ?_ ?_)
  | (with_reducible refine LeO.bind ?_ (fun _=>?_))
  | exact ih0 _ _ _
  | exact LeO.none _
  | refine LeO.ite ?_ ?_
  | refine LeO.bind ?_ (fun _=>?_)
set_option maxHeartbeats 8000000 in
set_option maxRecDepth 100000 in
theorem heap_Under.calls (k : Nat) (a0 : Int) (a1 : Int) (a2 : Int) (r : Bool) (w : World) (hrG : TabG w) (h : heap_Under.f k a0 a1 a2 = some r) :
 Calls Tryd.prog 66 #[.int .i64 a0,.int .i64 a1,.int .i64 a2] w fun e w'=>e = .returned (.bool r)∧Drawn0 w w':=by
 have HRG:=Az.mk hrG
 clear hrG
 have H : ((heap_in.f a0 a2).bind fun t107=>(if t107 = true then ((heap_in.f a1 a2).bind fun t108=>(heap_Under.j0 k a0 a1 (!t108))) else (heap_Under.j0 k a0 a1 true))) = some r:=h
 clear h
 have HC4:=Az.mk H
 clear H
 go_enter Tryd.func66,Tryd.ntmps66
 go_upto_region 1 with (fail)
 repeat (go_quiet (fail);go_upto_region 1 with (fail))
 go_cut [17] (fun v17 wc=>∃ (kq : Nat) (x17_3 : Bool),v17 = .bool x17_3∧Az (heap_Under.j0 kq a0 a1 x17_3 = some r)∧Az (kq≤k)∧Drawn0 w wc)
 case first=>
  have H:=HC4.out
  clear HC4
  replace H:=Option.bind_eq_some_iff.mp H
  obtain ⟨t107,A50,H⟩:=H
  replace H : (if t107 = true then ((heap_in.f a1 a2).bind fun t108=>(heap_Under.j0 k a0 a1 (!t108))) else (heap_Under.j0 k a0 a1 true)) = some r:=H
  have A5:=Az.mk A50
  clear A50
  by_cases c6 : t107 = true
  · subst c6
    have H1 : ((heap_in.f a1 a2).bind fun t108=>(heap_Under.j0 k a0 a1 (!t108))) = some r:=by rw [if_pos rfl] at H;exact H
    clear H
    have H:=H1
    clear H1
    replace H:=Option.bind_eq_some_iff.mp H
    obtain ⟨t108,A70,H⟩:=H
    replace H : (heap_Under.j0 k a0 a1 (!t108)) = some r:=H
    have A7:=Az.mk A70
    clear A70
    have H':=Az.mk H
    clear H
    go_wp2_with (first | (go_at_call 70;(with_reducible refine (heap_in.calls a0 a2 true _ A5.out).mono ?_);rintro e w' ⟨rfl,⟨nd,rfl⟩⟩;(try first | exact ⟨rfl,_,World.drewN_drewN _ _ _⟩ | exact ⟨rfl,_,Eq.trans (World.drewN_drewN _ _ _) (congrArg (World.drewN _) (Nat.add_assoc _ _ _))⟩)) | (go_at_call 70;(with_reducible refine (heap_in.calls a1 a2 t108 _ A7.out).mono ?_);rintro e w' ⟨rfl,⟨nd,rfl⟩⟩;(try first | exact ⟨rfl,_,World.drewN_drewN _ _ _⟩ | exact ⟨rfl,_,Eq.trans (World.drewN_drewN _ _ _) (congrArg (World.drewN _) (Nat.add_assoc _ _ _))⟩)))
    repeat (go_quiet (first | (go_at_call 70;(with_reducible refine (heap_in.calls a0 a2 true _ A5.out).mono ?_);rintro e w' ⟨rfl,⟨nd,rfl⟩⟩;(try first | exact ⟨rfl,_,World.drewN_drewN _ _ _⟩ | exact ⟨rfl,_,Eq.trans (World.drewN_drewN _ _ _) (congrArg (World.drewN _) (Nat.add_assoc _ _ _))⟩)) | (go_at_call 70;(with_reducible refine (heap_in.calls a1 a2 t108 _ A7.out).mono ?_);rintro e w' ⟨rfl,⟨nd,rfl⟩⟩;(try first | exact ⟨rfl,_,World.drewN_drewN _ _ _⟩ | exact ⟨rfl,_,Eq.trans (World.drewN_drewN _ _ _) (congrArg (World.drewN _) (Nat.add_assoc _ _ _))⟩)));try go_wp2_with (first | (go_at_call 70;(with_reducible refine (heap_in.calls a0 a2 true _ A5.out).mono ?_);rintro e w' ⟨rfl,⟨nd,rfl⟩⟩;(try first | exact ⟨rfl,_,World.drewN_drewN _ _ _⟩ | exact ⟨rfl,_,Eq.trans (World.drewN_drewN _ _ _) (congrArg (World.drewN _) (Nat.add_assoc _ _ _))⟩)) | (go_at_call 70;(with_reducible refine (heap_in.calls a1 a2 t108 _ A7.out).mono ?_);rintro e w' ⟨rfl,⟨nd,rfl⟩⟩;(try first | exact ⟨rfl,_,World.drewN_drewN _ _ _⟩ | exact ⟨rfl,_,Eq.trans (World.drewN_drewN _ _ _) (congrArg (World.drewN _) (Nat.add_assoc _ _ _))⟩))))
    go_meet
    case rel=>exact ⟨_,(!t108),(by first | rfl | (simp;done) | (simp [*];done)),H',⟨by first | omega | exact Nat.le_refl _⟩,by repeat (first | exact Drawn0.refl _ | apply Drawn0.step)⟩
  · replace c6:=Bool.eq_false_iff.mpr c6
    subst c6
    have H1 : (heap_Under.j0 k a0 a1 true) = some r:=by rw [if_neg (show ¬ (false = true) by decide)] at H;exact H
    clear H
    have H:=H1
    clear H1
    have H':=Az.mk H
    clear H
    go_wp2_with (first | (go_at_call 70;(with_reducible refine (heap_in.calls a0 a2 false _ A5.out).mono ?_);rintro e w' ⟨rfl,⟨nd,rfl⟩⟩;(try first | exact ⟨rfl,_,World.drewN_drewN _ _ _⟩ | exact ⟨rfl,_,Eq.trans (World.drewN_drewN _ _ _) (congrArg (World.drewN _) (Nat.add_assoc _ _ _))⟩)))
    repeat (go_quiet (first | (go_at_call 70;(with_reducible refine (heap_in.calls a0 a2 false _ A5.out).mono ?_);rintro e w' ⟨rfl,⟨nd,rfl⟩⟩;(try first | exact ⟨rfl,_,World.drewN_drewN _ _ _⟩ | exact ⟨rfl,_,Eq.trans (World.drewN_drewN _ _ _) (congrArg (World.drewN _) (Nat.add_assoc _ _ _))⟩)));try go_wp2_with (first | (go_at_call 70;(with_reducible refine (heap_in.calls a0 a2 false _ A5.out).mono ?_);rintro e w' ⟨rfl,⟨nd,rfl⟩⟩;(try first | exact ⟨rfl,_,World.drewN_drewN _ _ _⟩ | exact ⟨rfl,_,Eq.trans (World.drewN_drewN _ _ _) (congrArg (World.drewN _) (Nat.add_assoc _ _ _))⟩))))
    go_meet
    case rel=>exact ⟨_,(true),(by first | rfl | (simp;done) | (simp [*];done)),H',⟨by first | omega | exact Nat.le_refl _⟩,by repeat (first | exact Drawn0.refl _ | apply Drawn0.step)⟩
 case rest=>
  clear HC4
  try clear c6
  obtain ⟨kq,x17_3,rfl,HA,HJ3,⟨mc3,rfl⟩⟩:=hcut
  cases kq with
  | zero=>exact absurd HA.out (by simp [heap_Under.j0])
  | succ kj3=>
   have H:=HA.out
   clear HA
   simp only [heap_Under.j0] at H
   by_cases c8 : x17_3 = true
   · subst c8
     have H1 : (some false) = some r:=by rw [if_pos rfl] at H;exact H
     clear H
     have H:=H1
     clear H1
     obtain rfl:=Option.some.inj H
     go_wp2
     repeat (go_quiet (fail);try go_wp2)
     go_ret
     exact ⟨by first | rfl | (simp;done) | (simp [*];done),by repeat (first | exact Drawn0.refl _ | apply Drawn0.step)⟩
   · replace c8:=Bool.eq_false_iff.mpr c8
     subst c8
     have H1 : ((heap_Level.f a1).bind fun t109=>((heap_Level.f a0).bind fun t110=>(if t110≤t109 then (if 0≤(wrap64 (t109 + 1)) then (some ((shr .i64 a0 (wrap64 (t109 + 1))) == (shr .i64 a1 (wrap64 (t109 + 1))))) else (none)) else (some false)))) = some r:=by rw [if_neg (show ¬ (false = true) by decide)] at H;exact H
     clear H
     have H:=H1
     clear H1
     replace H:=Option.bind_eq_some_iff.mp H
     obtain ⟨t109,A90,H⟩:=H
     replace H : ((heap_Level.f a0).bind fun t110=>(if t110≤t109 then (if 0≤(wrap64 (t109 + 1)) then (some ((shr .i64 a0 (wrap64 (t109 + 1))) == (shr .i64 a1 (wrap64 (t109 + 1))))) else (none)) else (some false))) = some r:=H
     have A9:=Az.mk A90
     clear A90
     replace H:=Option.bind_eq_some_iff.mp H
     obtain ⟨t110,A100,H⟩:=H
     replace H : (if t110≤t109 then (if 0≤(wrap64 (t109 + 1)) then (some ((shr .i64 a0 (wrap64 (t109 + 1))) == (shr .i64 a1 (wrap64 (t109 + 1))))) else (none)) else (some false)) = some r:=H
     have A10:=Az.mk A100
     clear A100
     by_cases c11 : t110≤t109
     · rw [if_pos c11] at H
       have c11b0 : decide (t110≤t109) = true:=decide_eq_true c11
       clear c11
       obtain ⟨ji12,hji12⟩ : ∃ j_ : Int,(wrap64 (t109 + 1)) = j_:=⟨_,rfl⟩
       replace H : (if 0≤(ji12) then (some ((shr .i64 a0 (ji12)) == (shr .i64 a1 (ji12)))) else (none)) = some r:=by first | (rw [hji12] at H;exact H) | (simp only [hji12] at H ⊢;exact H)
       (try rw [hji12] at A9)
       (try rw [hji12] at A10)
       have hji12w : (IntKind.i64.wrap (t109 + 1)) = ji12:=(i64_w _).trans hji12
       by_cases c13 : 0≤(ji12)
       · rw [if_pos c13] at H
         have c13b0:=eq_true c13
         have c13b1 : decide (0≤(ji12)) = true:=decide_eq_true c13
         clear c13
         obtain ⟨ji14,hji14⟩ : ∃ j_ : Int,(shr .i64 a0 (ji12)) = j_:=⟨_,rfl⟩
         replace H : (some ((ji14) == (shr .i64 a1 (ji12)))) = some r:=by first | (rw [hji14] at H;exact H) | (simp only [hji14] at H ⊢;exact H)
         (try rw [hji14] at A9)
         (try rw [hji14] at A10)
         have hji14_ : (a0 / 2 ^ min (ji12).toNat 64) = ji14:=hji14
         have hji14z : (ji12)≤64→(a0 / 2 ^ (ji12).toNat) = ji14:=shr_small hji14
         have c15b0:=eq_true (of_decide_eq_true (by first | (with_reducible assumption) | assumption) : 0≤(ji12))
         obtain ⟨ji16,hji16⟩ : ∃ j_ : Int,(shr .i64 a1 (ji12)) = j_:=⟨_,rfl⟩
         replace H : (some ((ji14) == (ji16))) = some r:=by first | (rw [hji16] at H;exact H) | (simp only [hji16] at H ⊢;exact H)
         (try rw [hji16] at A9)
         (try rw [hji16] at A10)
         have hji16_ : (a1 / 2 ^ min (ji12).toNat 64) = ji16:=hji16
         have hji16z : (ji12)≤64→(a1 / 2 ^ (ji12).toNat) = ji16:=shr_small hji16
         obtain rfl:=Option.some.inj H
         go_wp2_with (first | (go_at_call 76;(with_reducible refine (heap_Level.calls (hrG:=?sideG) a1 t109 _ A9.out).mono ?_);(case sideG=>(first | (with_reducible exact HRG.out) | exact TabG.below HRG.out (by repeat (first | (with_reducible first | exact HB.out | apply bwA | apply bwN | apply bw1) | (with_reducible exact Below.refl _ _)))));rintro e w' ⟨rfl,⟨nd,rfl⟩⟩;(try first | exact ⟨rfl,_,World.drewN_drewN _ _ _⟩ | exact ⟨rfl,_,Eq.trans (World.drewN_drewN _ _ _) (congrArg (World.drewN _) (Nat.add_assoc _ _ _))⟩)) | (go_at_call 76;(with_reducible refine (heap_Level.calls (hrG:=?sideG) a0 t110 _ A10.out).mono ?_);(case sideG=>(first | (with_reducible exact HRG.out) | exact TabG.below HRG.out (by repeat (first | (with_reducible first | exact HB.out | apply bwA | apply bwN | apply bw1) | (with_reducible exact Below.refl _ _)))));rintro e w' ⟨rfl,⟨nd,rfl⟩⟩;(try first | exact ⟨rfl,_,World.drewN_drewN _ _ _⟩ | exact ⟨rfl,_,Eq.trans (World.drewN_drewN _ _ _) (congrArg (World.drewN _) (Nat.add_assoc _ _ _))⟩)))
         repeat (go_quiet (first | (go_at_call 76;(with_reducible refine (heap_Level.calls (hrG:=?sideG) a1 t109 _ A9.out).mono ?_);(case sideG=>(first | (with_reducible exact HRG.out) | exact TabG.below HRG.out (by repeat (first | (with_reducible first | exact HB.out | apply bwA | apply bwN | apply bw1) | (with_reducible exact Below.refl _ _)))));rintro e w' ⟨rfl,⟨nd,rfl⟩⟩;(try first | exact ⟨rfl,_,World.drewN_drewN _ _ _⟩ | exact ⟨rfl,_,Eq.trans (World.drewN_drewN _ _ _) (congrArg (World.drewN _) (Nat.add_assoc _ _ _))⟩)) | (go_at_call 76;(with_reducible refine (heap_Level.calls (hrG:=?sideG) a0 t110 _ A10.out).mono ?_);(case sideG=>(first | (with_reducible exact HRG.out) | exact TabG.below HRG.out (by repeat (first | (with_reducible first | exact HB.out | apply bwA | apply bwN | apply bw1) | (with_reducible exact Below.refl _ _)))));rintro e w' ⟨rfl,⟨nd,rfl⟩⟩;(try first | exact ⟨rfl,_,World.drewN_drewN _ _ _⟩ | exact ⟨rfl,_,Eq.trans (World.drewN_drewN _ _ _) (congrArg (World.drewN _) (Nat.add_assoc _ _ _))⟩)));try go_wp2_with (first | (go_at_call 76;(with_reducible refine (heap_Level.calls (hrG:=?sideG) a1 t109 _ A9.out).mono ?_);(case sideG=>(first | (with_reducible exact HRG.out) | exact TabG.below HRG.out (by repeat (first | (with_reducible first | exact HB.out | apply bwA | apply bwN | apply bw1) | (with_reducible exact Below.refl _ _)))));rintro e w' ⟨rfl,⟨nd,rfl⟩⟩;(try first | exact ⟨rfl,_,World.drewN_drewN _ _ _⟩ | exact ⟨rfl,_,Eq.trans (World.drewN_drewN _ _ _) (congrArg (World.drewN _) (Nat.add_assoc _ _ _))⟩)) | (go_at_call 76;(with_reducible refine (heap_Level.calls (hrG:=?sideG) a0 t110 _ A10.out).mono ?_);(case sideG=>(first | (with_reducible exact HRG.out) | exact TabG.below HRG.out (by repeat (first | (with_reducible first | exact HB.out | apply bwA | apply bwN | apply bw1) | (with_reducible exact Below.refl _ _)))));rintro e w' ⟨rfl,⟨nd,rfl⟩⟩;(try first | exact ⟨rfl,_,World.drewN_drewN _ _ _⟩ | exact ⟨rfl,_,Eq.trans (World.drewN_drewN _ _ _) (congrArg (World.drewN _) (Nat.add_assoc _ _ _))⟩))))
         go_ret
         exact ⟨by first | rfl | (simp;done) | (simp only [← hji12,← hji14,← hji16] <;> (first | rfl | simp)) | (simp [*];done),by repeat (first | exact Drawn0.refl _ | apply Drawn0.step)⟩
       · rw [if_neg c13] at H
         exact absurd H (by simp)
     · rw [if_neg c11] at H
       have c11b0 : decide (t110≤t109) = false:=decide_eq_false c11
       clear c11
       obtain rfl:=Option.some.inj H
       go_wp2_with (first | (go_at_call 76;(with_reducible refine (heap_Level.calls (hrG:=?sideG) a1 t109 _ A9.out).mono ?_);(case sideG=>(first | (with_reducible exact HRG.out) | exact TabG.below HRG.out (by repeat (first | (with_reducible first | exact HB.out | apply bwA | apply bwN | apply bw1) | (with_reducible exact Below.refl _ _)))));rintro e w' ⟨rfl,⟨nd,rfl⟩⟩;(try first | exact ⟨rfl,_,World.drewN_drewN _ _ _⟩ | exact ⟨rfl,_,Eq.trans (World.drewN_drewN _ _ _) (congrArg (World.drewN _) (Nat.add_assoc _ _ _))⟩)) | (go_at_call 76;(with_reducible refine (heap_Level.calls (hrG:=?sideG) a0 t110 _ A10.out).mono ?_);(case sideG=>(first | (with_reducible exact HRG.out) | exact TabG.below HRG.out (by repeat (first | (with_reducible first | exact HB.out | apply bwA | apply bwN | apply bw1) | (with_reducible exact Below.refl _ _)))));rintro e w' ⟨rfl,⟨nd,rfl⟩⟩;(try first | exact ⟨rfl,_,World.drewN_drewN _ _ _⟩ | exact ⟨rfl,_,Eq.trans (World.drewN_drewN _ _ _) (congrArg (World.drewN _) (Nat.add_assoc _ _ _))⟩)))
       repeat (go_quiet (first | (go_at_call 76;(with_reducible refine (heap_Level.calls (hrG:=?sideG) a1 t109 _ A9.out).mono ?_);(case sideG=>(first | (with_reducible exact HRG.out) | exact TabG.below HRG.out (by repeat (first | (with_reducible first | exact HB.out | apply bwA | apply bwN | apply bw1) | (with_reducible exact Below.refl _ _)))));rintro e w' ⟨rfl,⟨nd,rfl⟩⟩;(try first | exact ⟨rfl,_,World.drewN_drewN _ _ _⟩ | exact ⟨rfl,_,Eq.trans (World.drewN_drewN _ _ _) (congrArg (World.drewN _) (Nat.add_assoc _ _ _))⟩)) | (go_at_call 76;(with_reducible refine (heap_Level.calls (hrG:=?sideG) a0 t110 _ A10.out).mono ?_);(case sideG=>(first | (with_reducible exact HRG.out) | exact TabG.below HRG.out (by repeat (first | (with_reducible first | exact HB.out | apply bwA | apply bwN | apply bw1) | (with_reducible exact Below.refl _ _)))));rintro e w' ⟨rfl,⟨nd,rfl⟩⟩;(try first | exact ⟨rfl,_,World.drewN_drewN _ _ _⟩ | exact ⟨rfl,_,Eq.trans (World.drewN_drewN _ _ _) (congrArg (World.drewN _) (Nat.add_assoc _ _ _))⟩)));try go_wp2_with (first | (go_at_call 76;(with_reducible refine (heap_Level.calls (hrG:=?sideG) a1 t109 _ A9.out).mono ?_);(case sideG=>(first | (with_reducible exact HRG.out) | exact TabG.below HRG.out (by repeat (first | (with_reducible first | exact HB.out | apply bwA | apply bwN | apply bw1) | (with_reducible exact Below.refl _ _)))));rintro e w' ⟨rfl,⟨nd,rfl⟩⟩;(try first | exact ⟨rfl,_,World.drewN_drewN _ _ _⟩ | exact ⟨rfl,_,Eq.trans (World.drewN_drewN _ _ _) (congrArg (World.drewN _) (Nat.add_assoc _ _ _))⟩)) | (go_at_call 76;(with_reducible refine (heap_Level.calls (hrG:=?sideG) a0 t110 _ A10.out).mono ?_);(case sideG=>(first | (with_reducible exact HRG.out) | exact TabG.below HRG.out (by repeat (first | (with_reducible first | exact HB.out | apply bwA | apply bwN | apply bw1) | (with_reducible exact Below.refl _ _)))));rintro e w' ⟨rfl,⟨nd,rfl⟩⟩;(try first | exact ⟨rfl,_,World.drewN_drewN _ _ _⟩ | exact ⟨rfl,_,Eq.trans (World.drewN_drewN _ _ _) (congrArg (World.drewN _) (Nat.add_assoc _ _ _))⟩))))
       go_ret
       exact ⟨by first | rfl | (simp;done) | (simp [*];done),by repeat (first | exact Drawn0.refl _ | apply Drawn0.step)⟩
def tree_vertex.l0 : Nat→List (S29)→Int→List Int→Int→Int→Bool→Int→Int→Int→Int→List Int→Option (Bool)
 | 0,_,_,_,_,_,_,_,_,_,_,_=>none
 | k + 1,x0,x1,x36,x37,x38,x113000,x113001,x113002,x113003,x113004,x113005=>if x38 < x37 then (if 0≤x38 then (if x38 < (x36.length : Int) then ((tree_full.f x0 (rd x36 x38)).bind fun t115=>(if t115 = true then ((tree_Leaves.f x0).bind fun t116=>((heap_Under.f k (wrap64 (2 * (rd x36 x38))) x1 t116).bind fun t117=>(if t117 = true then (if x38 > 0 then (if 0≤(wrap64 (x38 - 1)) then (if (wrap64 (x38 - 1)) < (x113005.length : Int) then (if (rd x113005 (wrap64 (x38 - 1)))≥(rd x36 x38) then (some false) else (tree_vertex.l0 k x0 x1 x36 x37 (wrap64 (x38 + 1)) x113000 x113001 x113002 x113003 x113004 x113005)) else (none)) else (none)) else (tree_vertex.l0 k x0 x1 x36 x37 (wrap64 (x38 + 1)) x113000 x113001 x113002 x113003 x113004 x113005)) else (some false)))) else (some false))) else (none)) else (none)) else (some true)
def tree_vertex.f (k : Nat) (l0 : List (S29)) (a1 : Int) : Option (Bool):=if 0≤a1 then (if a1 < (l0.length : Int) then (if ((rd_T29 l0 a1).f0 = true) then (if (Int.tmod a1 2) = 0 then (some ((((rd_T29 l0 a1).f5).length : Int) == 0)) else (if ((rd_T29 l0 a1).f2) = 0 then (if ((rd_T29 l0 a1).f3) = 0 then (tree_vertex.l0 k l0 a1 ((rd_T29 l0 a1).f5) (((rd_T29 l0 a1).f5).length : Int) 0 ((rd_T29 l0 a1).f0) ((rd_T29 l0 a1).f1) ((rd_T29 l0 a1).f2) ((rd_T29 l0 a1).f3) ((rd_T29 l0 a1).f4) ((rd_T29 l0 a1).f5)) else (some false)) else (some false))) else ((tree_blank.f ((rd_T29 l0 a1).f0) ((rd_T29 l0 a1).f1) ((rd_T29 l0 a1).f2) ((rd_T29 l0 a1).f3) ((rd_T29 l0 a1).f4) ((rd_T29 l0 a1).f5)).bind fun t113=>(some t113))) else (none)) else (none)
theorem tree_vertex.mono_l : ∀ k,(∀ y0 y1 y2 y3 y4 y5 y6 y7 y8 y9 y10,LeO (tree_vertex.l0 k y0 y1 y2 y3 y4 y5 y6 y7 y8 y9 y10) (tree_vertex.l0 (k + 1) y0 y1 y2 y3 y4 y5 y6 y7 y8 y9 y10))
 | 0=>fun _ _ _ _ _ _ _ _ _ _ _ r h=>by simp [tree_vertex.l0] at h
 | k + 1=>by
  have ih0:=tree_vertex.mono_l k
  · intro y0 y1 y2 y3 y4 y5 y6 y7 y8 y9 y10
    unfold tree_vertex.l0
    repeat' first
    | (with_reducible exact ih0 _ _ _ _ _ _ _ _ _ _ _)
    | (with_reducible exact heap_Under.mono _ _ _ _)
    | (with_reducible exact LeO.refl _)
    | (with_reducible exact LeO.none _)
    | (with_reducible refine LeO.ite ?_ ?_)
    | (with_reducible refine LeO.bind ?_ (fun _=>?_))
    | exact ih0 _ _ _ _ _ _ _ _ _ _ _
    | exact heap_Under.mono _ _ _ _
    | exact LeO.none _
    | refine LeO.ite ?_ ?_
    | refine LeO.bind ?_ (fun _=>?_)
theorem tree_vertex.mono : ∀ a0 a1 k,LeO (tree_vertex.f k a0 a1) (tree_vertex.f (k + 1) a0 a1):=by
 intro a0 a1 k
 have ih0:=tree_vertex.mono_l k
 unfold tree_vertex.f
 repeat' first
  | (with_reducible exact ih0 _ _ _ _ _ _ _ _ _ _ _)
  | (with_reducible exact heap_Under.mono _ _ _ _)
  | (with_reducible exact LeO.refl _)
  | (with_reducible exact LeO.none _)
  | (with_reducible refine LeO.ite ?_ ?_)
  | (with_reducible refine LeO.bind ?_ (fun _=>?_))
  | exact ih0 _ _ _ _ _ _ _ _ _ _ _
  | exact heap_Under.mono _ _ _ _
  | exact LeO.none _
  | refine LeO.ite ?_ ?_
  | refine LeO.bind ?_ (fun _=>?_)
set_option maxHeartbeats 8000000 in
set_option maxRecDepth 100000 in
theorem tree_vertex.calls (k : Nat) (A0 : Option Addr) (c0 : Nat) (l0 : List (S29)) (a1 : Int) (r : Bool) (w : World) (hrG : TabG w) (hr0 : Kd.C k29 w A0 l0.length l0) (hc0 : l0.length≤c0) (h : tree_vertex.f k l0 a1 = some r) :
 Calls Tryd.prog 43 #[.slice A0 l0.length c0,.int .i64 a1] w fun e w'=>e = .returned (.bool r)∧Below w.heap.size w w':=by
 have HRG:=Az.mk hrG
 clear hrG
 have hu29:=Tryd.underlying29
 have HR0:=Az.mk hr0
 have HC0:=Az.mk hc0
 clear hr0 hc0
 have HB:=Az.mk (Below.refl w.heap.size w)
 have H : (if 0≤a1 then (if a1 < (l0.length : Int) then (if ((rd_T29 l0 a1).f0 = true) then (if (Int.tmod a1 2) = 0 then (some ((((rd_T29 l0 a1).f5).length : Int) == 0)) else (if ((rd_T29 l0 a1).f2) = 0 then (if ((rd_T29 l0 a1).f3) = 0 then (tree_vertex.l0 k l0 a1 ((rd_T29 l0 a1).f5) (((rd_T29 l0 a1).f5).length : Int) 0 ((rd_T29 l0 a1).f0) ((rd_T29 l0 a1).f1) ((rd_T29 l0 a1).f2) ((rd_T29 l0 a1).f3) ((rd_T29 l0 a1).f4) ((rd_T29 l0 a1).f5)) else (some false)) else (some false))) else ((tree_blank.f ((rd_T29 l0 a1).f0) ((rd_T29 l0 a1).f1) ((rd_T29 l0 a1).f2) ((rd_T29 l0 a1).f3) ((rd_T29 l0 a1).f4) ((rd_T29 l0 a1).f5)).bind fun t113=>(some t113))) else (none)) else (none)) = some r:=h
 clear h
 by_cases c3 : 0≤a1
 · rw [if_pos c3] at H
   have c3b0 : decide (0≤a1) = true:=decide_eq_true c3
   clear c3
   by_cases c4 : a1 < (l0.length : Int)
   · rw [if_pos c4] at H
     have c4b0 : decide (a1 < (l0.length : Int)) = true:=decide_eq_true c4
     clear c4
     obtain ⟨bq5,hbq5⟩ : ∃ b_ : Bool,b_ = ((rd_T29 l0 a1).f0):=⟨_,rfl⟩
     replace H : (if (bq5 = true) then (if (Int.tmod a1 2) = 0 then (some ((((rd_T29 l0 a1).f5).length : Int) == 0)) else (if ((rd_T29 l0 a1).f2) = 0 then (if ((rd_T29 l0 a1).f3) = 0 then (tree_vertex.l0 k l0 a1 ((rd_T29 l0 a1).f5) (((rd_T29 l0 a1).f5).length : Int) 0 bq5 ((rd_T29 l0 a1).f1) ((rd_T29 l0 a1).f2) ((rd_T29 l0 a1).f3) ((rd_T29 l0 a1).f4) ((rd_T29 l0 a1).f5)) else (some false)) else (some false))) else ((tree_blank.f (bq5) ((rd_T29 l0 a1).f1) ((rd_T29 l0 a1).f2) ((rd_T29 l0 a1).f3) ((rd_T29 l0 a1).f4) ((rd_T29 l0 a1).f5)).bind fun t113=>(some t113))) = some r:=by rw [← hbq5] at H;exact H
     have Nbq5:=Az.mk hbq5
     clear hbq5
     by_cases c6 : (bq5 = true)
     · subst c6
       have H1 : (if (Int.tmod a1 2) = 0 then (some ((((rd_T29 l0 a1).f5).length : Int) == 0)) else (if ((rd_T29 l0 a1).f2) = 0 then (if ((rd_T29 l0 a1).f3) = 0 then (tree_vertex.l0 k l0 a1 ((rd_T29 l0 a1).f5) (((rd_T29 l0 a1).f5).length : Int) 0 true ((rd_T29 l0 a1).f1) ((rd_T29 l0 a1).f2) ((rd_T29 l0 a1).f3) ((rd_T29 l0 a1).f4) ((rd_T29 l0 a1).f5)) else (some false)) else (some false))) = some r:=by rw [if_pos rfl] at H;exact H
       clear H
       have H:=H1
       clear H1
       by_cases c7 : (Int.tmod a1 2) = 0
       · rw [if_pos c7] at H
         have c7b0 : ((Int.tmod a1 2) == 0) = true:=beq_iff_eq.mpr c7
         have c7b1 : ((Int.tmod a1 2) != 0) = false:=bne_eq_false_iff_eq.mpr c7
         clear c7
         obtain rfl:=Option.some.inj H
         have p111 : 0≤(a1 : Int):=of_decide_eq_true (by first | (with_reducible assumption) | assumption)
         have q111 : a1 < (l0.length : Int):=of_decide_eq_true (by first | (with_reducible assumption) | assumption)
         obtain ⟨ad111,A111_5,c111_5,e111,hx111_0,hx111_1,hx111_2,hx111_3,hx111_4,hx111_5,hl111_5,hi111_5⟩:=at_T29 HR0.out a1 p111 q111
         (try rw [← Nbq5.out] at hx111_0)
         cases e111
         have HR111_5:=Az.mk hi111_5
         have HC111_5:=Az.mk hl111_5
         clear hi111_5 hl111_5
         replace p111:=eq_true p111
         replace q111:=eq_true q111
         go_enter Tryd.func43,Tryd.ntmps43
         go_wp2_with (first | ((with_reducible refine gate_dst (N:=5) rfl ?_);refine box_event ?hg (N:=5) ?hd (cs:=#[.bool false,.int .i64 0,.int .i64 0,.int .i64 0,.int .i64 0,.slice none 0 0]) (t:=29) ?hr ?_;(case hd=>rfl);(case hg=>rfl);(case hr=>first | (go_simp;done) | (go_simp;rfl));intro gb112 hg w8 hbox hb;have n0_:=Az.mk (bwT (bmv HB.out) hb);have n1_:=Az.mk (hbox);have n2_:=Az.mk ((by rw [hg];exact (bwZ (bmv HB.out)) : w.heap.size≤gb112));have n3_:=Az.mk ((by rw [hg];exact (bwZ (bmv HB.out)) : w.heap.size≤gb112));clear HB;have HB:=n0_;have BK112:=n1_;have GW112:=n2_;have GE112:=n3_;clear n0_ n1_ n2_ n3_;clear hb hbox hg;obtain ⟨⟨hcz9_0,hcz9_1,hcz9_2,hcz9_3,hcz9_4,hcz9_5⟩,hfz9_0,hfz9_1,hfz9_2,hfz9_3,hfz9_4,hfz9_5⟩:=cells6 BK112.out))
         go_ret
         exact ⟨by first | rfl | (simp [errW_none,errW_some] <;> rfl) | (simp [*,errW_none,errW_some] <;> rfl),by repeat (with_reducible first | exact bmv HB.out | refine bwS ?_ GE112.out)⟩
       · rw [if_neg c7] at H
         have c7b0 : ((Int.tmod a1 2) == 0) = false:=beq_eq_false_iff_ne.mpr c7
         have c7b1 : ((Int.tmod a1 2) != 0) = true:=bne_iff_ne.mpr c7
         by_cases c10 : ((rd_T29 l0 a1).f2) = 0
         · rw [if_pos c10] at H
           have c10b0 : (((rd_T29 l0 a1).f2) == 0) = true:=beq_iff_eq.mpr c10
           have c10b1 : (((rd_T29 l0 a1).f2) != 0) = false:=bne_eq_false_iff_eq.mpr c10
           clear c10
           by_cases c11 : ((rd_T29 l0 a1).f3) = 0
           · rw [if_pos c11] at H
             have c11b0 : (((rd_T29 l0 a1).f3) == 0) = true:=beq_iff_eq.mpr c11
             have c11b1 : (((rd_T29 l0 a1).f3) != 0) = false:=bne_eq_false_iff_eq.mpr c11
             clear c11
             have H':=Az.mk H
             clear H
             have p111 : 0≤(a1 : Int):=of_decide_eq_true (by first | (with_reducible assumption) | assumption)
             have q111 : a1 < (l0.length : Int):=of_decide_eq_true (by first | (with_reducible assumption) | assumption)
             obtain ⟨ad111,A111_5,c111_5,e111,hx111_0,hx111_1,hx111_2,hx111_3,hx111_4,hx111_5,hl111_5,hi111_5⟩:=at_T29 HR0.out a1 p111 q111
             (try rw [← Nbq5.out] at hx111_0)
             cases e111
             have HR111_5:=Az.mk hi111_5
             have HC111_5:=Az.mk hl111_5
             clear hi111_5 hl111_5
             replace p111:=eq_true p111
             replace q111:=eq_true q111
             go_enter Tryd.func43,Tryd.ntmps43
             go_wp2_with (first | ((with_reducible refine gate_dst (N:=5) rfl ?_);refine box_event ?hg (N:=5) ?hd (cs:=#[.bool false,.int .i64 0,.int .i64 0,.int .i64 0,.int .i64 0,.slice none 0 0]) (t:=29) ?hr ?_;(case hd=>rfl);(case hg=>rfl);(case hr=>first | (go_simp;done) | (go_simp;rfl));intro gb112 hg w12 hbox hb;have n0_:=Az.mk (bwT (bmv HB.out) hb);have n1_:=Az.mk (hbox);have n2_:=Az.mk ((by rw [hg];exact (bwZ (bmv HB.out)) : w.heap.size≤gb112));have n3_:=Az.mk ((by rw [hg];exact (bwZ (bmv HB.out)) : w.heap.size≤gb112));clear HB;have HB:=n0_;have BK112:=n1_;have GW112:=n2_;have GE112:=n3_;clear n0_ n1_ n2_ n3_;clear hb hbox hg;obtain ⟨⟨hcz13_0,hcz13_1,hcz13_2,hcz13_3,hcz13_4,hcz13_5⟩,hfz13_0,hfz13_1,hfz13_2,hfz13_3,hfz13_4,hfz13_5⟩:=cells6 BK112.out))
             go_loopg [38] k (fun kq v38 w'=>∃ (x38_1 : Int),v38 = .int .i64 x38_1∧Az (tree_vertex.l0 kq l0 a1 ((rd_T29 l0 a1).f5) (((rd_T29 l0 a1).f5).length : Int) x38_1 true ((rd_T29 l0 a1).f1) ((rd_T29 l0 a1).f2) ((rd_T29 l0 a1).f3) ((rd_T29 l0 a1).f4) ((rd_T29 l0 a1).f5) = some r)∧Az (kq≤k)∧Az (w'.heap[gb112]? = some (.cells #[.bool true,.int .i64 ((rd_T29 l0 a1).f1),.int .i64 ((rd_T29 l0 a1).f2),.int .i64 ((rd_T29 l0 a1).f3),.int .i64 ((rd_T29 l0 a1).f4),(.slice A111_5 ((rd_T29 l0 a1).f5).length c111_5)] 29 (0,0)))∧Az (Below w.heap.size w w'))
             case atStart=>exact ⟨(0),(by first | rfl | (simp;done) | (simp [*];done)),H',⟨Nat.le_refl _⟩,⟨by (with_reducible repeat (first | refine kN ?_ _ | refine kD ?_ | refine kA ?_ _));refine blk_put (cs:=#[.bool true,.int .i64 ((rd_T29 l0 a1).f1),.int .i64 ((rd_T29 l0 a1).f2),.int .i64 ((rd_T29 l0 a1).f3),.int .i64 ((rd_T29 l0 a1).f4),.slice none 0 0]) ?_ 5 _ rfl;(with_reducible repeat (first | refine kN ?_ _ | refine kD ?_ | refine kA ?_ _));refine blk_put (cs:=#[.bool true,.int .i64 ((rd_T29 l0 a1).f1),.int .i64 ((rd_T29 l0 a1).f2),.int .i64 ((rd_T29 l0 a1).f3),.int .i64 0,.slice none 0 0]) ?_ 4 _ rfl;(with_reducible repeat (first | refine kN ?_ _ | refine kD ?_ | refine kA ?_ _));refine blk_put (cs:=#[.bool true,.int .i64 ((rd_T29 l0 a1).f1),.int .i64 ((rd_T29 l0 a1).f2),.int .i64 0,.int .i64 0,.slice none 0 0]) ?_ 3 _ rfl;(with_reducible repeat (first | refine kN ?_ _ | refine kD ?_ | refine kA ?_ _));refine blk_put (cs:=#[.bool true,.int .i64 ((rd_T29 l0 a1).f1),.int .i64 0,.int .i64 0,.int .i64 0,.slice none 0 0]) ?_ 2 _ rfl;(with_reducible repeat (first | refine kN ?_ _ | refine kD ?_ | refine kA ?_ _));refine blk_put (cs:=#[.bool true,.int .i64 0,.int .i64 0,.int .i64 0,.int .i64 0,.slice none 0 0]) ?_ 1 _ rfl;(with_reducible repeat (first | refine kN ?_ _ | refine kD ?_ | refine kA ?_ _));refine blk_put (cs:=#[.bool false,.int .i64 0,.int .i64 0,.int .i64 0,.int .i64 0,.slice none 0 0]) ?_ 0 _ rfl;(with_reducible repeat (first | refine kN ?_ _ | refine kD ?_ | refine kA ?_ _));exact BK112.out⟩,⟨by repeat (with_reducible first | exact bmv HB.out | refine bwS ?_ GE112.out)⟩⟩
             case round=>
              clear H'
              try clear c3
              try clear c3b0
              try clear c4
              try clear c4b0
              try clear c6
              try clear c7
              try clear c7b0
              try clear c7b1
              try clear c10
              try clear c10b0
              try clear c10b1
              try clear c11
              try clear c11b0
              try clear c11b1
              try clear hcz13_0
              try clear hcz13_1
              try clear hcz13_2
              try clear hcz13_3
              try clear hcz13_4
              try clear hcz13_5
              try clear hcz9_0
              try clear hcz9_1
              try clear hcz9_2
              try clear hcz9_3
              try clear hcz9_4
              try clear hcz9_5
              try clear hfz13_0
              try clear hfz13_1
              try clear hfz13_2
              try clear hfz13_3
              try clear hfz13_4
              try clear hfz13_5
              try clear hfz9_0
              try clear hfz9_1
              try clear hfz9_2
              try clear hfz9_3
              try clear hfz9_4
              try clear hfz9_5
              try clear hx111_0
              try clear hx111_1
              try clear hx111_2
              try clear hx111_3
              try clear hx111_4
              try clear hx111_5
              try clear p111
              try clear q111
              obtain ⟨x38_1,rfl,HA,HK1,BK112,HB⟩:=hrel
              cases gk with
              | zero=>exact absurd HA.out (by simp [tree_vertex.l0])
              | succ k1=>
               have H:=HA.out
               clear HA
               simp only [tree_vertex.l0] at H
               by_cases c14 : x38_1 < (((rd_T29 l0 a1).f5).length : Int)
               · rw [if_pos c14] at H
                 have c14b0 : decide (x38_1 < (((rd_T29 l0 a1).f5).length : Int)) = true:=decide_eq_true c14
                 clear c14
                 by_cases c15 : 0≤x38_1
                 · rw [if_pos c15] at H
                   have c15b0 : decide (0≤x38_1) = true:=decide_eq_true c15
                   clear c15
                   by_cases c16 : x38_1 < (((rd_T29 l0 a1).f5).length : Int)
                   · rw [if_pos c16] at H
                     have c16b0 : decide (x38_1 < (((rd_T29 l0 a1).f5).length : Int)) = true:=decide_eq_true c16
                     clear c16
                     replace H:=Option.bind_eq_some_iff.mp H
                     obtain ⟨t115,A170,H⟩:=H
                     replace H : (if t115 = true then ((tree_Leaves.f l0).bind fun t116=>((heap_Under.f k1 (wrap64 (2 * (rd ((rd_T29 l0 a1).f5) x38_1))) a1 t116).bind fun t117=>(if t117 = true then (if x38_1 > 0 then (if 0≤(wrap64 (x38_1 - 1)) then (if (wrap64 (x38_1 - 1)) < (((rd_T29 l0 a1).f5).length : Int) then (if (rd ((rd_T29 l0 a1).f5) (wrap64 (x38_1 - 1)))≥(rd ((rd_T29 l0 a1).f5) x38_1) then (some false) else (tree_vertex.l0 k1 l0 a1 ((rd_T29 l0 a1).f5) (((rd_T29 l0 a1).f5).length : Int) (wrap64 (x38_1 + 1)) true ((rd_T29 l0 a1).f1) ((rd_T29 l0 a1).f2) ((rd_T29 l0 a1).f3) ((rd_T29 l0 a1).f4) ((rd_T29 l0 a1).f5))) else (none)) else (none)) else (tree_vertex.l0 k1 l0 a1 ((rd_T29 l0 a1).f5) (((rd_T29 l0 a1).f5).length : Int) (wrap64 (x38_1 + 1)) true ((rd_T29 l0 a1).f1) ((rd_T29 l0 a1).f2) ((rd_T29 l0 a1).f3) ((rd_T29 l0 a1).f4) ((rd_T29 l0 a1).f5))) else (some false)))) else (some false)) = some r:=H
                     have A17:=Az.mk A170
                     clear A170
                     by_cases c18 : t115 = true
                     · subst c18
                       have H1 : ((tree_Leaves.f l0).bind fun t116=>((heap_Under.f k1 (wrap64 (2 * (rd ((rd_T29 l0 a1).f5) x38_1))) a1 t116).bind fun t117=>(if t117 = true then (if x38_1 > 0 then (if 0≤(wrap64 (x38_1 - 1)) then (if (wrap64 (x38_1 - 1)) < (((rd_T29 l0 a1).f5).length : Int) then (if (rd ((rd_T29 l0 a1).f5) (wrap64 (x38_1 - 1)))≥(rd ((rd_T29 l0 a1).f5) x38_1) then (some false) else (tree_vertex.l0 k1 l0 a1 ((rd_T29 l0 a1).f5) (((rd_T29 l0 a1).f5).length : Int) (wrap64 (x38_1 + 1)) true ((rd_T29 l0 a1).f1) ((rd_T29 l0 a1).f2) ((rd_T29 l0 a1).f3) ((rd_T29 l0 a1).f4) ((rd_T29 l0 a1).f5))) else (none)) else (none)) else (tree_vertex.l0 k1 l0 a1 ((rd_T29 l0 a1).f5) (((rd_T29 l0 a1).f5).length : Int) (wrap64 (x38_1 + 1)) true ((rd_T29 l0 a1).f1) ((rd_T29 l0 a1).f2) ((rd_T29 l0 a1).f3) ((rd_T29 l0 a1).f4) ((rd_T29 l0 a1).f5))) else (some false)))) = some r:=by rw [if_pos rfl] at H;exact H
                       clear H
                       have H:=H1
                       clear H1
                       replace H:=Option.bind_eq_some_iff.mp H
                       obtain ⟨t116,A190,H⟩:=H
                       replace H : ((heap_Under.f k1 (wrap64 (2 * (rd ((rd_T29 l0 a1).f5) x38_1))) a1 t116).bind fun t117=>(if t117 = true then (if x38_1 > 0 then (if 0≤(wrap64 (x38_1 - 1)) then (if (wrap64 (x38_1 - 1)) < (((rd_T29 l0 a1).f5).length : Int) then (if (rd ((rd_T29 l0 a1).f5) (wrap64 (x38_1 - 1)))≥(rd ((rd_T29 l0 a1).f5) x38_1) then (some false) else (tree_vertex.l0 k1 l0 a1 ((rd_T29 l0 a1).f5) (((rd_T29 l0 a1).f5).length : Int) (wrap64 (x38_1 + 1)) true ((rd_T29 l0 a1).f1) ((rd_T29 l0 a1).f2) ((rd_T29 l0 a1).f3) ((rd_T29 l0 a1).f4) ((rd_T29 l0 a1).f5))) else (none)) else (none)) else (tree_vertex.l0 k1 l0 a1 ((rd_T29 l0 a1).f5) (((rd_T29 l0 a1).f5).length : Int) (wrap64 (x38_1 + 1)) true ((rd_T29 l0 a1).f1) ((rd_T29 l0 a1).f2) ((rd_T29 l0 a1).f3) ((rd_T29 l0 a1).f4) ((rd_T29 l0 a1).f5))) else (some false))) = some r:=H
                       have A19:=Az.mk A190
                       clear A190
                       replace H:=Option.bind_eq_some_iff.mp H
                       obtain ⟨t117,A200,H⟩:=H
                       replace H : (if t117 = true then (if x38_1 > 0 then (if 0≤(wrap64 (x38_1 - 1)) then (if (wrap64 (x38_1 - 1)) < (((rd_T29 l0 a1).f5).length : Int) then (if (rd ((rd_T29 l0 a1).f5) (wrap64 (x38_1 - 1)))≥(rd ((rd_T29 l0 a1).f5) x38_1) then (some false) else (tree_vertex.l0 k1 l0 a1 ((rd_T29 l0 a1).f5) (((rd_T29 l0 a1).f5).length : Int) (wrap64 (x38_1 + 1)) true ((rd_T29 l0 a1).f1) ((rd_T29 l0 a1).f2) ((rd_T29 l0 a1).f3) ((rd_T29 l0 a1).f4) ((rd_T29 l0 a1).f5))) else (none)) else (none)) else (tree_vertex.l0 k1 l0 a1 ((rd_T29 l0 a1).f5) (((rd_T29 l0 a1).f5).length : Int) (wrap64 (x38_1 + 1)) true ((rd_T29 l0 a1).f1) ((rd_T29 l0 a1).f2) ((rd_T29 l0 a1).f3) ((rd_T29 l0 a1).f4) ((rd_T29 l0 a1).f5))) else (some false)) = some r:=H
                       have A20:=Az.mk A200
                       clear A200
                       by_cases c21 : t117 = true
                       · subst c21
                         have H1 : (if x38_1 > 0 then (if 0≤(wrap64 (x38_1 - 1)) then (if (wrap64 (x38_1 - 1)) < (((rd_T29 l0 a1).f5).length : Int) then (if (rd ((rd_T29 l0 a1).f5) (wrap64 (x38_1 - 1)))≥(rd ((rd_T29 l0 a1).f5) x38_1) then (some false) else (tree_vertex.l0 k1 l0 a1 ((rd_T29 l0 a1).f5) (((rd_T29 l0 a1).f5).length : Int) (wrap64 (x38_1 + 1)) true ((rd_T29 l0 a1).f1) ((rd_T29 l0 a1).f2) ((rd_T29 l0 a1).f3) ((rd_T29 l0 a1).f4) ((rd_T29 l0 a1).f5))) else (none)) else (none)) else (tree_vertex.l0 k1 l0 a1 ((rd_T29 l0 a1).f5) (((rd_T29 l0 a1).f5).length : Int) (wrap64 (x38_1 + 1)) true ((rd_T29 l0 a1).f1) ((rd_T29 l0 a1).f2) ((rd_T29 l0 a1).f3) ((rd_T29 l0 a1).f4) ((rd_T29 l0 a1).f5))) = some r:=by rw [if_pos rfl] at H;exact H
                         clear H
                         have H:=H1
                         clear H1
                         by_cases c22 : x38_1 > 0
                         · rw [if_pos c22] at H
                           have c22b0 : decide (0 < x38_1) = true:=decide_eq_true c22
                           clear c22
                           obtain ⟨ji23,hji23⟩ : ∃ j_ : Int,(wrap64 (x38_1 - 1)) = j_:=⟨_,rfl⟩
                           replace H : (if 0≤(ji23) then (if (ji23) < (((rd_T29 l0 a1).f5).length : Int) then (if (rd ((rd_T29 l0 a1).f5) (ji23))≥(rd ((rd_T29 l0 a1).f5) x38_1) then (some false) else (tree_vertex.l0 k1 l0 a1 ((rd_T29 l0 a1).f5) (((rd_T29 l0 a1).f5).length : Int) (wrap64 (x38_1 + 1)) true ((rd_T29 l0 a1).f1) ((rd_T29 l0 a1).f2) ((rd_T29 l0 a1).f3) ((rd_T29 l0 a1).f4) ((rd_T29 l0 a1).f5))) else (none)) else (none)) = some r:=by first | (rw [hji23] at H;exact H) | (simp only [hji23] at H ⊢;exact H)
                           (try rw [hji23] at A17)
                           (try rw [hji23] at A19)
                           (try rw [hji23] at A20)
                           have hji23w : (IntKind.i64.wrap (x38_1 - 1)) = ji23:=(i64_w _).trans hji23
                           by_cases c24 : 0≤(ji23)
                           · rw [if_pos c24] at H
                             have c24b0 : decide (0≤(ji23)) = true:=decide_eq_true c24
                             clear c24
                             by_cases c25 : (ji23) < (((rd_T29 l0 a1).f5).length : Int)
                             · rw [if_pos c25] at H
                               have c25b0 : decide ((ji23) < (((rd_T29 l0 a1).f5).length : Int)) = true:=decide_eq_true c25
                               clear c25
                               by_cases c26 : (rd ((rd_T29 l0 a1).f5) (ji23))≥(rd ((rd_T29 l0 a1).f5) x38_1)
                               · rw [if_pos c26] at H
                                 have c26b0 : decide ((rd ((rd_T29 l0 a1).f5) x38_1)≤(rd ((rd_T29 l0 a1).f5) (ji23))) = true:=decide_eq_true c26
                                 clear c26
                                 obtain rfl:=Option.some.inj H
                                 have p114 : 0≤(x38_1 : Int):=of_decide_eq_true (by first | (with_reducible assumption) | assumption)
                                 have q114 : x38_1 < (((rd_T29 l0 a1).f5).length : Int):=of_decide_eq_true (by first | (with_reducible assumption) | assumption)
                                 obtain ⟨ad114,e114,hx114_0⟩:=Kd.at_int HR111_5.out x38_1 p114 q114
                                 cases e114
                                 replace hx114_0:=(HB.out.cell (World.block_lt_of_cell? w _ hx114_0)).trans hx114_0
                                 replace p114:=eq_true p114
                                 replace q114:=eq_true q114
                                 go_wp2_with (first | ((with_reducible refine gate_callee (f:=60) rfl ?_);refine goesL_ (some 45) rfl rfl Tryd.func60 (by kernel_rfl) rfl #[.slice (some ad111) l0.length c0,.int .i64 (rd ((rd_T29 l0 a1).f5) x38_1)] rfl (by (try simp only [List.map_toArray,List.map_cons,List.map_nil]);first | done | rfl | (simp only [List.length_drop,List.length_take];rfl)) ?_;(with_reducible refine (tree_full.calls _ _ l0 (rd ((rd_T29 l0 a1).f5) x38_1) true _ ?side1 ?side2 A17.out).mono ?_);(case side1=>exact C_mv ((Kd.C_below HR0.out HB.out)));(case side2=>exact HC0.out);rintro e w' ⟨rfl,⟨nd,rfl⟩⟩;refine ⟨_,rfl,?_⟩) | (go_at_call 29;(with_reducible refine (tree_Leaves.calls _ _ l0 t116 _ ?side1 ?side2 A19.out).mono ?_);(case side1=>repeat (first | exact (Kd.C_below HR0.out (by repeat (with_reducible first | exact bmv HB.out | refine bwS ?_ GE112.out))) | (with_reducible refine Kd.C_alloc ?_ _) | (with_reducible refine Kd.C_drewN ?_ _) | (with_reducible refine Kd.C_drew ?_)));(case side2=>exact HC0.out);rintro e w' ⟨rfl,⟨nd,rfl⟩⟩) | (go_at_call 66;(with_reducible refine (heap_Under.calls (hrG:=?sideG) k1 (wrap64 (2 * (rd ((rd_T29 l0 a1).f5) x38_1))) a1 t116 true _ A20.out).mono ?_);(case sideG=>(first | (with_reducible exact HRG.out) | exact TabG.below HRG.out (by repeat (first | (with_reducible first | exact HB.out | apply bwA | apply bwN | apply bw1 | refine bwS ?_ GE112.out) | (with_reducible exact Below.refl _ _)))));rintro e w' ⟨rfl,⟨nd,rfl⟩⟩;obtain ⟨⟨hcz27_0,hcz27_1,hcz27_2,hcz27_3,hcz27_4,hcz27_5⟩,hfz27_0,hfz27_1,hfz27_2,hfz27_3,hfz27_4,hfz27_5⟩:=cells6 BK112.out;have p118 : 0≤((ji23) : Int):=of_decide_eq_true (by first | (with_reducible assumption) | assumption);have q118 : (ji23) < (((rd_T29 l0 a1).f5).length : Int):=of_decide_eq_true (by first | (with_reducible assumption) | assumption);obtain ⟨ad118,e118,hx118_0⟩:=Kd.at_int HR111_5.out (ji23) p118 q118;obtain rfl : ad114 = ad118:=(by injection e118);replace hx118_0:=(HB.out.cell (World.block_lt_of_cell? w _ hx118_0)).trans hx118_0;replace p118:=eq_true p118;replace q118:=eq_true q118))
                                 go_ret
                                 exact ⟨by first | rfl | (simp [errW_none,errW_some] <;> rfl) | (simp only [← hji23];first | rfl | (simp [errW_none,errW_some] <;> rfl)) | (simp [*,errW_none,errW_some] <;> rfl),by repeat (with_reducible first | exact bmv HB.out | refine bwS ?_ GE112.out)⟩
                               · rw [if_neg c26] at H
                                 have c26b0 : decide ((rd ((rd_T29 l0 a1).f5) x38_1)≤(rd ((rd_T29 l0 a1).f5) (ji23))) = false:=decide_eq_false c26
                                 clear c26
                                 have H':=Az.mk H
                                 clear H
                                 have p114 : 0≤(x38_1 : Int):=of_decide_eq_true (by first | (with_reducible assumption) | assumption)
                                 have q114 : x38_1 < (((rd_T29 l0 a1).f5).length : Int):=of_decide_eq_true (by first | (with_reducible assumption) | assumption)
                                 obtain ⟨ad114,e114,hx114_0⟩:=Kd.at_int HR111_5.out x38_1 p114 q114
                                 cases e114
                                 replace hx114_0:=(HB.out.cell (World.block_lt_of_cell? w _ hx114_0)).trans hx114_0
                                 replace p114:=eq_true p114
                                 replace q114:=eq_true q114
                                 go_wp2_with (first | ((with_reducible refine gate_callee (f:=60) rfl ?_);refine goesL_ (some 45) rfl rfl Tryd.func60 (by kernel_rfl) rfl #[.slice (some ad111) l0.length c0,.int .i64 (rd ((rd_T29 l0 a1).f5) x38_1)] rfl (by (try simp only [List.map_toArray,List.map_cons,List.map_nil]);first | done | rfl | (simp only [List.length_drop,List.length_take];rfl)) ?_;(with_reducible refine (tree_full.calls _ _ l0 (rd ((rd_T29 l0 a1).f5) x38_1) true _ ?side1 ?side2 A17.out).mono ?_);(case side1=>exact C_mv ((Kd.C_below HR0.out HB.out)));(case side2=>exact HC0.out);rintro e w' ⟨rfl,⟨nd,rfl⟩⟩;refine ⟨_,rfl,?_⟩) | (go_at_call 29;(with_reducible refine (tree_Leaves.calls _ _ l0 t116 _ ?side1 ?side2 A19.out).mono ?_);(case side1=>repeat (first | exact (Kd.C_below HR0.out (by repeat (with_reducible first | exact bmv HB.out | refine bwS ?_ GE112.out))) | (with_reducible refine Kd.C_alloc ?_ _) | (with_reducible refine Kd.C_drewN ?_ _) | (with_reducible refine Kd.C_drew ?_)));(case side2=>exact HC0.out);rintro e w' ⟨rfl,⟨nd,rfl⟩⟩) | (go_at_call 66;(with_reducible refine (heap_Under.calls (hrG:=?sideG) k1 (wrap64 (2 * (rd ((rd_T29 l0 a1).f5) x38_1))) a1 t116 true _ A20.out).mono ?_);(case sideG=>(first | (with_reducible exact HRG.out) | exact TabG.below HRG.out (by repeat (first | (with_reducible first | exact HB.out | apply bwA | apply bwN | apply bw1 | refine bwS ?_ GE112.out) | (with_reducible exact Below.refl _ _)))));rintro e w' ⟨rfl,⟨nd,rfl⟩⟩;obtain ⟨⟨hcz28_0,hcz28_1,hcz28_2,hcz28_3,hcz28_4,hcz28_5⟩,hfz28_0,hfz28_1,hfz28_2,hfz28_3,hfz28_4,hfz28_5⟩:=cells6 BK112.out;have p118 : 0≤((ji23) : Int):=of_decide_eq_true (by first | (with_reducible assumption) | assumption);have q118 : (ji23) < (((rd_T29 l0 a1).f5).length : Int):=of_decide_eq_true (by first | (with_reducible assumption) | assumption);obtain ⟨ad118,e118,hx118_0⟩:=Kd.at_int HR111_5.out (ji23) p118 q118;obtain rfl : ad114 = ad118:=(by injection e118);replace hx118_0:=(HB.out.cell (World.block_lt_of_cell? w _ hx118_0)).trans hx118_0;replace p118:=eq_true p118;replace q118:=eq_true q118))
                                 go_roundg k1
                                 case measure=>have:=HK1.out;omega
                                 case rel=>exact ⟨(wrap64 (x38_1 + 1)),(by first | rfl | (simp;done) | (simp [*];done)),H',⟨by have:=HK1.out;omega⟩,⟨blk_mv BK112.out⟩,⟨by repeat (with_reducible first | exact bmv HB.out | refine bwS ?_ GE112.out)⟩⟩
                             · rw [if_neg c25] at H
                               exact absurd H (by simp)
                           · rw [if_neg c24] at H
                             exact absurd H (by simp)
                         · rw [if_neg c22] at H
                           have c22b0 : decide (0 < x38_1) = false:=decide_eq_false c22
                           clear c22
                           have H':=Az.mk H
                           clear H
                           have p114 : 0≤(x38_1 : Int):=of_decide_eq_true (by first | (with_reducible assumption) | assumption)
                           have q114 : x38_1 < (((rd_T29 l0 a1).f5).length : Int):=of_decide_eq_true (by first | (with_reducible assumption) | assumption)
                           obtain ⟨ad114,e114,hx114_0⟩:=Kd.at_int HR111_5.out x38_1 p114 q114
                           cases e114
                           replace hx114_0:=(HB.out.cell (World.block_lt_of_cell? w _ hx114_0)).trans hx114_0
                           replace p114:=eq_true p114
                           replace q114:=eq_true q114
                           go_wp2_with (first | ((with_reducible refine gate_callee (f:=60) rfl ?_);refine goesL_ (some 45) rfl rfl Tryd.func60 (by kernel_rfl) rfl #[.slice (some ad111) l0.length c0,.int .i64 (rd ((rd_T29 l0 a1).f5) x38_1)] rfl (by (try simp only [List.map_toArray,List.map_cons,List.map_nil]);first | done | rfl | (simp only [List.length_drop,List.length_take];rfl)) ?_;(with_reducible refine (tree_full.calls _ _ l0 (rd ((rd_T29 l0 a1).f5) x38_1) true _ ?side1 ?side2 A17.out).mono ?_);(case side1=>exact C_mv ((Kd.C_below HR0.out HB.out)));(case side2=>exact HC0.out);rintro e w' ⟨rfl,⟨nd,rfl⟩⟩;refine ⟨_,rfl,?_⟩) | (go_at_call 29;(with_reducible refine (tree_Leaves.calls _ _ l0 t116 _ ?side1 ?side2 A19.out).mono ?_);(case side1=>repeat (first | exact (Kd.C_below HR0.out (by repeat (with_reducible first | exact bmv HB.out | refine bwS ?_ GE112.out))) | (with_reducible refine Kd.C_alloc ?_ _) | (with_reducible refine Kd.C_drewN ?_ _) | (with_reducible refine Kd.C_drew ?_)));(case side2=>exact HC0.out);rintro e w' ⟨rfl,⟨nd,rfl⟩⟩) | (go_at_call 66;(with_reducible refine (heap_Under.calls (hrG:=?sideG) k1 (wrap64 (2 * (rd ((rd_T29 l0 a1).f5) x38_1))) a1 t116 true _ A20.out).mono ?_);(case sideG=>(first | (with_reducible exact HRG.out) | exact TabG.below HRG.out (by repeat (first | (with_reducible first | exact HB.out | apply bwA | apply bwN | apply bw1 | refine bwS ?_ GE112.out) | (with_reducible exact Below.refl _ _)))));rintro e w' ⟨rfl,⟨nd,rfl⟩⟩))
                           go_roundg k1
                           case measure=>have:=HK1.out;omega
                           case rel=>exact ⟨(wrap64 (x38_1 + 1)),(by first | rfl | (simp;done) | (simp [*];done)),H',⟨by have:=HK1.out;omega⟩,⟨blk_mv BK112.out⟩,⟨by repeat (with_reducible first | exact bmv HB.out | refine bwS ?_ GE112.out)⟩⟩
                       · replace c21:=Bool.eq_false_iff.mpr c21
                         subst c21
                         have H1 : (some false) = some r:=by rw [if_neg (show ¬ (false = true) by decide)] at H;exact H
                         clear H
                         have H:=H1
                         clear H1
                         obtain rfl:=Option.some.inj H
                         have p114 : 0≤(x38_1 : Int):=of_decide_eq_true (by first | (with_reducible assumption) | assumption)
                         have q114 : x38_1 < (((rd_T29 l0 a1).f5).length : Int):=of_decide_eq_true (by first | (with_reducible assumption) | assumption)
                         obtain ⟨ad114,e114,hx114_0⟩:=Kd.at_int HR111_5.out x38_1 p114 q114
                         cases e114
                         replace hx114_0:=(HB.out.cell (World.block_lt_of_cell? w _ hx114_0)).trans hx114_0
                         replace p114:=eq_true p114
                         replace q114:=eq_true q114
                         go_wp2_with (first | ((with_reducible refine gate_callee (f:=60) rfl ?_);refine goesL_ (some 45) rfl rfl Tryd.func60 (by kernel_rfl) rfl #[.slice (some ad111) l0.length c0,.int .i64 (rd ((rd_T29 l0 a1).f5) x38_1)] rfl (by (try simp only [List.map_toArray,List.map_cons,List.map_nil]);first | done | rfl | (simp only [List.length_drop,List.length_take];rfl)) ?_;(with_reducible refine (tree_full.calls _ _ l0 (rd ((rd_T29 l0 a1).f5) x38_1) true _ ?side1 ?side2 A17.out).mono ?_);(case side1=>exact C_mv ((Kd.C_below HR0.out HB.out)));(case side2=>exact HC0.out);rintro e w' ⟨rfl,⟨nd,rfl⟩⟩;refine ⟨_,rfl,?_⟩) | (go_at_call 29;(with_reducible refine (tree_Leaves.calls _ _ l0 t116 _ ?side1 ?side2 A19.out).mono ?_);(case side1=>repeat (first | exact (Kd.C_below HR0.out (by repeat (with_reducible first | exact bmv HB.out | refine bwS ?_ GE112.out))) | (with_reducible refine Kd.C_alloc ?_ _) | (with_reducible refine Kd.C_drewN ?_ _) | (with_reducible refine Kd.C_drew ?_)));(case side2=>exact HC0.out);rintro e w' ⟨rfl,⟨nd,rfl⟩⟩) | (go_at_call 66;(with_reducible refine (heap_Under.calls (hrG:=?sideG) k1 (wrap64 (2 * (rd ((rd_T29 l0 a1).f5) x38_1))) a1 t116 false _ A20.out).mono ?_);(case sideG=>(first | (with_reducible exact HRG.out) | exact TabG.below HRG.out (by repeat (first | (with_reducible first | exact HB.out | apply bwA | apply bwN | apply bw1 | refine bwS ?_ GE112.out) | (with_reducible exact Below.refl _ _)))));rintro e w' ⟨rfl,⟨nd,rfl⟩⟩))
                         go_ret
                         exact ⟨by first | rfl | (simp [errW_none,errW_some] <;> rfl) | (simp [*,errW_none,errW_some] <;> rfl),by repeat (with_reducible first | exact bmv HB.out | refine bwS ?_ GE112.out)⟩
                     · replace c18:=Bool.eq_false_iff.mpr c18
                       subst c18
                       have H1 : (some false) = some r:=by rw [if_neg (show ¬ (false = true) by decide)] at H;exact H
                       clear H
                       have H:=H1
                       clear H1
                       obtain rfl:=Option.some.inj H
                       have p114 : 0≤(x38_1 : Int):=of_decide_eq_true (by first | (with_reducible assumption) | assumption)
                       have q114 : x38_1 < (((rd_T29 l0 a1).f5).length : Int):=of_decide_eq_true (by first | (with_reducible assumption) | assumption)
                       obtain ⟨ad114,e114,hx114_0⟩:=Kd.at_int HR111_5.out x38_1 p114 q114
                       cases e114
                       replace hx114_0:=(HB.out.cell (World.block_lt_of_cell? w _ hx114_0)).trans hx114_0
                       replace p114:=eq_true p114
                       replace q114:=eq_true q114
                       go_wp2_with (first | ((with_reducible refine gate_callee (f:=60) rfl ?_);refine goesL_ (some 45) rfl rfl Tryd.func60 (by kernel_rfl) rfl #[.slice (some ad111) l0.length c0,.int .i64 (rd ((rd_T29 l0 a1).f5) x38_1)] rfl (by (try simp only [List.map_toArray,List.map_cons,List.map_nil]);first | done | rfl | (simp only [List.length_drop,List.length_take];rfl)) ?_;(with_reducible refine (tree_full.calls _ _ l0 (rd ((rd_T29 l0 a1).f5) x38_1) false _ ?side1 ?side2 A17.out).mono ?_);(case side1=>exact C_mv ((Kd.C_below HR0.out HB.out)));(case side2=>exact HC0.out);rintro e w' ⟨rfl,⟨nd,rfl⟩⟩;refine ⟨_,rfl,?_⟩))
                       go_ret
                       exact ⟨by first | rfl | (simp [errW_none,errW_some] <;> rfl) | (simp [*,errW_none,errW_some] <;> rfl),by repeat (with_reducible first | exact bmv HB.out | refine bwS ?_ GE112.out)⟩
                   · rw [if_neg c16] at H
                     exact absurd H (by simp)
                 · rw [if_neg c15] at H
                   exact absurd H (by simp)
               · rw [if_neg c14] at H
                 have c14b0 : decide (x38_1 < (((rd_T29 l0 a1).f5).length : Int)) = false:=decide_eq_false c14
                 clear c14
                 obtain rfl:=Option.some.inj H
                 go_wp2
                 go_ret
                 exact ⟨by first | rfl | (simp [errW_none,errW_some] <;> rfl) | (simp [*,errW_none,errW_some] <;> rfl),by repeat (with_reducible first | exact bmv HB.out | refine bwS ?_ GE112.out)⟩
           · rw [if_neg c11] at H
             have c11b0 : (((rd_T29 l0 a1).f3) == 0) = false:=beq_eq_false_iff_ne.mpr c11
             have c11b1 : (((rd_T29 l0 a1).f3) != 0) = true:=bne_iff_ne.mpr c11
             obtain rfl:=Option.some.inj H
             have p111 : 0≤(a1 : Int):=of_decide_eq_true (by first | (with_reducible assumption) | assumption)
             have q111 : a1 < (l0.length : Int):=of_decide_eq_true (by first | (with_reducible assumption) | assumption)
             obtain ⟨ad111,A111_5,c111_5,e111,hx111_0,hx111_1,hx111_2,hx111_3,hx111_4,hx111_5,hl111_5,hi111_5⟩:=at_T29 HR0.out a1 p111 q111
             (try rw [← Nbq5.out] at hx111_0)
             cases e111
             have HR111_5:=Az.mk hi111_5
             have HC111_5:=Az.mk hl111_5
             clear hi111_5 hl111_5
             replace p111:=eq_true p111
             replace q111:=eq_true q111
             go_enter Tryd.func43,Tryd.ntmps43
             go_wp2_with (first | ((with_reducible refine gate_dst (N:=5) rfl ?_);refine box_event ?hg (N:=5) ?hd (cs:=#[.bool false,.int .i64 0,.int .i64 0,.int .i64 0,.int .i64 0,.slice none 0 0]) (t:=29) ?hr ?_;(case hd=>rfl);(case hg=>rfl);(case hr=>first | (go_simp;done) | (go_simp;rfl));intro gb112 hg w29 hbox hb;have n0_:=Az.mk (bwT (bmv HB.out) hb);have n1_:=Az.mk (hbox);have n2_:=Az.mk ((by rw [hg];exact (bwZ (bmv HB.out)) : w.heap.size≤gb112));have n3_:=Az.mk ((by rw [hg];exact (bwZ (bmv HB.out)) : w.heap.size≤gb112));clear HB;have HB:=n0_;have BK112:=n1_;have GW112:=n2_;have GE112:=n3_;clear n0_ n1_ n2_ n3_;clear hb hbox hg;obtain ⟨⟨hcz30_0,hcz30_1,hcz30_2,hcz30_3,hcz30_4,hcz30_5⟩,hfz30_0,hfz30_1,hfz30_2,hfz30_3,hfz30_4,hfz30_5⟩:=cells6 BK112.out))
             go_ret
             exact ⟨by first | rfl | (simp [errW_none,errW_some] <;> rfl) | (simp [*,errW_none,errW_some] <;> rfl),by repeat (with_reducible first | exact bmv HB.out | refine bwS ?_ GE112.out)⟩
         · rw [if_neg c10] at H
           have c10b0 : (((rd_T29 l0 a1).f2) == 0) = false:=beq_eq_false_iff_ne.mpr c10
           have c10b1 : (((rd_T29 l0 a1).f2) != 0) = true:=bne_iff_ne.mpr c10
           obtain rfl:=Option.some.inj H
           have p111 : 0≤(a1 : Int):=of_decide_eq_true (by first | (with_reducible assumption) | assumption)
           have q111 : a1 < (l0.length : Int):=of_decide_eq_true (by first | (with_reducible assumption) | assumption)
           obtain ⟨ad111,A111_5,c111_5,e111,hx111_0,hx111_1,hx111_2,hx111_3,hx111_4,hx111_5,hl111_5,hi111_5⟩:=at_T29 HR0.out a1 p111 q111
           (try rw [← Nbq5.out] at hx111_0)
           cases e111
           have HR111_5:=Az.mk hi111_5
           have HC111_5:=Az.mk hl111_5
           clear hi111_5 hl111_5
           replace p111:=eq_true p111
           replace q111:=eq_true q111
           go_enter Tryd.func43,Tryd.ntmps43
           go_wp2_with (first | ((with_reducible refine gate_dst (N:=5) rfl ?_);refine box_event ?hg (N:=5) ?hd (cs:=#[.bool false,.int .i64 0,.int .i64 0,.int .i64 0,.int .i64 0,.slice none 0 0]) (t:=29) ?hr ?_;(case hd=>rfl);(case hg=>rfl);(case hr=>first | (go_simp;done) | (go_simp;rfl));intro gb112 hg w31 hbox hb;have n0_:=Az.mk (bwT (bmv HB.out) hb);have n1_:=Az.mk (hbox);have n2_:=Az.mk ((by rw [hg];exact (bwZ (bmv HB.out)) : w.heap.size≤gb112));have n3_:=Az.mk ((by rw [hg];exact (bwZ (bmv HB.out)) : w.heap.size≤gb112));clear HB;have HB:=n0_;have BK112:=n1_;have GW112:=n2_;have GE112:=n3_;clear n0_ n1_ n2_ n3_;clear hb hbox hg;obtain ⟨⟨hcz32_0,hcz32_1,hcz32_2,hcz32_3,hcz32_4,hcz32_5⟩,hfz32_0,hfz32_1,hfz32_2,hfz32_3,hfz32_4,hfz32_5⟩:=cells6 BK112.out))
           go_ret
           exact ⟨by first | rfl | (simp [errW_none,errW_some] <;> rfl) | (simp [*,errW_none,errW_some] <;> rfl),by repeat (with_reducible first | exact bmv HB.out | refine bwS ?_ GE112.out)⟩
     · replace c6:=Bool.eq_false_iff.mpr c6
       subst c6
       have H1 : ((tree_blank.f (false) ((rd_T29 l0 a1).f1) ((rd_T29 l0 a1).f2) ((rd_T29 l0 a1).f3) ((rd_T29 l0 a1).f4) ((rd_T29 l0 a1).f5)).bind fun t113=>(some t113)) = some r:=by rw [if_neg (show ¬ (false = true) by decide)] at H;exact H
       clear H
       have H:=H1
       clear H1
       replace H:=Option.bind_eq_some_iff.mp H
       obtain ⟨t113,A330,H⟩:=H
       replace H : (some t113) = some r:=H
       have A33:=Az.mk A330
       clear A330
       obtain rfl:=Option.some.inj H
       have p111 : 0≤(a1 : Int):=of_decide_eq_true (by first | (with_reducible assumption) | assumption)
       have q111 : a1 < (l0.length : Int):=of_decide_eq_true (by first | (with_reducible assumption) | assumption)
       obtain ⟨ad111,A111_5,c111_5,e111,hx111_0,hx111_1,hx111_2,hx111_3,hx111_4,hx111_5,hl111_5,hi111_5⟩:=at_T29 HR0.out a1 p111 q111
       (try rw [← Nbq5.out] at hx111_0)
       cases e111
       have HR111_5:=Az.mk hi111_5
       have HC111_5:=Az.mk hl111_5
       clear hi111_5 hl111_5
       replace p111:=eq_true p111
       replace q111:=eq_true q111
       go_enter Tryd.func43,Tryd.ntmps43
       go_wp2_with (first | ((with_reducible refine gate_dst (N:=5) rfl ?_);refine box_event ?hg (N:=5) ?hd (cs:=#[.bool false,.int .i64 0,.int .i64 0,.int .i64 0,.int .i64 0,.slice none 0 0]) (t:=29) ?hr ?_;(case hd=>rfl);(case hg=>rfl);(case hr=>first | (go_simp;done) | (go_simp;rfl));intro gb112 hg w34 hbox hb;have n0_:=Az.mk (bwT (bmv HB.out) hb);have n1_:=Az.mk (hbox);have n2_:=Az.mk ((by rw [hg];exact (bwZ (bmv HB.out)) : w.heap.size≤gb112));have n3_:=Az.mk ((by rw [hg];exact (bwZ (bmv HB.out)) : w.heap.size≤gb112));clear HB;have HB:=n0_;have BK112:=n1_;have GW112:=n2_;have GE112:=n3_;clear n0_ n1_ n2_ n3_;clear hb hbox hg;obtain ⟨⟨hcz35_0,hcz35_1,hcz35_2,hcz35_3,hcz35_4,hcz35_5⟩,hfz35_0,hfz35_1,hfz35_2,hfz35_3,hfz35_4,hfz35_5⟩:=cells6 BK112.out) | ((with_reducible refine gate_callee (f:=65) rfl ?_);refine goesL_ (some 17) rfl rfl Tryd.func65 (by kernel_rfl) rfl #[.agg #[.bool false,.int .i64 ((rd_T29 l0 a1).f1),.int .i64 ((rd_T29 l0 a1).f2),.int .i64 ((rd_T29 l0 a1).f3),.int .i64 ((rd_T29 l0 a1).f4),.slice A111_5 ((rd_T29 l0 a1).f5).length c111_5]] rfl (by (try simp only [List.map_toArray,List.map_cons,List.map_nil]);first | done | rfl | (simp only [List.length_drop,List.length_take];rfl)) ?_;(with_reducible refine (tree_blank.calls false ((rd_T29 l0 a1).f1) ((rd_T29 l0 a1).f2) ((rd_T29 l0 a1).f3) ((rd_T29 l0 a1).f4) _ _ ((rd_T29 l0 a1).f5) t113 _ ?side1 ?side2 A33.out).mono ?_);(case side1=>exact Kd.C_below HR111_5.out (by repeat (with_reducible first | exact bmv HB.out | refine bwS ?_ GE112.out)));(case side2=>exact HC111_5.out);rintro e w36 ⟨rfl,hb⟩;refine ⟨_,rfl,?_⟩;have n0_:=Az.mk (kB (g:=gb112) (o:=.cells #[.bool false,.int .i64 ((rd_T29 l0 a1).f1),.int .i64 ((rd_T29 l0 a1).f2),.int .i64 ((rd_T29 l0 a1).f3),.int .i64 ((rd_T29 l0 a1).f4),.slice A111_5 ((rd_T29 l0 a1).f5).length c111_5] 29 (0,0)) (by (with_reducible repeat (first | refine kN ?_ _ | refine kD ?_ | refine kA ?_ _));refine blk_put (cs:=#[.bool false,.int .i64 ((rd_T29 l0 a1).f1),.int .i64 ((rd_T29 l0 a1).f2),.int .i64 ((rd_T29 l0 a1).f3),.int .i64 ((rd_T29 l0 a1).f4),.slice none 0 0]) ?_ 5 _ rfl;(with_reducible repeat (first | refine kN ?_ _ | refine kD ?_ | refine kA ?_ _));refine blk_put (cs:=#[.bool false,.int .i64 ((rd_T29 l0 a1).f1),.int .i64 ((rd_T29 l0 a1).f2),.int .i64 ((rd_T29 l0 a1).f3),.int .i64 0,.slice none 0 0]) ?_ 4 _ rfl;(with_reducible repeat (first | refine kN ?_ _ | refine kD ?_ | refine kA ?_ _));refine blk_put (cs:=#[.bool false,.int .i64 ((rd_T29 l0 a1).f1),.int .i64 ((rd_T29 l0 a1).f2),.int .i64 0,.int .i64 0,.slice none 0 0]) ?_ 3 _ rfl;(with_reducible repeat (first | refine kN ?_ _ | refine kD ?_ | refine kA ?_ _));refine blk_put (cs:=#[.bool false,.int .i64 ((rd_T29 l0 a1).f1),.int .i64 0,.int .i64 0,.int .i64 0,.slice none 0 0]) ?_ 2 _ rfl;(with_reducible repeat (first | refine kN ?_ _ | refine kD ?_ | refine kA ?_ _));refine blk_put (cs:=#[.bool false,.int .i64 0,.int .i64 0,.int .i64 0,.int .i64 0,.slice none 0 0]) ?_ 1 _ rfl;(with_reducible repeat (first | refine kN ?_ _ | refine kD ?_ | refine kA ?_ _));refine blk_put (cs:=#[.bool false,.int .i64 0,.int .i64 0,.int .i64 0,.int .i64 0,.slice none 0 0]) ?_ 0 _ rfl;(with_reducible repeat (first | refine kN ?_ _ | refine kD ?_ | refine kA ?_ _));exact BK112.out) hb);have n1_:=Az.mk (bwT (by repeat (with_reducible first | exact bmv HB.out | refine bwS ?_ GE112.out)) hb);clear BK112;clear HB;have BK112:=n0_;have HB:=n1_;clear n0_ n1_;(try clear hb);(try clear hb2);(try clear hk);(try clear hi)))
       go_ret
       exact ⟨by first | rfl | (simp [errW_none,errW_some] <;> rfl) | (simp [*,errW_none,errW_some] <;> rfl),by repeat (with_reducible first | exact bmv HB.out | refine bwS ?_ GE112.out)⟩
   · rw [if_neg c4] at H
     exact absurd H (by simp)
 · rw [if_neg c3] at H
   exact absurd H (by simp)
end Go.Proofs.YtbblomnhobodkaaDoor.PTw
