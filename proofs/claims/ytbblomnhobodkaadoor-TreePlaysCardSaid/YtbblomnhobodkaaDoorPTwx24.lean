/- What this claim reaches of longer texts of this session. -/
import Derived.Test.YtbblomnhobodkaaDoorPTwx0
import Derived.Test.YtbblomnhobodkaaDoorPTwx1
import Derived.Test.YtbblomnhobodkaaDoorPTwx7
import Derived.Test.YtbblomnhobodkaaDoorPTwx8
import Derived.Test.YtbblomnhobodkaaDoorPTwx15
import Derived.Shelf.Spec.TrailingZeros
import Derived.Lib.ItoaNum
import Derived.Lib.LaidTab
import Derived.Laws.Bits64
import Derived.Lib.Hide
import Derived.RangeFuncBox
import Derived.Maps.AppendAt
import Derived.Lib.SliceRun
import Derived.Shelf.Spec.SlicesInsert
import Derived.Shelf.Spec.SlicesInsertGrow
import Derived.Deep.DeepCutAuto
namespace Go.Proofs.YtbblomnhobodkaaDoor.PTw
open Go.RowKit Go.Proofs.YtbblomnhobodkaaDoorW.PW Go.Proofs.YtbblomnhobodkaaDoorW.PL Go.Proofs.YtbblomnhobodkaaDoorW.PM
attribute [local go_sem] max2_int min2_int max_two min_two max_three min_three max_four min_four   -- for this text's walks alone
set_option linter.unusedVariables false
set_option linter.unusedSimpArgs false
def r3Parent.l0 : Nat→Int→Int→Int→Int→Option (Int)
 | 0,_,_,_,_=>none
 | k + 1,x0,x1,x5,x6=>if x6 < (wrap64 ((wrap64 (2 * x1)) - 1)) then (if x6 = x0 then (r3Parent.l0 k x0 x1 x5 (wrap64 (x6 + 1))) else ((r3Under.f k x0 x6 x1).bind fun t404=>(if t404 = true then (if x5 < 0 then (r3Parent.l0 k x0 x1 x6 (wrap64 (x6 + 1))) else ((r3Level.f k x6).bind fun t405=>((r3Level.f k x5).bind fun t406=>(if t405 < t406 then (r3Parent.l0 k x0 x1 x6 (wrap64 (x6 + 1))) else (r3Parent.l0 k x0 x1 x5 (wrap64 (x6 + 1))))))) else (r3Parent.l0 k x0 x1 x5 (wrap64 (x6 + 1)))))) else (some x5)
def r3Parent.f (k : Nat) (a0 : Int) (a1 : Int) : Option (Int):=r3Parent.l0 k a0 a1 (-1) 0
theorem r3Parent.mono_l : ∀ k,(∀ y0 y1 y2 y3,LeO (r3Parent.l0 k y0 y1 y2 y3) (r3Parent.l0 (k + 1) y0 y1 y2 y3))
 | 0=>fun _ _ _ _ r h=>by simp [r3Parent.l0] at h
 | k + 1=>by
  have ih0:=r3Parent.mono_l k
  · intro y0 y1 y2 y3
    unfold r3Parent.l0
    repeat' first
    | (with_reducible exact ih0 _ _ _ _)
    | (with_reducible exact r3Level.mono _ _)
    | (with_reducible exact r3Under.mono _ _ _ _)
    | (with_reducible exact LeO.refl _)
    | (with_reducible exact LeO.none _)
    | (with_reducible refine LeO.ite ?_ ?_)
    | (with_reducible refine LeO.bind ?_ (fun _=>?_))
    | exact ih0 _ _ _ _
    | exact r3Level.mono _ _
    | exact r3Under.mono _ _ _ _
    | exact LeO.none _
    | refine LeO.ite ?_ ?_
    | refine LeO.bind ?_ (fun _=>?_)
theorem r3Parent.mono : ∀ a0 a1 k,LeO (r3Parent.f k a0 a1) (r3Parent.f (k + 1) a0 a1):=by
 intro a0 a1 k;have ih0:=r3Parent.mono_l k;unfold r3Parent.f
 repeat' first
  | (with_reducible exact ih0 _ _ _ _)
  | (with_reducible exact r3Level.mono _ _)
  | (with_reducible exact r3Under.mono _ _ _ _)
  | (with_reducible exact LeO.refl _)
  | (with_reducible exact LeO.none _)
  | (with_reducible refine LeO.ite ?_ ?_)
  | (with_reducible refine LeO.bind ?_ (fun _=>?_))
  | exact ih0 _ _ _ _
  | exact r3Level.mono _ _
  | exact r3Under.mono _ _ _ _
  | exact LeO.none _
  | refine LeO.ite ?_ ?_
  | refine LeO.bind ?_ (fun _=>?_)
set_option maxHeartbeats 8000000 in
set_option maxRecDepth 100000 in
theorem r3Parent.calls (k : Nat) (a0 : Int) (a1 : Int) (r : Int) (w : World) (h : r3Parent.f k a0 a1 = some r) :
 Calls Tryd.prog 78 #[.int .i64 a0,.int .i64 a1] w fun e w'=>e = .returned (.int .i64 r)∧Drawn0 w w':=by
 have H : (r3Parent.l0 k a0 a1 (-1) 0) = some r:=h;clear h;have H':=Az.mk H;clear H
 go_enter Tryd.func78,Tryd.ntmps78
 go_wp2
 go_loopg [5,6] k (fun kq v5 v6 w'=>∃ (x5_1 : Int) (x6_1 : Int),v5 = .int .i64 x5_1∧v6 = .int .i64 x6_1∧Az (r3Parent.l0 kq a0 a1 x5_1 x6_1 = some r)∧Az (kq≤k)∧Drawn0 w w')
 case atStart=>exact ⟨((-1)),(0),rs_,rs_,H',⟨Nat.le_refl _⟩,by repeat (first | exact Drawn0.refl _ | apply Drawn0.step)⟩
 case round=>
  clear H';obtain ⟨x5_1,x6_1,rfl,rfl,HA,HK1,⟨m1,rfl⟩⟩:=hrel
  cases gk with
  | zero=>exact absurd HA.out (by simp [r3Parent.l0])
  | succ k1=>
   have H:=HA.out;clear HA;simp only [r3Parent.l0] at H
   by_cases c3 : x6_1 < (wrap64 ((wrap64 (2 * a1)) - 1))
   · rw [if_pos c3] at H
     have c3b0 : decide (x6_1 < (wrap64 ((wrap64 (2 * a1)) - 1))) = true:=decide_eq_true c3;clear c3
     by_cases c4 : x6_1 = a0
     · rw [if_pos c4] at H
       have c4b0 : (x6_1 == a0) = true:=beq_iff_eq.mpr c4;have c4b1 : (x6_1 != a0) = false:=bne_eq_false_iff_eq.mpr c4;clear c4;have H':=Az.mk H;clear H
       go_wp2
       go_roundg k1
       case measure=>have:=HK1.out;omega
       case rel=>exact ⟨(x5_1),(wrap64 (x6_1 + 1)),rs_,rs_,H',⟨by have:=HK1.out;omega⟩,by repeat (first | exact Drawn0.refl _ | apply Drawn0.step)⟩
     · rw [if_neg c4] at H
       have c4b0 : (x6_1 == a0) = false:=beq_eq_false_iff_ne.mpr c4;have c4b1 : (x6_1 != a0) = true:=bne_iff_ne.mpr c4;replace H:=Option.bind_eq_some_iff.mp H;obtain ⟨t404,A50,H⟩:=H;(try dsimp only at H);have A5:=Az.mk A50;clear A50
       by_cases c6 : t404 = true
       · subst c6
         rw [if_pos rfl] at H
         by_cases c7 : x5_1 < 0
         · rw [if_pos c7] at H
           have c7b0 : decide (x5_1 < 0) = true:=decide_eq_true c7;clear c7;have H':=Az.mk H;clear H
           go_wp2_with (first | (go_at_call 26;(with_reducible refine (r3Under.calls k1 a0 x6_1 a1 true _ A5.out).mono ?_);rintro e w' ⟨rfl,⟨nd,rfl⟩⟩))
           go_roundg k1
           case measure=>have:=HK1.out;omega
           case rel=>exact ⟨(x6_1),(wrap64 (x6_1 + 1)),rs_,rs_,H',⟨by have:=HK1.out;omega⟩,by repeat (first | exact Drawn0.refl _ | apply Drawn0.step)⟩
         · rw [if_neg c7] at H
           have c7b0 : decide (x5_1 < 0) = false:=decide_eq_false c7;clear c7;replace H:=Option.bind_eq_some_iff.mp H;obtain ⟨t405,A80,H⟩:=H;(try dsimp only at H);have A8:=Az.mk A80;clear A80;replace H:=Option.bind_eq_some_iff.mp H;obtain ⟨t406,A90,H⟩:=H;(try dsimp only at H);have A9:=Az.mk A90;clear A90
           by_cases c10 : t405 < t406
           · rw [if_pos c10] at H
             have c10b0 : decide (t405 < t406) = true:=decide_eq_true c10;clear c10;have H':=Az.mk H;clear H
             go_wp2_with (first | (go_at_call 26;(with_reducible refine (r3Under.calls k1 a0 x6_1 a1 true _ A5.out).mono ?_);rintro e w' ⟨rfl,⟨nd,rfl⟩⟩) | (go_at_call 77;(with_reducible refine (r3Level.calls k1 x6_1 t405 _ A8.out).mono ?_);rintro e w' ⟨rfl,⟨nd,rfl⟩⟩) | (go_at_call 77;(with_reducible refine (r3Level.calls k1 x5_1 t406 _ A9.out).mono ?_);rintro e w' ⟨rfl,⟨nd,rfl⟩⟩))
             go_roundg k1
             case measure=>have:=HK1.out;omega
             case rel=>exact ⟨(x6_1),(wrap64 (x6_1 + 1)),rs_,rs_,H',⟨by have:=HK1.out;omega⟩,by repeat (first | exact Drawn0.refl _ | apply Drawn0.step)⟩
           · rw [if_neg c10] at H
             have c10b0 : decide (t405 < t406) = false:=decide_eq_false c10;clear c10;have H':=Az.mk H;clear H
             go_wp2_with (first | (go_at_call 26;(with_reducible refine (r3Under.calls k1 a0 x6_1 a1 true _ A5.out).mono ?_);rintro e w' ⟨rfl,⟨nd,rfl⟩⟩) | (go_at_call 77;(with_reducible refine (r3Level.calls k1 x6_1 t405 _ A8.out).mono ?_);rintro e w' ⟨rfl,⟨nd,rfl⟩⟩) | (go_at_call 77;(with_reducible refine (r3Level.calls k1 x5_1 t406 _ A9.out).mono ?_);rintro e w' ⟨rfl,⟨nd,rfl⟩⟩))
             go_roundg k1
             case measure=>have:=HK1.out;omega
             case rel=>exact ⟨(x5_1),(wrap64 (x6_1 + 1)),rs_,rs_,H',⟨by have:=HK1.out;omega⟩,by repeat (first | exact Drawn0.refl _ | apply Drawn0.step)⟩
       · replace c6:=Bool.eq_false_iff.mpr c6
         subst c6;rw [if_neg (show ¬ (false = true) by decide)] at H;have H':=Az.mk H;clear H
         go_wp2_with (first | (go_at_call 26;(with_reducible refine (r3Under.calls k1 a0 x6_1 a1 false _ A5.out).mono ?_);rintro e w' ⟨rfl,⟨nd,rfl⟩⟩))
         go_roundg k1
         case measure=>have:=HK1.out;omega
         case rel=>exact ⟨(x5_1),(wrap64 (x6_1 + 1)),rs_,rs_,H',⟨by have:=HK1.out;omega⟩,by repeat (first | exact Drawn0.refl _ | apply Drawn0.step)⟩
   · rw [if_neg c3] at H
     have c3b0 : decide (x6_1 < (wrap64 ((wrap64 (2 * a1)) - 1))) = false:=decide_eq_false c3;clear c3;obtain rfl:=Option.some.inj H
     go_wp2
     go_ret
     exact ⟨rs_,by repeat (first | exact Drawn0.refl _ | apply Drawn0.step)⟩
def r3Path.l0 : Nat→Int→List Int→Int→Option (List Int)
 | 0,_,_,_=>none
 | k + 1,x1,x5,x6=>if x6≥0 then (if x5.length < 17592186044416 then ((r3Parent.f k x6 x1).bind fun t411=>(r3Path.l0 k x1 (x5 ++ [x6]) t411)) else (none)) else (some x5)
def r3Path.f (k : Nat) (a0 : Int) (a1 : Int) : Option (List Int):=(r3Parent.f k a0 a1).bind fun t407=>(r3Path.l0 k a1 ([] : List Int) t407)
theorem r3Path.mono_l : ∀ k,(∀ y0 y1 y2,LeO (r3Path.l0 k y0 y1 y2) (r3Path.l0 (k + 1) y0 y1 y2))
 | 0=>fun _ _ _ r h=>by simp [r3Path.l0] at h
 | k + 1=>by
  have ih0:=r3Path.mono_l k
  · intro y0 y1 y2
    unfold r3Path.l0
    repeat' first
    | (with_reducible exact ih0 _ _ _)
    | (with_reducible exact r3Parent.mono _ _ _)
    | (with_reducible exact LeO.refl _)
    | (with_reducible exact LeO.none _)
    | (with_reducible refine LeO.ite ?_ ?_)
    | (with_reducible refine LeO.bind ?_ (fun _=>?_))
    | exact ih0 _ _ _
    | exact r3Parent.mono _ _ _
    | exact LeO.none _
    | refine LeO.ite ?_ ?_
    | refine LeO.bind ?_ (fun _=>?_)
theorem r3Path.mono : ∀ a0 a1 k,LeO (r3Path.f k a0 a1) (r3Path.f (k + 1) a0 a1):=by
 intro a0 a1 k;have ih0:=r3Path.mono_l k;unfold r3Path.f
 repeat' first
  | (with_reducible exact ih0 _ _ _)
  | (with_reducible exact r3Parent.mono _ _ _)
  | (with_reducible exact LeO.refl _)
  | (with_reducible exact LeO.none _)
  | (with_reducible refine LeO.ite ?_ ?_)
  | (with_reducible refine LeO.bind ?_ (fun _=>?_))
  | exact ih0 _ _ _
  | exact r3Parent.mono _ _ _
  | exact LeO.none _
  | refine LeO.ite ?_ ?_
  | refine LeO.bind ?_ (fun _=>?_)
set_option maxHeartbeats 8000000 in
set_option maxRecDepth 100000 in
theorem r3Path.calls (k : Nat) (a0 : Int) (a1 : Int) (r : List Int) (w : World) (h : r3Path.f k a0 a1 = some r) :
 Calls Tryd.prog 63 #[.int .i64 a0,.int .i64 a1] w fun e w'=>∃ v0_ : Value,e = .returned (v0_)∧Kd.R (Kd.int .i64) 3 w' w.heap.size (fun _=>True) v0_ r∧Below w.heap.size w w':=by
 have HB:=Az.mk (Below.refl w.heap.size w);have H : ((r3Parent.f k a0 a1).bind fun t407=>(r3Path.l0 k a1 ([] : List Int) t407)) = some r:=h;clear h;replace H:=Option.bind_eq_some_iff.mp H;obtain ⟨t407,A30,H⟩:=H;(try dsimp only at H);have A3:=Az.mk A30;clear A30;have H':=Az.mk H;clear H
 go_enter Tryd.func63,Tryd.ntmps63
 go_wp2_with (first | ((with_reducible refine gate_callee (f:=78) rfl ?_);refine goesL_ (some 9) rfl rfl Tryd.func78 (by kernel_rfl) rfl #[.int .i64 a0,.int .i64 a1] rfl tl_ ?_;(with_reducible refine (r3Parent.calls k a0 a1 t407 _ A3.out).mono ?_);rintro e w' ⟨rfl,⟨nd,rfl⟩⟩;refine ⟨_,rfl,?_⟩))
 go_loopg [5,6] k (fun kq v5 v6 w'=>∃ (x5_1 : List Int) (x6_1 : Int),v6 = .int .i64 x6_1∧Az (r3Path.l0 kq a1 x5_1 x6_1 = some r)∧Az (kq≤k)∧Az (Kd.R (Kd.int .i64) 3 w' w.heap.size (fun _=>True) v5 x5_1)∧Az (Below w.heap.size w w'))
 case atStart=>exact ⟨(([] : List Int)),(t407),rs_,H',⟨Nat.le_refl _⟩,⟨by first | exact Kd.R_nil _ _ _ _ _ | exact Kd.N_nil _ _ _ _ _ | exact Kd.V_nil _ _ _ _ _ | exact Kd.Q_nil _ _ _ _ _ | exact Kd.S_nil _ _ _ _ _⟩,⟨bmv HB.out⟩⟩
 case round=>
  clear H';obtain ⟨x5_1,x6_1,rfl,HA,HK1,HO_5,HB⟩:=hrel
  cases gk with
  | zero=>exact absurd HA.out (by simp [r3Path.l0])
  | succ k1=>
   have H:=HA.out;clear HA;simp only [r3Path.l0] at H
   by_cases c4 : x6_1≥0
   · rw [if_pos c4] at H
     have c4b0 : decide (0≤x6_1) = true:=decide_eq_true c4;clear c4
     by_cases c5 : x5_1.length < 17592186044416
     · rw [if_pos c5] at H
       have LMc5:=Az.mk c5;clear c5
       obtain ⟨y408,hy408⟩ : ∃ y_ : List Int,y_ = (x5_1 ++ [x6_1]):=⟨_,rfl⟩
       replace H : ((r3Parent.f k1 x6_1 a1).bind fun t411=>(r3Path.l0 k1 a1 y408 t411)) = some r:=by first | (rw [hy408];with_reducible exact H) | (have H2_:=(Option.bind_some _ _).symm.trans H;rw [hy408];with_reducible exact H2_) | (have H2_:=(Option.bind_some _ _).symm.trans H;with_reducible exact H2_) | with_reducible exact H | (rw [hy408];exact H) | exact H
       have Ny408:=Az.mk hy408;clear hy408;replace H:=Option.bind_eq_some_iff.mp H;obtain ⟨t411,A60,H⟩:=H;(try dsimp only at H);have A6:=Az.mk A60;clear A60;have H':=Az.mk H;clear H
       go_wp2_with (first | ((with_reducible refine gate_builtin (b:=.append) (xs:=#[.tmp 15,.tmp 17]) rfl ?_);at_builtin;refine Kd.R_append (Kd.int .i64) (w0:=w) w.heap.size rfl (.tmp 15) (.tmp 17) 27 3 (.int .i64 0) 8 rfl Tryd.underlying27 info3 rfl (by decide) (by omega) u5 x5_1 x6_1 [.int .i64 x6_1] (fun _=>True) (fun _=>False) rfl rfl ?aP (fun _ hk=>hk.elim) ?aF ?aO ?aB ?aS ?aL ?_;(case aP=>exact rfl);(case aB=>exact (bmv HB.out));(case aF=>exact (fun _ _=>trivial));(case aO=>exact (R_mv HO_5.out));(case aS=>exact (bwZ (bmv HB.out)));(case aL=>have:=LMc5.out;omega);intro v409 w7 ho hb hg hat;rw [← Ny408.out] at ho;have HO410:=Az.mk (ho);replace HB:=Az.mk (hb);clear HO_5;clear ho hb hg hat) | ((with_reducible refine gate_callee (f:=78) rfl ?_);refine goesL_ (some 14) rfl rfl Tryd.func78 (by kernel_rfl) rfl #[.int .i64 x6_1,.int .i64 a1] rfl tl_ ?_;(with_reducible refine (r3Parent.calls k1 x6_1 a1 t411 _ A6.out).mono ?_);rintro e w' ⟨rfl,⟨nd,rfl⟩⟩;refine ⟨_,rfl,?_⟩))
       go_roundg k1
       case measure=>have:=HK1.out;omega
       case rel=>exact ⟨(y408),(t411),rs_,H',⟨by have:=HK1.out;omega⟩,⟨R_mv HO410.out⟩,⟨bmv HB.out⟩⟩
     · rw [if_neg c5] at H
       exact absurd H (by simp)
   · rw [if_neg c4] at H
     have c4b0 : decide (0≤x6_1) = false:=decide_eq_false c4;clear c4;obtain rfl:=Option.some.inj H
     go_wp2
     go_ret
     exact ⟨_,by first | rfl | (simp [errW_none,errW_some] <;> rfl) | (simp [*,errW_none,errW_some] <;> rfl),R_mv HO_5.out,bmv HB.out⟩
def r3Sibling.f (k : Nat) (a0 : Int) (a1 : Int) : Option (Int):=(r3Parent.f k a0 a1).bind fun t412=>(some (wrap64 ((wrap64 (t412 + t412)) - a0)))
theorem r3Sibling.mono : ∀ a0 a1 k,LeO (r3Sibling.f k a0 a1) (r3Sibling.f (k + 1) a0 a1):=by
 intro a0 a1 k;unfold r3Sibling.f
 repeat' first
  | (with_reducible exact r3Parent.mono _ _ _)
  | (with_reducible exact LeO.refl _)
  | (with_reducible exact LeO.none _)
  | (with_reducible refine LeO.ite ?_ ?_)
  | (with_reducible refine LeO.bind ?_ (fun _=>?_))
  | exact r3Parent.mono _ _ _
  | exact LeO.none _
  | refine LeO.ite ?_ ?_
  | refine LeO.bind ?_ (fun _=>?_)
set_option maxHeartbeats 8000000 in
set_option maxRecDepth 100000 in
theorem r3Sibling.calls (k : Nat) (a0 : Int) (a1 : Int) (r : Int) (w : World) (h : r3Sibling.f k a0 a1 = some r) :
 Calls Tryd.prog 79 #[.int .i64 a0,.int .i64 a1] w fun e w'=>e = .returned (.int .i64 r)∧Drawn0 w w':=by
 have H : ((r3Parent.f k a0 a1).bind fun t412=>(some (wrap64 ((wrap64 (t412 + t412)) - a0)))) = some r:=h;clear h;replace H:=Option.bind_eq_some_iff.mp H;obtain ⟨t412,A30,H⟩:=H;(try dsimp only at H);have A3:=Az.mk A30;clear A30;obtain rfl:=Option.some.inj H
 go_enter Tryd.func79,Tryd.ntmps79
 go_wp2_with (first | ((with_reducible refine gate_callee (f:=78) rfl ?_);refine goesL_ (some 8) rfl rfl Tryd.func78 (by kernel_rfl) rfl #[.int .i64 a0,.int .i64 a1] rfl tl_ ?_;(with_reducible refine (r3Parent.calls k a0 a1 t412 _ A3.out).mono ?_);rintro e w' ⟨rfl,⟨nd,rfl⟩⟩;refine ⟨_,rfl,?_⟩))
 go_ret
 exact ⟨rs_,by repeat (first | exact Drawn0.refl _ | apply Drawn0.step)⟩
def r3Copath.l0 : Nat→Int→Int→List Int→Option (List Int)
 | 0,_,_,_=>none
 | k + 1,x0,x1,x5=>(r3Parent.f k x0 x1).bind fun t413=>(if t413≥0 then ((r3Sibling.f k x0 x1).bind fun t414=>(if x5.length < 17592186044416 then ((r3Parent.f k x0 x1).bind fun t418=>(r3Copath.l0 k t418 x1 (x5 ++ [t414]))) else (none))) else (some x5))
def r3Copath.f (k : Nat) (a0 : Int) (a1 : Int) : Option (List Int):=r3Copath.l0 k a0 a1 ([] : List Int)
theorem r3Copath.mono_l : ∀ k,(∀ y0 y1 y2,LeO (r3Copath.l0 k y0 y1 y2) (r3Copath.l0 (k + 1) y0 y1 y2))
 | 0=>fun _ _ _ r h=>by simp [r3Copath.l0] at h
 | k + 1=>by
  have ih0:=r3Copath.mono_l k
  · intro y0 y1 y2
    unfold r3Copath.l0
    repeat' first
    | (with_reducible exact ih0 _ _ _)
    | (with_reducible exact r3Parent.mono _ _ _)
    | (with_reducible exact r3Sibling.mono _ _ _)
    | (with_reducible exact LeO.refl _)
    | (with_reducible exact LeO.none _)
    | (with_reducible refine LeO.ite ?_ ?_)
    | (with_reducible refine LeO.bind ?_ (fun _=>?_))
    | exact ih0 _ _ _
    | exact r3Parent.mono _ _ _
    | exact r3Sibling.mono _ _ _
    | exact LeO.none _
    | refine LeO.ite ?_ ?_
    | refine LeO.bind ?_ (fun _=>?_)
theorem r3Copath.mono : ∀ a0 a1 k,LeO (r3Copath.f k a0 a1) (r3Copath.f (k + 1) a0 a1):=by
 intro a0 a1 k;have ih0:=r3Copath.mono_l k;unfold r3Copath.f
 repeat' first
  | (with_reducible exact ih0 _ _ _)
  | (with_reducible exact r3Parent.mono _ _ _)
  | (with_reducible exact r3Sibling.mono _ _ _)
  | (with_reducible exact LeO.refl _)
  | (with_reducible exact LeO.none _)
  | (with_reducible refine LeO.ite ?_ ?_)
  | (with_reducible refine LeO.bind ?_ (fun _=>?_))
  | exact ih0 _ _ _
  | exact r3Parent.mono _ _ _
  | exact r3Sibling.mono _ _ _
  | exact LeO.none _
  | refine LeO.ite ?_ ?_
  | refine LeO.bind ?_ (fun _=>?_)
set_option maxHeartbeats 8000000 in
set_option maxRecDepth 100000 in
theorem r3Copath.calls (k : Nat) (a0 : Int) (a1 : Int) (r : List Int) (w : World) (h : r3Copath.f k a0 a1 = some r) :
 Calls Tryd.prog 64 #[.int .i64 a0,.int .i64 a1] w fun e w'=>∃ v0_ : Value,e = .returned (v0_)∧Kd.R (Kd.int .i64) 3 w' w.heap.size (fun _=>True) v0_ r∧Below w.heap.size w w':=by
 have HB:=Az.mk (Below.refl w.heap.size w);have H : (r3Copath.l0 k a0 a1 ([] : List Int)) = some r:=h;clear h;have H':=Az.mk H;clear H
 go_enter Tryd.func64,Tryd.ntmps64
 go_wp2
 go_loopg [0,5] k (fun kq v0 v5 w'=>∃ (x0_1 : Int) (x5_1 : List Int),v0 = .int .i64 x0_1∧Az (r3Copath.l0 kq x0_1 a1 x5_1 = some r)∧Az (kq≤k)∧Az (Kd.R (Kd.int .i64) 3 w' w.heap.size (fun _=>True) v5 x5_1)∧Az (Below w.heap.size w w'))
 case atStart=>exact ⟨(a0),(([] : List Int)),rs_,H',⟨Nat.le_refl _⟩,⟨by first | exact Kd.R_nil _ _ _ _ _ | exact Kd.N_nil _ _ _ _ _ | exact Kd.V_nil _ _ _ _ _ | exact Kd.Q_nil _ _ _ _ _ | exact Kd.S_nil _ _ _ _ _⟩,⟨bmv HB.out⟩⟩
 case round=>
  clear H';obtain ⟨x0_1,x5_1,rfl,HA,HK1,HO_5,HB⟩:=hrel
  cases gk with
  | zero=>exact absurd HA.out (by simp [r3Copath.l0])
  | succ k1=>
   have H:=HA.out;clear HA;simp only [r3Copath.l0] at H;replace H:=Option.bind_eq_some_iff.mp H;obtain ⟨t413,A30,H⟩:=H;(try dsimp only at H);have A3:=Az.mk A30;clear A30
   by_cases c4 : t413≥0
   · rw [if_pos c4] at H
     have c4b0 : decide (0≤t413) = true:=decide_eq_true c4;clear c4;replace H:=Option.bind_eq_some_iff.mp H;obtain ⟨t414,A50,H⟩:=H;(try dsimp only at H);have A5:=Az.mk A50;clear A50
     by_cases c6 : x5_1.length < 17592186044416
     · rw [if_pos c6] at H
       have LMc6:=Az.mk c6;clear c6
       obtain ⟨y415,hy415⟩ : ∃ y_ : List Int,y_ = (x5_1 ++ [t414]):=⟨_,rfl⟩
       replace H : ((r3Parent.f k1 x0_1 a1).bind fun t418=>(r3Copath.l0 k1 t418 a1 y415)) = some r:=by first | (rw [hy415];with_reducible exact H) | (have H2_:=(Option.bind_some _ _).symm.trans H;rw [hy415];with_reducible exact H2_) | (have H2_:=(Option.bind_some _ _).symm.trans H;with_reducible exact H2_) | with_reducible exact H | (rw [hy415];exact H) | exact H
       have Ny415:=Az.mk hy415;clear hy415;replace H:=Option.bind_eq_some_iff.mp H;obtain ⟨t418,A70,H⟩:=H;(try dsimp only at H);have A7:=Az.mk A70;clear A70;have H':=Az.mk H;clear H
       go_wp2_with (first | ((with_reducible refine gate_callee (f:=78) rfl ?_);refine goesL_ (some 9) rfl rfl Tryd.func78 (by kernel_rfl) rfl #[.int .i64 x0_1,.int .i64 a1] rfl tl_ ?_;(with_reducible refine (r3Parent.calls k1 x0_1 a1 t413 _ A3.out).mono ?_);rintro e w' ⟨rfl,⟨nd,rfl⟩⟩;refine ⟨_,rfl,?_⟩) | ((with_reducible refine gate_callee (f:=79) rfl ?_);refine goesL_ (some 13) rfl rfl Tryd.func79 (by kernel_rfl) rfl #[.int .i64 x0_1,.int .i64 a1] rfl tl_ ?_;(with_reducible refine (r3Sibling.calls k1 x0_1 a1 t414 _ A5.out).mono ?_);rintro e w' ⟨rfl,⟨nd,rfl⟩⟩;refine ⟨_,rfl,?_⟩) | ((with_reducible refine gate_builtin (b:=.append) (xs:=#[.tmp 14,.tmp 16]) rfl ?_);at_builtin;refine Kd.R_append (Kd.int .i64) (w0:=w) w.heap.size rfl (.tmp 14) (.tmp 16) 27 3 (.int .i64 0) 8 rfl Tryd.underlying27 info3 rfl (by decide) (by omega) u5 x5_1 t414 [.int .i64 t414] (fun _=>True) (fun _=>False) rfl rfl ?aP (fun _ hk=>hk.elim) ?aF ?aO ?aB ?aS ?aL ?_;(case aP=>exact rfl);(case aB=>exact (bmv HB.out));(case aF=>exact (fun _ _=>trivial));(case aO=>exact (R_mv HO_5.out));(case aS=>exact (bwZ (bmv HB.out)));(case aL=>have:=LMc6.out;omega);intro v416 w8 ho hb hg hat;rw [← Ny415.out] at ho;have HO417:=Az.mk (ho);replace HB:=Az.mk (hb);clear HO_5;clear ho hb hg hat) | ((with_reducible refine gate_callee (f:=78) rfl ?_);refine goesL_ (some 20) rfl rfl Tryd.func78 (by kernel_rfl) rfl #[.int .i64 x0_1,.int .i64 a1] rfl tl_ ?_;(with_reducible refine (r3Parent.calls k1 x0_1 a1 t418 _ A7.out).mono ?_);rintro e w' ⟨rfl,⟨nd,rfl⟩⟩;refine ⟨_,rfl,?_⟩))
       go_roundg k1
       case measure=>have:=HK1.out;omega
       case rel=>exact ⟨(t418),(y415),rs_,H',⟨by have:=HK1.out;omega⟩,⟨R_mv HO417.out⟩,⟨bmv HB.out⟩⟩
     · rw [if_neg c6] at H
       exact absurd H (by simp)
   · rw [if_neg c4] at H
     have c4b0 : decide (0≤t413) = false:=decide_eq_false c4;clear c4;obtain rfl:=Option.some.inj H
     go_wp2_with (first | ((with_reducible refine gate_callee (f:=78) rfl ?_);refine goesL_ (some 9) rfl rfl Tryd.func78 (by kernel_rfl) rfl #[.int .i64 x0_1,.int .i64 a1] rfl tl_ ?_;(with_reducible refine (r3Parent.calls k1 x0_1 a1 t413 _ A3.out).mono ?_);rintro e w' ⟨rfl,⟨nd,rfl⟩⟩;refine ⟨_,rfl,?_⟩))
     go_ret
     exact ⟨_,by first | rfl | (simp [errW_none,errW_some] <;> rfl) | (simp [*,errW_none,errW_some] <;> rfl),R_mv HO_5.out,bmv HB.out⟩
mutual
def r4Filtered.j0 : Nat→List (S29)→Int→List Int→List Int→Bool→Option (List Int × List Int)
 | 0,_,_,_,_,_=>none
 | k + 1,x0,x1,x6,x7,x19=>if x19 = true then (some (x6,x7)) else ((r4Leaves.f x0).bind fun t420=>((r3Path.f k (wrap64 (2 * x1)) t420).bind fun t421=>((r3Copath.f k (wrap64 (2 * x1)) t420).bind fun t424=>(r4Filtered.l0 k x0 x6 x7 t421 t424 0))))
def r4Filtered.l0 : Nat→List (S29)→List Int→List Int→List Int→List Int→Int→Option (List Int × List Int)
 | 0,_,_,_,_,_,_=>none
 | k + 1,x0,x6,x7,x9,x10,x11=>if x11 < (x9.length : Int) then (if 0≤x11 then (if x11 < (x10.length : Int) then ((r4Resolution.f k x0 (rd x10 x11)).bind fun t428=>(if (t428.length : Int) > 0 then (if x6.length < 17592186044416 then (if x7.length < 17592186044416 then (r4Filtered.l0 k x0 (x6 ++ [rd x9 x11]) (x7 ++ [rd x10 x11]) x9 x10 (wrap64 (x11 + 1))) else (none)) else (none)) else (r4Filtered.l0 k x0 x6 x7 x9 x10 (wrap64 (x11 + 1))))) else (none)) else (none)) else (some (x6,x7))
end
def r4Filtered.f (k : Nat) (l0 : List (S29)) (a1 : Int) : Option (List Int × List Int):=if a1 < 0 then (r4Filtered.j0 k l0 a1 ([] : List Int) ([] : List Int) true) else ((r4Leaves.f l0).bind fun t419=>(r4Filtered.j0 k l0 a1 ([] : List Int) ([] : List Int) (decide (a1≥t419))))
theorem r4Filtered.mono_l : ∀ k,(∀ y0 y1 y2 y3 y4,LeO (r4Filtered.j0 k y0 y1 y2 y3 y4) (r4Filtered.j0 (k + 1) y0 y1 y2 y3 y4))∧(∀ y0 y1 y2 y3 y4 y5,LeO (r4Filtered.l0 k y0 y1 y2 y3 y4 y5) (r4Filtered.l0 (k + 1) y0 y1 y2 y3 y4 y5))
 | 0=>⟨fun _ _ _ _ _ r h=>by simp [r4Filtered.j0] at h,fun _ _ _ _ _ _ r h=>by simp [r4Filtered.l0] at h⟩
 | k + 1=>by
  obtain ⟨ih0,ih1⟩:=r4Filtered.mono_l k;refine ⟨?_,?_⟩;intro y0 y1 y2 y3 y4;unfold r4Filtered.j0;rotate_left;intro y0 y1 y2 y3 y4 y5;unfold r4Filtered.l0;rotate_left
  repeat' first
   | (with_reducible exact ih0 _ _ _ _ _)
   | (with_reducible exact ih1 _ _ _ _ _ _)
   | (with_reducible exact r3Copath.mono _ _ _)
   | (with_reducible exact r3Path.mono _ _ _)
   | (with_reducible exact r4Resolution.mono _ _ _)
   | (with_reducible exact LeO.refl _)
   | (with_reducible exact LeO.none _)
   | (with_reducible refine LeO.ite ?_ ?_)
   | (with_reducible refine LeO.bind ?_ (fun _=>?_))
   | exact ih0 _ _ _ _ _
   | exact ih1 _ _ _ _ _ _
   | exact r3Copath.mono _ _ _
   | exact r3Path.mono _ _ _
   | exact r4Resolution.mono _ _ _
   | exact LeO.none _
   | refine LeO.ite ?_ ?_
   | refine LeO.bind ?_ (fun _=>?_)
theorem r4Filtered.mono : ∀ a0 a1 k,LeO (r4Filtered.f k a0 a1) (r4Filtered.f (k + 1) a0 a1):=by
 intro a0 a1 k;obtain ⟨ih0,ih1⟩:=r4Filtered.mono_l k;unfold r4Filtered.f
 repeat' first
  | (with_reducible exact ih0 _ _ _ _ _)
  | (with_reducible exact ih1 _ _ _ _ _ _)
  | (with_reducible exact r3Copath.mono _ _ _)
  | (with_reducible exact r3Path.mono _ _ _)
  | (with_reducible exact r4Resolution.mono _ _ _)
  | (with_reducible exact LeO.refl _)
  | (with_reducible exact LeO.none _)
  | (with_reducible refine LeO.ite ?_ ?_)
  | (with_reducible refine LeO.bind ?_ (fun _=>?_))
  | exact ih0 _ _ _ _ _
  | exact ih1 _ _ _ _ _ _
  | exact r3Copath.mono _ _ _
  | exact r3Path.mono _ _ _
  | exact r4Resolution.mono _ _ _
  | exact LeO.none _
  | refine LeO.ite ?_ ?_
  | refine LeO.bind ?_ (fun _=>?_)
set_option maxHeartbeats 8000000 in
set_option maxRecDepth 100000 in
theorem r4Filtered.calls (k : Nat) (A0 : Option Addr) (c0 : Nat) (l0 : List (S29)) (a1 : Int) (r1 : List Int) (r2 : List Int) (w : World) (hr0 : Kd.C k29 w A0 l0.length l0) (hc0 : l0.length≤c0) (h : r4Filtered.f k l0 a1 = some (r1,r2)) :
 Calls Tryd.prog 37 #[.slice A0 l0.length c0,.int .i64 a1] w fun e w'=>∃ v0_ v1_ : Value,e = .returned (.tuple #[v0_,v1_])∧Kd.R (Kd.int .i64) 3 w' w.heap.size (fun k_=>some k_≠(v1_ : Value).ownBlock) v0_ r1∧Kd.R (Kd.int .i64) 3 w' w.heap.size (fun k_=>some k_≠(v0_ : Value).ownBlock) v1_ r2∧Below w.heap.size w w':=by
 have HR0:=Az.mk hr0;have HC0:=Az.mk hc0;clear hr0 hc0;have HB:=Az.mk (Below.refl w.heap.size w);have H : (if a1 < 0 then (r4Filtered.j0 k l0 a1 ([] : List Int) ([] : List Int) true) else ((r4Leaves.f l0).bind fun t419=>(r4Filtered.j0 k l0 a1 ([] : List Int) ([] : List Int) (decide (a1≥t419))))) = some (r1,r2):=h;clear h;have HC3:=Az.mk H;clear H
 go_enter Tryd.func37,Tryd.ntmps37
 go_upto_region 2 with (fail)
 go_cut [19] (fun v19 wc=>∃ (kq : Nat) (x19_2 : Bool),v19 = .bool x19_2∧Az (r4Filtered.j0 kq l0 a1 ([] : List Int) ([] : List Int) x19_2 = some (r1,r2))∧Az (kq≤k)∧Az (Kd.R (Kd.int .i64) 3 wc w.heap.size (fun k_=>some k_≠((.slice none 0 0) : Value).ownBlock) (.slice none 0 0) ([] : List Int))∧Az (Kd.R (Kd.int .i64) 3 wc w.heap.size (fun k_=>some k_≠((.slice none 0 0) : Value).ownBlock) (.slice none 0 0) ([] : List Int))∧Az (Below w.heap.size w wc))
 case first=>
  have H:=HC3.out;clear HC3
  by_cases c4 : a1 < 0
  · rw [if_pos c4] at H
    have c4b0 : decide (a1 < 0) = true:=decide_eq_true c4;clear c4
    (first | rw [c4b0] | (simp only [i64_w,i32_w];rw [c4b0]) | skip)
    have H':=Az.mk H;clear H
    go_wp2
    go_meet
    case rel=>exact ⟨_,(true),rs_,H',⟨by first | omega | exact Nat.le_refl _⟩,⟨by first | exact Kd.R_nil _ _ _ _ _ | exact Kd.N_nil _ _ _ _ _ | exact Kd.V_nil _ _ _ _ _ | exact Kd.Q_nil _ _ _ _ _ | exact Kd.S_nil _ _ _ _ _⟩,⟨by first | exact Kd.R_nil _ _ _ _ _ | exact Kd.N_nil _ _ _ _ _ | exact Kd.V_nil _ _ _ _ _ | exact Kd.Q_nil _ _ _ _ _ | exact Kd.S_nil _ _ _ _ _⟩,⟨bmv HB.out⟩⟩
  · rw [if_neg c4] at H
    have c4b0 : decide (a1 < 0) = false:=decide_eq_false c4;clear c4
    (first | rw [c4b0] | (simp only [i64_w,i32_w];rw [c4b0]) | skip)
    replace H:=Option.bind_eq_some_iff.mp H;obtain ⟨t419,A50,H⟩:=H;(try dsimp only at H);have A5:=Az.mk A50;clear A50;have H':=Az.mk H;clear H
    go_wp2_with (first | (go_at_call 21;(with_reducible refine (r4Leaves.calls _ _ l0 t419 _ ?side1 ?side2 A5.out).mono ?_);(case side1=>exact C_mv ((Kd.C_below HR0.out HB.out)));(case side2=>exact HC0.out);rintro e w' ⟨rfl,⟨nd,rfl⟩⟩))
    go_meet
    case rel=>exact ⟨_,(decide (a1≥t419)),rs_,H',⟨by first | omega | exact Nat.le_refl _⟩,⟨by first | exact Kd.R_nil _ _ _ _ _ | exact Kd.N_nil _ _ _ _ _ | exact Kd.V_nil _ _ _ _ _ | exact Kd.Q_nil _ _ _ _ _ | exact Kd.S_nil _ _ _ _ _⟩,⟨by first | exact Kd.R_nil _ _ _ _ _ | exact Kd.N_nil _ _ _ _ _ | exact Kd.V_nil _ _ _ _ _ | exact Kd.Q_nil _ _ _ _ _ | exact Kd.S_nil _ _ _ _ _⟩,⟨bmv HB.out⟩⟩
 case rest=>
  clear HC3;(try clear c4);(try clear c4b0);obtain ⟨kq,x19_2,rfl,HA,HJ2,HO_6,HO_7,HB⟩:=hcut
  cases kq with
  | zero=>exact absurd HA.out (by simp [r4Filtered.j0])
  | succ kj2=>
   have H:=HA.out;clear HA;simp only [r4Filtered.j0] at H
   by_cases c6 : x19_2 = true
   · subst c6
     rw [if_pos rfl] at H;simp only [Option.some.injEq,Prod.mk.injEq] at H;obtain ⟨rfl,rfl⟩:=H
     go_wp2
     go_ret2
     exact ⟨_,_,by first | rfl | (simp [errW_none,errW_some] <;> rfl) | (simp [*,errW_none,errW_some] <;> rfl),R_mv HO_6.out,R_mv HO_7.out,bmv HB.out⟩
   · replace c6:=Bool.eq_false_iff.mpr c6
     subst c6;rw [if_neg (show ¬ (false = true) by decide)] at H;replace H:=Option.bind_eq_some_iff.mp H;obtain ⟨t420,A70,H⟩:=H;(try dsimp only at H);have A7:=Az.mk A70;clear A70;replace H:=Option.bind_eq_some_iff.mp H;obtain ⟨t421,A80,H⟩:=H;(try dsimp only at H);have A8:=Az.mk A80;clear A80;replace H:=Option.bind_eq_some_iff.mp H;obtain ⟨t424,A90,H⟩:=H;(try dsimp only at H);have A9:=Az.mk A90;clear A90;have H':=Az.mk H;clear H
     go_wp2_with (first | ((with_reducible refine gate_callee (f:=21) rfl ?_);refine goesL_ (some 23) rfl rfl Tryd.func21 (by kernel_rfl) rfl #[.slice A0 l0.length c0] rfl tl_ ?_;(with_reducible refine (r4Leaves.calls _ _ l0 t420 _ ?side1 ?side2 A7.out).mono ?_);(case side1=>exact C_mv ((Kd.C_below HR0.out HB.out)));(case side2=>exact HC0.out);rintro e w' ⟨rfl,⟨nd,rfl⟩⟩;refine ⟨_,rfl,?_⟩) | ((with_reducible refine gate_callee (f:=63) rfl ?_);refine goesL_ (some 27) rfl rfl Tryd.func63 (by kernel_rfl) rfl #[.int .i64 (wrap64 (2 * a1)),.int .i64 t420] rfl tl_ ?_;(with_reducible refine (r3Path.calls kj2 (wrap64 (2 * a1)) t420 t421 _ A8.out).mono ?_);rintro e w10 ⟨v422,rfl,ho0,hb⟩;refine ⟨_,rfl,?_⟩;have HO423:=Az.mk (Kd.R_lower (Kd.R_new' (Kd.R_new' ho0 (Kd.R_lt (R_mv HO_6.out))) (Kd.R_lt (R_mv HO_7.out))) (bwZ (bmv HB.out)));replace HO_6:=Az.mk (Kd.R_elder' (R_mv HO_6.out) (Kd.R_base ho0) hb);replace HO_7:=Az.mk (Kd.R_elder' (R_mv HO_7.out) (Kd.R_base ho0) hb);replace HB:=Az.mk (bwT (bmv HB.out) hb);(try clear hb);(try clear hb2);(try clear hk);(try clear hi);(try clear ho0)) | ((with_reducible refine gate_callee (f:=64) rfl ?_);refine goesL_ (some 31) rfl rfl Tryd.func64 (by kernel_rfl) rfl #[.int .i64 (wrap64 (2 * a1)),.int .i64 t420] rfl tl_ ?_;(with_reducible refine (r3Copath.calls kj2 (wrap64 (2 * a1)) t420 t424 _ A9.out).mono ?_);rintro e w11 ⟨v425,rfl,ho0,hb⟩;refine ⟨_,rfl,?_⟩;have HO426:=Az.mk (Kd.R_lower (Kd.R_new' (Kd.R_new' (Kd.R_new' ho0 (Kd.R_lt (R_mv HO_6.out))) (Kd.R_lt (R_mv HO_7.out))) (Kd.R_lt (R_mv HO423.out))) (bwZ (bmv HB.out)));replace HO_6:=Az.mk (Kd.R_elder' (R_mv HO_6.out) (Kd.R_base ho0) hb);replace HO_7:=Az.mk (Kd.R_elder' (R_mv HO_7.out) (Kd.R_base ho0) hb);replace HO423:=Az.mk (Kd.R_elder' (R_mv HO423.out) (Kd.R_base ho0) hb);replace HB:=Az.mk (bwT (bmv HB.out) hb);(try clear hb);(try clear hb2);(try clear hk);(try clear hi);(try clear ho0)))
     go_loopg [6,7,11] kj2 (fun kq v6 v7 v11 w'=>∃ (x6_2 : List Int) (x7_2 : List Int) (x11_2 : Int),v11 = .int .i64 x11_2∧Az (r4Filtered.l0 kq l0 x6_2 x7_2 t421 t424 x11_2 = some (r1,r2))∧Az (kq≤kj2)∧Az (Kd.R (Kd.int .i64) 3 w' w.heap.size (fun k_=>some k_≠(v7 : Value).ownBlock∧some k_≠(v422 : Value).ownBlock∧some k_≠(v425 : Value).ownBlock) v6 x6_2)∧Az (Kd.R (Kd.int .i64) 3 w' w.heap.size (fun k_=>some k_≠(v6 : Value).ownBlock∧some k_≠(v422 : Value).ownBlock∧some k_≠(v425 : Value).ownBlock) v7 x7_2)∧Az (Kd.R (Kd.int .i64) 3 w' w.heap.size (fun k_=>some k_≠(v6 : Value).ownBlock∧some k_≠(v7 : Value).ownBlock∧some k_≠(v425 : Value).ownBlock) v422 t421)∧Az (Kd.R (Kd.int .i64) 3 w' w.heap.size (fun k_=>some k_≠(v6 : Value).ownBlock∧some k_≠(v7 : Value).ownBlock∧some k_≠(v422 : Value).ownBlock) v425 t424)∧Az (Below w.heap.size w w'))
     case atStart=>exact ⟨(([] : List Int)),(([] : List Int)),(0),rs_,H',⟨Nat.le_refl _⟩,⟨R_mv (Kd.R_mono HO_6.out (fun _ hk=>⟨hk.1.1,⟨hk.1.2,hk.2⟩⟩))⟩,⟨R_mv (Kd.R_mono HO_7.out (fun _ hk=>⟨hk.1.1,⟨hk.1.2,hk.2⟩⟩))⟩,⟨R_mv (Kd.R_mono HO423.out (fun _ hk=>⟨hk.1.1.2,⟨hk.1.2,hk.2⟩⟩))⟩,⟨R_mv (Kd.R_mono HO426.out (fun _ hk=>⟨hk.1.1.2,⟨hk.1.2,hk.2⟩⟩))⟩,⟨bmv HB.out⟩⟩
     case round=>
      clear H';(try clear c4);(try clear c4b0);(try clear c6);obtain ⟨x6_2,x7_2,x11_2,rfl,HA,HK2,HO_6,HO_7,HO_9,HO_10,HB⟩:=hrel
      cases gk with
      | zero=>exact absurd HA.out (by simp [r4Filtered.l0])
      | succ k2=>
       have H:=HA.out;clear HA;simp only [r4Filtered.l0] at H
       by_cases c12 : x11_2 < (t421.length : Int)
       · rw [if_pos c12] at H
         have c12b0 : decide (x11_2 < (t421.length : Int)) = true:=decide_eq_true c12;clear c12
         by_cases c13 : 0≤x11_2
         · rw [if_pos c13] at H
           have c13b0 : decide (0≤x11_2) = true:=decide_eq_true c13;clear c13
           by_cases c14 : x11_2 < (t424.length : Int)
           · rw [if_pos c14] at H
             have c14b0 : decide (x11_2 < (t424.length : Int)) = true:=decide_eq_true c14;clear c14;replace H:=Option.bind_eq_some_iff.mp H;obtain ⟨t428,A150,H⟩:=H;(try dsimp only at H);have A15:=Az.mk A150;clear A150
             by_cases c16 : (t428.length : Int) > 0
             · rw [if_pos c16] at H
               have c16b0 : decide (0 < (t428.length : Int)) = true:=decide_eq_true c16;have c16b1 : decide (0 < t428.length) = true:=decide_eq_true (by omega);clear c16
               by_cases c17 : x6_2.length < 17592186044416
               · rw [if_pos c17] at H
                 have LMc17:=Az.mk c17;clear c17
                 obtain ⟨y432,hy432⟩ : ∃ y_ : List Int,y_ = (x6_2 ++ [rd t421 x11_2]):=⟨_,rfl⟩
                 replace H : (if x7_2.length < 17592186044416 then (r4Filtered.l0 k2 l0 y432 (x7_2 ++ [rd t424 x11_2]) t421 t424 (wrap64 (x11_2 + 1))) else (none)) = some (r1,r2):=by first | (rw [hy432];with_reducible exact H) | (have H2_:=(Option.bind_some _ _).symm.trans H;rw [hy432];with_reducible exact H2_) | (have H2_:=(Option.bind_some _ _).symm.trans H;with_reducible exact H2_) | with_reducible exact H | (rw [hy432];exact H) | exact H
                 have Ny432:=Az.mk hy432;clear hy432
                 by_cases c18 : x7_2.length < 17592186044416
                 · rw [if_pos c18] at H
                   have LMc18:=Az.mk c18;clear c18
                   obtain ⟨y436,hy436⟩ : ∃ y_ : List Int,y_ = (x7_2 ++ [rd t424 x11_2]):=⟨_,rfl⟩
                   replace H : (r4Filtered.l0 k2 l0 y432 y436 t421 t424 (wrap64 (x11_2 + 1))) = some (r1,r2):=by first | (rw [hy436];with_reducible exact H) | (have H2_:=(Option.bind_some _ _).symm.trans H;rw [hy436];with_reducible exact H2_) | (have H2_:=(Option.bind_some _ _).symm.trans H;with_reducible exact H2_) | with_reducible exact H | (rw [hy436];exact H) | exact H
                   have Ny436:=Az.mk hy436;clear hy436;have H':=Az.mk H;clear H;obtain ⟨Ao19,co19,eo19⟩:=Kd.R_slice HO_9.out;subst eo19;obtain ⟨Ao20,co20,eo20⟩:=Kd.R_slice HO_10.out;subst eo20;have p427 : 0≤(x11_2 : Int):=dt_;have q427 : x11_2 < (t424.length : Int):=dt_;obtain ⟨ad427,e427,hx427_0⟩:=Kd.at_int (Kd.R_reads' HO_10.out).2.2 x11_2 p427 q427;cases e427;replace p427:=eq_true p427;replace q427:=eq_true q427
                   go_wp2_with (first | ((with_reducible refine gate_callee (f:=38) rfl ?_);refine goesL_ (some 43) rfl rfl Tryd.func38 (by kernel_rfl) rfl #[.slice A0 l0.length c0,.int .i64 (rd t424 x11_2)] rfl tl_ ?_;(with_reducible refine (r4Resolution.calls k2 _ _ l0 (rd t424 x11_2) t428 _ ?side1 ?side2 A15.out).mono ?_);(case side1=>exact C_mv ((Kd.C_below HR0.out HB.out)));(case side2=>exact HC0.out);rintro e w21 ⟨v429,rfl,ho0,hb⟩;refine ⟨_,rfl,?_⟩;have HO430:=Az.mk (Kd.R_lower (Kd.R_new' (Kd.R_new' (Kd.R_new' (Kd.R_new' ho0 (Kd.R_lt (R_mv HO_6.out))) (Kd.R_lt (R_mv HO_7.out))) (Kd.R_lt (R_mv HO_9.out))) (Kd.R_lt (R_mv HO_10.out))) (bwZ (bmv HB.out)));replace HO_6:=Az.mk (Kd.R_elder' (R_mv HO_6.out) (Kd.R_base ho0) hb);replace HO_7:=Az.mk (Kd.R_elder' (R_mv HO_7.out) (Kd.R_base ho0) hb);replace HO_9:=Az.mk (Kd.R_elder' (R_mv HO_9.out) (Kd.R_base ho0) hb);replace HO_10:=Az.mk (Kd.R_elder' (R_mv HO_10.out) (Kd.R_base ho0) hb);replace HB:=Az.mk (bwT (bmv HB.out) hb);(try clear hb);(try clear hb2);(try clear hk);(try clear hi);(try clear ho0);obtain ⟨Ao22,co22,eo22⟩:=Kd.R_slice HO430.out;subst eo22;have p431 : 0≤(x11_2 : Int):=dt_;have q431 : x11_2 < (t421.length : Int):=dt_;obtain ⟨ad431,e431,hx431_0⟩:=Kd.at_int (Kd.R_reads' HO_9.out).2.2 x11_2 p431 q431;cases e431;replace p431:=eq_true p431;replace q431:=eq_true q431) | ((with_reducible refine gate_builtin (b:=.append) (xs:=#[.tmp 46,.tmp 51]) rfl ?_);at_builtin;refine Kd.R_append (Kd.int .i64) (w0:=w) w.heap.size rfl (.tmp 46) (.tmp 51) 27 3 (.int .i64 0) 8 rfl Tryd.underlying27 info3 rfl (by decide) (by omega) u6 x6_2 (rd t421 x11_2) [.int .i64 (rd t421 x11_2)] (fun k_=>some k_≠(u7 : Value).ownBlock∧some k_≠(.slice (some ad431) t421.length co19 : Value).ownBlock∧some k_≠(.slice (some ad427) t424.length co20 : Value).ownBlock∧some k_≠(.slice Ao22 t428.length co22 : Value).ownBlock) (fun _=>False) rfl rfl ?aP (fun _ hk=>hk.elim) ?aF ?aO ?aB ?aS ?aL ?_;(case aP=>exact rfl);(case aB=>exact (bmv HB.out));(case aF=>exact (fun k_ hk=>⟨Kd.fresh' (Kd.R_lt (R_mv HO_7.out)) k_ hk,Kd.fresh' (Kd.R_lt (R_mv HO_9.out)) k_ hk,Kd.fresh' (Kd.R_lt (R_mv HO_10.out)) k_ hk,Kd.fresh' (Kd.R_lt (R_mv HO430.out)) k_ hk⟩));(case aO=>exact (R_mv (Kd.R_mono HO_6.out (fun _ hk=>⟨hk.1.1,⟨hk.1.2.1,⟨hk.1.2.2,hk.2⟩⟩⟩))));(case aS=>exact (bwZ (bmv HB.out)));(case aL=>have:=LMc17.out;omega);intro v433 w23 ho hb hg hat;rw [← Ny432.out] at ho;have HO434:=Az.mk (ho);replace HO_7:=Az.mk (Kd.R_after (ok:=(fun k_=>some k_≠(.slice (some ad431) t421.length co19 : Value).ownBlock∧some k_≠(.slice (some ad427) t424.length co20 : Value).ownBlock∧some k_≠(.slice Ao22 t428.length co22 : Value).ownBlock)) (R_mv (Kd.R_mono HO_7.out (fun _ hk=>⟨⟨hk.1.2.1,⟨hk.1.2.2,hk.2⟩⟩,hk.1.1⟩))) hg hat);replace HO_9:=Az.mk (Kd.R_after (ok:=(fun k_=>some k_≠(u7 : Value).ownBlock∧some k_≠(.slice (some ad427) t424.length co20 : Value).ownBlock∧some k_≠(.slice Ao22 t428.length co22 : Value).ownBlock)) (R_mv (Kd.R_mono HO_9.out (fun _ hk=>⟨⟨hk.1.2.1,⟨hk.1.2.2,hk.2⟩⟩,hk.1.1⟩))) hg hat);replace HO_10:=Az.mk (Kd.R_after (ok:=(fun k_=>some k_≠(u7 : Value).ownBlock∧some k_≠(.slice (some ad431) t421.length co19 : Value).ownBlock∧some k_≠(.slice Ao22 t428.length co22 : Value).ownBlock)) (R_mv (Kd.R_mono HO_10.out (fun _ hk=>⟨⟨hk.1.2.1,⟨hk.1.2.2,hk.2⟩⟩,hk.1.1⟩))) hg hat);replace HO430:=Az.mk (Kd.R_after (ok:=(fun k_=>some k_≠(u7 : Value).ownBlock∧some k_≠(.slice (some ad431) t421.length co19 : Value).ownBlock∧some k_≠(.slice (some ad427) t424.length co20 : Value).ownBlock)) (R_mv (Kd.R_mono HO430.out (fun _ hk=>⟨⟨hk.1.1.2,⟨hk.1.2,hk.2⟩⟩,hk.1.1.1.2⟩))) hg hat);replace HB:=Az.mk (hb);clear HO_6;clear ho hb hg hat;have p435 : 0≤(x11_2 : Int):=dt_;have q435 : x11_2 < (t424.length : Int):=dt_;obtain ⟨ad435,e435,hx435_0⟩:=Kd.at_int (Kd.R_reads' HO_10.out).2.2 x11_2 p435 q435;obtain rfl : ad427 = ad435:=(by injection e435);replace p435:=eq_true p435;replace q435:=eq_true q435) | ((with_reducible refine gate_builtin (b:=.append) (xs:=#[.tmp 53,.tmp 58]) rfl ?_);at_builtin;refine Kd.R_append (Kd.int .i64) (w0:=w) w.heap.size rfl (.tmp 53) (.tmp 58) 27 3 (.int .i64 0) 8 rfl Tryd.underlying27 info3 rfl (by decide) (by omega) u7 x7_2 (rd t424 x11_2) [.int .i64 (rd t424 x11_2)] (fun k_=>some k_≠(.slice (some ad431) t421.length co19 : Value).ownBlock∧some k_≠(.slice (some ad427) t424.length co20 : Value).ownBlock∧some k_≠(.slice Ao22 t428.length co22 : Value).ownBlock∧some k_≠(v433 : Value).ownBlock) (fun _=>False) rfl rfl ?aP (fun _ hk=>hk.elim) ?aF ?aO ?aB ?aS ?aL ?_;(case aP=>exact rfl);(case aB=>exact (bmv HB.out));(case aF=>exact (fun k_ hk=>⟨Kd.fresh' (Kd.R_lt (R_mv HO_9.out)) k_ hk,Kd.fresh' (Kd.R_lt (R_mv HO_10.out)) k_ hk,Kd.fresh' (Kd.R_lt (R_mv HO430.out)) k_ hk,Kd.fresh' (Kd.R_lt (R_mv HO434.out)) k_ hk⟩));(case aO=>exact (R_mv (Kd.R_mono HO_7.out (fun _ hk=>⟨hk.1.1,⟨hk.1.2.1,⟨hk.1.2.2,hk.2⟩⟩⟩))));(case aS=>exact (bwZ (bmv HB.out)));(case aL=>have:=LMc18.out;omega);intro v437 w24 ho hb hg hat;rw [← Ny436.out] at ho;have HO438:=Az.mk (ho);replace HO_9:=Az.mk (Kd.R_after (ok:=(fun k_=>some k_≠(.slice (some ad427) t424.length co20 : Value).ownBlock∧some k_≠(.slice Ao22 t428.length co22 : Value).ownBlock∧some k_≠(v433 : Value).ownBlock)) (R_mv (Kd.R_mono HO_9.out (fun _ hk=>⟨⟨hk.1.2.1,⟨hk.1.2.2,hk.2⟩⟩,hk.1.1⟩))) hg hat);replace HO_10:=Az.mk (Kd.R_after (ok:=(fun k_=>some k_≠(.slice (some ad431) t421.length co19 : Value).ownBlock∧some k_≠(.slice Ao22 t428.length co22 : Value).ownBlock∧some k_≠(v433 : Value).ownBlock)) (R_mv (Kd.R_mono HO_10.out (fun _ hk=>⟨⟨hk.1.2.1,⟨hk.1.2.2,hk.2⟩⟩,hk.1.1⟩))) hg hat);replace HO430:=Az.mk (Kd.R_after (ok:=(fun k_=>some k_≠(.slice (some ad431) t421.length co19 : Value).ownBlock∧some k_≠(.slice (some ad427) t424.length co20 : Value).ownBlock∧some k_≠(v433 : Value).ownBlock)) (R_mv (Kd.R_mono HO430.out (fun _ hk=>⟨⟨hk.1.2.1,⟨hk.1.2.2,hk.2⟩⟩,hk.1.1⟩))) hg hat);replace HO434:=Az.mk (Kd.R_after (ok:=(fun k_=>some k_≠(.slice (some ad431) t421.length co19 : Value).ownBlock∧some k_≠(.slice (some ad427) t424.length co20 : Value).ownBlock∧some k_≠(.slice Ao22 t428.length co22 : Value).ownBlock)) (R_mv (Kd.R_mono HO434.out (fun _ hk=>⟨⟨hk.2.1,⟨hk.2.2.1,hk.2.2.2⟩⟩,hk.1⟩))) hg hat);replace HB:=Az.mk (hb);clear HO_7;clear ho hb hg hat))
                   go_roundg k2
                   case measure=>have:=HJ2.out;have:=HK2.out;omega
                   case rel=>exact ⟨(y432),(y436),(wrap64 (x11_2 + 1)),rs_,H',⟨by have:=HJ2.out;have:=HK2.out;omega⟩,⟨R_mv (Kd.R_mono HO434.out (fun _ hk=>⟨hk.2,⟨hk.1.1,hk.1.2.1⟩⟩))⟩,⟨R_mv (Kd.R_mono HO438.out (fun _ hk=>⟨hk.2.2.2,⟨hk.1,hk.2.1⟩⟩))⟩,⟨R_mv (Kd.R_mono HO_9.out (fun _ hk=>⟨hk.1.2.2,⟨hk.2,hk.1.1⟩⟩))⟩,⟨R_mv (Kd.R_mono HO_10.out (fun _ hk=>⟨hk.1.2.2,⟨hk.2,hk.1.1⟩⟩))⟩,⟨bmv HB.out⟩⟩
                 · rw [if_neg c18] at H
                   exact absurd H (by simp)
               · rw [if_neg c17] at H
                 exact absurd H (by simp)
             · rw [if_neg c16] at H
               have c16b0 : decide (0 < (t428.length : Int)) = false:=decide_eq_false c16;have c16b1 : decide (0 < t428.length) = false:=decide_eq_false (by omega);clear c16;have H':=Az.mk H;clear H;obtain ⟨Ao25,co25,eo25⟩:=Kd.R_slice HO_9.out;subst eo25;obtain ⟨Ao26,co26,eo26⟩:=Kd.R_slice HO_10.out;subst eo26;have p427 : 0≤(x11_2 : Int):=dt_;have q427 : x11_2 < (t424.length : Int):=dt_;obtain ⟨ad427,e427,hx427_0⟩:=Kd.at_int (Kd.R_reads' HO_10.out).2.2 x11_2 p427 q427;cases e427;replace p427:=eq_true p427;replace q427:=eq_true q427
               go_wp2_with (first | ((with_reducible refine gate_callee (f:=38) rfl ?_);refine goesL_ (some 43) rfl rfl Tryd.func38 (by kernel_rfl) rfl #[.slice A0 l0.length c0,.int .i64 (rd t424 x11_2)] rfl tl_ ?_;(with_reducible refine (r4Resolution.calls k2 _ _ l0 (rd t424 x11_2) t428 _ ?side1 ?side2 A15.out).mono ?_);(case side1=>exact C_mv ((Kd.C_below HR0.out HB.out)));(case side2=>exact HC0.out);rintro e w27 ⟨v429,rfl,ho0,hb⟩;refine ⟨_,rfl,?_⟩;have HO430:=Az.mk (Kd.R_lower (Kd.R_new' (Kd.R_new' (Kd.R_new' (Kd.R_new' ho0 (Kd.R_lt (R_mv HO_6.out))) (Kd.R_lt (R_mv HO_7.out))) (Kd.R_lt (R_mv HO_9.out))) (Kd.R_lt (R_mv HO_10.out))) (bwZ (bmv HB.out)));replace HO_6:=Az.mk (Kd.R_elder' (R_mv HO_6.out) (Kd.R_base ho0) hb);replace HO_7:=Az.mk (Kd.R_elder' (R_mv HO_7.out) (Kd.R_base ho0) hb);replace HO_9:=Az.mk (Kd.R_elder' (R_mv HO_9.out) (Kd.R_base ho0) hb);replace HO_10:=Az.mk (Kd.R_elder' (R_mv HO_10.out) (Kd.R_base ho0) hb);replace HB:=Az.mk (bwT (bmv HB.out) hb);(try clear hb);(try clear hb2);(try clear hk);(try clear hi);(try clear ho0);obtain ⟨Ao28,co28,eo28⟩:=Kd.R_slice HO430.out;subst eo28))
               go_roundg k2
               case measure=>have:=HJ2.out;have:=HK2.out;omega
               case rel=>exact ⟨(x6_2),(x7_2),(wrap64 (x11_2 + 1)),rs_,H',⟨by have:=HJ2.out;have:=HK2.out;omega⟩,⟨R_mv (Kd.R_mono HO_6.out (fun _ hk=>⟨hk.1.1,⟨hk.1.2.1,hk.1.2.2⟩⟩))⟩,⟨R_mv (Kd.R_mono HO_7.out (fun _ hk=>⟨hk.1.1,⟨hk.1.2.1,hk.1.2.2⟩⟩))⟩,⟨R_mv (Kd.R_mono HO_9.out (fun _ hk=>⟨hk.1.1,⟨hk.1.2.1,hk.1.2.2⟩⟩))⟩,⟨R_mv (Kd.R_mono HO_10.out (fun _ hk=>⟨hk.1.1,⟨hk.1.2.1,hk.1.2.2⟩⟩))⟩,⟨bmv HB.out⟩⟩
           · rw [if_neg c14] at H
             exact absurd H (by simp)
         · rw [if_neg c13] at H
           exact absurd H (by simp)
       · rw [if_neg c12] at H
         have c12b0 : decide (x11_2 < (t421.length : Int)) = false:=decide_eq_false c12;clear c12;simp only [Option.some.injEq,Prod.mk.injEq] at H;obtain ⟨rfl,rfl⟩:=H;obtain ⟨Ao29,co29,eo29⟩:=Kd.R_slice HO_9.out;subst eo29
         go_wp2
         go_ret2
         exact ⟨_,_,by first | rfl | (simp [errW_none,errW_some] <;> rfl) | (simp [*,errW_none,errW_some] <;> rfl),R_mv (Kd.R_mono HO_6.out (fun _ hk=>hk.1)),R_mv (Kd.R_mono HO_7.out (fun _ hk=>hk.1)),bmv HB.out⟩
end Go.Proofs.YtbblomnhobodkaaDoor.PTw
namespace Go.Proofs.YtbblomnhobodkaaDoor.PTw
open Go.RowKit Go.Proofs.YtbblomnhobodkaaDoorW.PW Go.Proofs.YtbblomnhobodkaaDoorW.PL Go.Proofs.YtbblomnhobodkaaDoorW.PM
attribute [local go_sem] max2_int min2_int max_two min_two max_three min_three max_four min_four   -- for this text's walks alone
set_option linter.unusedVariables false
set_option linter.unusedSimpArgs false
def tree_Members.l0 : Nat→List (S29)→List Int→Int→Int→Option (List Int)
 | 0,_,_,_,_=>none
 | k + 1,x0,x3,x6,x7=>if x7 < x6 then (if 0≤(wrap64 (2 * x7)) then (if (wrap64 (2 * x7)) < (x0.length : Int) then (if (rd_T29 x0 (wrap64 (2 * x7))).f0 = true then (if x3.length < 17592186044416 then (tree_Members.l0 k x0 (x3 ++ [x7]) x6 (wrap64 (x7 + 1))) else (none)) else (tree_Members.l0 k x0 x3 x6 (wrap64 (x7 + 1)))) else (none)) else (none)) else (some x3)
def tree_Members.f (k : Nat) (l0 : List (S29)) : Option (List Int):=(tree_Leaves.f l0).bind fun t571=>(tree_Members.l0 k l0 ([] : List Int) t571 0)
theorem tree_Members.mono_l : ∀ k,(∀ y0 y1 y2 y3,LeO (tree_Members.l0 k y0 y1 y2 y3) (tree_Members.l0 (k + 1) y0 y1 y2 y3))
 | 0=>fun _ _ _ _ r h=>by simp [tree_Members.l0] at h
 | k + 1=>by
  have ih0:=tree_Members.mono_l k
  · intro y0 y1 y2 y3
    unfold tree_Members.l0
    repeat' first
    | (with_reducible exact ih0 _ _ _ _)
    | (with_reducible exact LeO.refl _)
    | (with_reducible exact LeO.none _)
    | (with_reducible refine LeO.ite ?_ ?_)
    | (with_reducible refine LeO.bind ?_ (fun _=>?_))
    | exact ih0 _ _ _ _
    | exact LeO.none _
    | refine LeO.ite ?_ ?_
    | refine LeO.bind ?_ (fun _=>?_)
theorem tree_Members.mono : ∀ a0 k,LeO (tree_Members.f k a0) (tree_Members.f (k + 1) a0):=by
 intro a0 k;have ih0:=tree_Members.mono_l k;unfold tree_Members.f
 repeat' first
  | (with_reducible exact ih0 _ _ _ _)
  | (with_reducible exact LeO.refl _)
  | (with_reducible exact LeO.none _)
  | (with_reducible refine LeO.ite ?_ ?_)
  | (with_reducible refine LeO.bind ?_ (fun _=>?_))
  | exact ih0 _ _ _ _
  | exact LeO.none _
  | refine LeO.ite ?_ ?_
  | refine LeO.bind ?_ (fun _=>?_)
set_option maxHeartbeats 8000000 in
set_option maxRecDepth 100000 in
theorem tree_Members.calls (k : Nat) (A0 : Option Addr) (c0 : Nat) (l0 : List (S29)) (r : List Int) (w : World) (hr0 : Kd.C k29 w A0 l0.length l0) (hc0 : l0.length≤c0) (h : tree_Members.f k l0 = some r) :
 Calls Tryd.prog 24 #[.slice A0 l0.length c0] w fun e w'=>∃ v0_ : Value,e = .returned (v0_)∧Kd.R (Kd.int .i64) 3 w' w.heap.size (fun _=>True) v0_ r∧Below w.heap.size w w':=by
 have HR0:=Az.mk hr0;have HC0:=Az.mk hc0;clear hr0 hc0;have HB:=Az.mk (Below.refl w.heap.size w);have H : ((tree_Leaves.f l0).bind fun t571=>(tree_Members.l0 k l0 ([] : List Int) t571 0)) = some r:=h;clear h;replace H:=Option.bind_eq_some_iff.mp H;obtain ⟨t571,A20,H⟩:=H;(try dsimp only at H);have A2:=Az.mk A20;clear A20;have H':=Az.mk H;clear H
 go_enter Tryd.func24,Tryd.ntmps24
 go_wp2_with (first | ((with_reducible refine gate_callee (f:=29) rfl ?_);refine goesL_ (some 6) rfl rfl Tryd.func29 (by kernel_rfl) rfl #[.slice A0 l0.length c0] rfl tl_ ?_;(with_reducible refine (tree_Leaves.calls _ _ l0 t571 _ ?side1 ?side2 A2.out).mono ?_);(case side1=>exact C_mv (HR0.out));(case side2=>exact HC0.out);rintro e w' ⟨rfl,⟨nd,rfl⟩⟩;refine ⟨_,rfl,?_⟩))
 go_loopg [3,7] k (fun kq v3 v7 w'=>∃ (x3_1 : List Int) (x7_1 : Int),v7 = .int .i64 x7_1∧Az (tree_Members.l0 kq l0 x3_1 t571 x7_1 = some r)∧Az (kq≤k)∧Az (Kd.R (Kd.int .i64) 3 w' w.heap.size (fun _=>True) v3 x3_1)∧Az (Below w.heap.size w w'))
 case atStart=>exact ⟨(([] : List Int)),(0),rs_,H',⟨Nat.le_refl _⟩,⟨by first | exact Kd.R_nil _ _ _ _ _ | exact Kd.N_nil _ _ _ _ _ | exact Kd.V_nil _ _ _ _ _ | exact Kd.Q_nil _ _ _ _ _ | exact Kd.S_nil _ _ _ _ _⟩,⟨bmv HB.out⟩⟩
 case round=>
  clear H';obtain ⟨x3_1,x7_1,rfl,HA,HK1,HO_3,HB⟩:=hrel
  cases gk with
  | zero=>exact absurd HA.out (by simp [tree_Members.l0])
  | succ k1=>
   have H:=HA.out;clear HA;simp only [tree_Members.l0] at H
   by_cases c3 : x7_1 < t571
   · rw [if_pos c3] at H
     have c3b0 : decide (x7_1 < t571) = true:=decide_eq_true c3;clear c3
     obtain ⟨ji4,hji4⟩ : ∃ j_ : Int,(wrap64 (2 * x7_1)) = j_:=⟨_,rfl⟩
     replace H : (if 0≤(ji4) then (if (ji4) < (l0.length : Int) then (if (rd_T29 l0 (ji4)).f0 = true then (if x3_1.length < 17592186044416 then (tree_Members.l0 k1 l0 (x3_1 ++ [x7_1]) t571 (wrap64 (x7_1 + 1))) else (none)) else (tree_Members.l0 k1 l0 x3_1 t571 (wrap64 (x7_1 + 1)))) else (none)) else (none)) = some r:=by first | (rw [hji4] at H;exact H) | (simp only [hji4] at H ⊢;exact H)
     have hji4w : (IntKind.i64.wrap (2 * x7_1)) = ji4:=(i64_w _).trans hji4
     by_cases c5 : 0≤(ji4)
     · rw [if_pos c5] at H
       have c5b0 : decide (0≤(ji4)) = true:=decide_eq_true c5;clear c5
       by_cases c6 : (ji4) < (l0.length : Int)
       · rw [if_pos c6] at H
         have c6b0 : decide ((ji4) < (l0.length : Int)) = true:=decide_eq_true c6;clear c6
         obtain ⟨bq7,hbq7⟩ : ∃ b_ : Bool,b_ = ((rd_T29 l0 (ji4)).f0):=⟨_,rfl⟩
         replace H : (if bq7 = true then (if x3_1.length < 17592186044416 then (tree_Members.l0 k1 l0 (x3_1 ++ [x7_1]) t571 (wrap64 (x7_1 + 1))) else (none)) else (tree_Members.l0 k1 l0 x3_1 t571 (wrap64 (x7_1 + 1)))) = some r:=by rw [← hbq7] at H;exact H
         have Nbq7:=Az.mk hbq7;clear hbq7
         by_cases c8 : bq7 = true
         · subst c8
           rw [if_pos rfl] at H
           by_cases c9 : x3_1.length < 17592186044416
           · rw [if_pos c9] at H
             have LMc9:=Az.mk c9;clear c9
             obtain ⟨y573,hy573⟩ : ∃ y_ : List Int,y_ = (x3_1 ++ [x7_1]):=⟨_,rfl⟩
             replace H : (tree_Members.l0 k1 l0 y573 t571 (wrap64 (x7_1 + 1))) = some r:=by first | (rw [hy573];with_reducible exact H) | (have H2_:=(Option.bind_some _ _).symm.trans H;rw [hy573];with_reducible exact H2_) | (have H2_:=(Option.bind_some _ _).symm.trans H;with_reducible exact H2_) | with_reducible exact H | (rw [hy573];exact H) | exact H
             have Ny573:=Az.mk hy573;clear hy573;have H':=Az.mk H;clear H;have p572 : 0≤((ji4) : Int):=dt_;have q572 : (ji4) < (l0.length : Int):=dt_;obtain ⟨ad572,A572_5,c572_5,e572,hx572_0,hx572_1,hx572_2,hx572_3,hx572_4,hx572_5,hl572_5,hi572_5⟩:=at_T29 HR0.out (ji4) p572 q572
             (try rw [← Nbq7.out] at hx572_0)
             cases e572;replace hx572_0:=hbc HB.out hx572_0;replace hx572_1:=hbc HB.out hx572_1;replace hx572_2:=hbc HB.out hx572_2;replace hx572_3:=hbc HB.out hx572_3;replace hx572_4:=hbc HB.out hx572_4;replace hx572_5:=hbc HB.out hx572_5;have HR572_5:=Az.mk hi572_5;have HC572_5:=Az.mk hl572_5;clear hi572_5 hl572_5;replace p572:=eq_true p572;replace q572:=eq_true q572
             go_wp2_with (first | ((with_reducible refine gate_builtin (b:=.append) (xs:=#[.tmp 16,.tmp 18]) rfl ?_);at_builtin;refine Kd.R_append (Kd.int .i64) (w0:=w) w.heap.size rfl (.tmp 16) (.tmp 18) 27 3 (.int .i64 0) 8 rfl Tryd.underlying27 info3 rfl (by decide) (by omega) u3 x3_1 x7_1 [.int .i64 x7_1] (fun _=>True) (fun _=>False) rfl rfl ?aP (fun _ hk=>hk.elim) ?aF ?aO ?aB ?aS ?aL ?_;(case aP=>exact rfl);(case aB=>exact (bmv HB.out));(case aF=>exact (fun _ _=>trivial));(case aO=>exact (R_mv HO_3.out));(case aS=>exact (bwZ (bmv HB.out)));(case aL=>have:=LMc9.out;omega);intro v574 w10 ho hb hg hat;rw [← Ny573.out] at ho;have HO575:=Az.mk (ho);replace HB:=Az.mk (hb);clear HO_3;clear ho hb hg hat))
             go_roundg k1
             case measure=>have:=HK1.out;omega
             case rel=>exact ⟨(y573),(wrap64 (x7_1 + 1)),rs_,H',⟨by have:=HK1.out;omega⟩,⟨R_mv HO575.out⟩,⟨bmv HB.out⟩⟩
           · rw [if_neg c9] at H
             exact absurd H (by simp)
         · replace c8:=Bool.eq_false_iff.mpr c8
           subst c8;rw [if_neg (show ¬ (false = true) by decide)] at H;have H':=Az.mk H;clear H;have p572 : 0≤((ji4) : Int):=dt_;have q572 : (ji4) < (l0.length : Int):=dt_;obtain ⟨ad572,A572_5,c572_5,e572,hx572_0,hx572_1,hx572_2,hx572_3,hx572_4,hx572_5,hl572_5,hi572_5⟩:=at_T29 HR0.out (ji4) p572 q572
           (try rw [← Nbq7.out] at hx572_0)
           cases e572;replace hx572_0:=hbc HB.out hx572_0;replace hx572_1:=hbc HB.out hx572_1;replace hx572_2:=hbc HB.out hx572_2;replace hx572_3:=hbc HB.out hx572_3;replace hx572_4:=hbc HB.out hx572_4;replace hx572_5:=hbc HB.out hx572_5;have HR572_5:=Az.mk hi572_5;have HC572_5:=Az.mk hl572_5;clear hi572_5 hl572_5;replace p572:=eq_true p572;replace q572:=eq_true q572
           go_wp2
           go_roundg k1
           case measure=>have:=HK1.out;omega
           case rel=>exact ⟨(x3_1),(wrap64 (x7_1 + 1)),rs_,H',⟨by have:=HK1.out;omega⟩,⟨R_mv HO_3.out⟩,⟨bmv HB.out⟩⟩
       · rw [if_neg c6] at H
         exact absurd H (by simp)
     · rw [if_neg c5] at H
       exact absurd H (by simp)
   · rw [if_neg c3] at H
     have c3b0 : decide (x7_1 < t571) = false:=decide_eq_false c3;clear c3;obtain rfl:=Option.some.inj H
     go_wp2
     go_ret
     exact ⟨_,by first | rfl | (simp [errW_none,errW_some] <;> rfl) | (simp [*,errW_none,errW_some] <;> rfl),R_mv HO_3.out,bmv HB.out⟩
end Go.Proofs.YtbblomnhobodkaaDoor.PTw
namespace Go.Proofs.YtbblomnhobodkaaDoor.PTw
open Go.RowKit Go.Proofs.YtbblomnhobodkaaDoorW.PW Go.Proofs.YtbblomnhobodkaaDoorW.PL Go.Proofs.YtbblomnhobodkaaDoorW.PM
attribute [local go_sem] max2_int min2_int max_two min_two max_three min_three max_four min_four   -- for this text's walks alone
set_option linter.unusedVariables false
set_option linter.unusedSimpArgs false
structure WfOp (o : S32) : Prop where
 f0 : (Lit.int .i64 o.f0).wf = true
 f1 : (Lit.int .i64 o.f1).wf = true
 v1 : (Lit.int .i64 o.f2.f1).wf = true
 v2 : (Lit.int .i64 o.f2.f2).wf = true
 v3 : (Lit.int .i64 o.f2.f3).wf = true
 v4 : (Lit.int .i64 o.f2.f4).wf = true
 f3 : (Lit.int .i64 o.f3).wf = true
 late : o.f2.f5.length≤maxLen∧∀ x ∈ o.f2.f5,(Lit.int .i64 x).wf = true
end Go.Proofs.YtbblomnhobodkaaDoor.PTw
