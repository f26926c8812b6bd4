/- What this claim reaches of longer texts of this session. -/
import Derived.Test.YtbblomnhobodkaaDoorPTwx0
import Derived.Test.YtbblomnhobodkaaDoorPTwx1
import Derived.Test.YtbblomnhobodkaaDoorPTwx7
import Derived.Test.YtbblomnhobodkaaDoorPTwx8
import Derived.Test.YtbblomnhobodkaaDoorPTwx15
namespace Go.Proofs.YtbblomnhobodkaaDoor.PTw
open Go.RowKit Go.Proofs.YtbblomnhobodkaaDoorW.PW Go.Proofs.YtbblomnhobodkaaDoorW.PL Go.Proofs.YtbblomnhobodkaaDoorW.PM
attribute [local go_sem] max2_int min2_int max_two min_two max_three min_three max_four min_four   -- for this text's walks alone
set_option linter.unusedVariables false
set_option linter.unusedSimpArgs false
def r3Parent.l0 : Nat→Int→Int→Int→Int→Option (Int)
 | 0,_,_,_,_=>none
 | k + 1,x0,x1,x5,x6=>if x6 < (wrap64 ((wrap64 (2 * x1)) - 1)) then (if x6 = x0 then (r3Parent.l0 k x0 x1 x5 (wrap64 (x6 + 1))) else ((r3Under.f k x0 x6 x1).bind fun t404=>(if t404 = true then (if x5 < 0 then (r3Parent.l0 k x0 x1 x6 (wrap64 (x6 + 1))) else ((r3Level.f k x6).bind fun t405=>((r3Level.f k x5).bind fun t406=>(if t405 < t406 then (r3Parent.l0 k x0 x1 x6 (wrap64 (x6 + 1))) else (r3Parent.l0 k x0 x1 x5 (wrap64 (x6 + 1))))))) else (r3Parent.l0 k x0 x1 x5 (wrap64 (x6 + 1)))))) else (some x5)
def r3Parent.f (k : Nat) (a0 : Int) (a1 : Int) : Option (Int):=r3Parent.l0 k a0 a1 (-1) 0
theorem r3Parent.mono_l : ∀ k,(∀ y0 y1 y2 y3,LeO (r3Parent.l0 k y0 y1 y2 y3) (r3Parent.l0 (k + 1) y0 y1 y2 y3))
 | 0=>fun _ _ _ _ r h=>by simp [r3Parent.l0] at h
 | k + 1=>by
  have ih0:=r3Parent.mono_l k
  · intro y0 y1 y2 y3
    unfold r3Parent.l0
    repeat' first
    | (with_reducible exact ih0 _ _ _ _)
    | (with_reducible exact r3Level.mono _ _)
    | (with_reducible exact r3Under.mono _ _ _ _)
    | (with_reducible exact LeO.refl _)
    | (with_reducible exact LeO.none _)
    | (with_reducible refine LeO.ite ?_ ?_)
    | (with_reducible refine LeO.bind ?_ (fun _=>?_))
    | exact ih0 _ _ _ _
    | exact r3Level.mono _ _
    | exact r3Under.mono _ _ _ _
    | exact LeO.none _
    | refine LeO.ite ?_ ?_
    | refine LeO.bind ?_ (fun _=>?_)
theorem r3Parent.mono : ∀ a0 a1 k,LeO (r3Parent.f k a0 a1) (r3Parent.f (k + 1) a0 a1):=by
 intro a0 a1 k
 have ih0:=r3Parent.mono_l k
 unfold r3Parent.f
 repeat' first
  | (with_reducible exact ih0 _ _ _ _)
  | (with_reducible exact r3Level.mono _ _)
  | (with_reducible exact r3Under.mono _ _ _ _)
  | (with_reducible exact LeO.refl _)
  | (with_reducible exact LeO.none _)
  | (with_reducible refine LeO.ite ?_ ?_)
  | (with_reducible refine LeO.bind ?_ (fun _=>?_))
  | exact ih0 _ _ _ _
  | exact r3Level.mono _ _
  | exact r3Under.mono _ _ _ _
  | exact LeO.none _
  | refine LeO.ite ?_ ?_
  | refine LeO.bind ?_ (fun _=>?_)
set_option maxHeartbeats 8000000 in
set_option maxRecDepth 100000 in
theorem r3Parent.calls (k : Nat) (a0 : Int) (a1 : Int) (r : Int) (w : World) (h : r3Parent.f k a0 a1 = some r) :
 Calls Tryd.prog 78 #[.int .i64 a0,.int .i64 a1] w fun e w'=>e = .returned (.int .i64 r)∧Drawn0 w w':=by
 have H : (r3Parent.l0 k a0 a1 (-1) 0) = some r:=h
 clear h
 have H':=Az.mk H
 clear H
 go_enter Tryd.func78,Tryd.ntmps78
 go_wp2
 go_loopg [5,6] k (fun kq v5 v6 w'=>∃ (x5_1 : Int) (x6_1 : Int),v5 = .int .i64 x5_1∧v6 = .int .i64 x6_1∧Az (r3Parent.l0 kq a0 a1 x5_1 x6_1 = some r)∧Az (kq≤k)∧Drawn0 w w')
 case atStart=>exact ⟨((-1)),(0),(by first | rfl | (simp;done) | (simp [*];done)),(by first | rfl | (simp;done) | (simp [*];done)),H',⟨Nat.le_refl _⟩,by repeat (first | exact Drawn0.refl _ | apply Drawn0.step)⟩
 case round=>
  clear H'
  obtain ⟨x5_1,x6_1,rfl,rfl,HA,HK1,⟨m1,rfl⟩⟩:=hrel
  cases gk with
  | zero=>exact absurd HA.out (by simp [r3Parent.l0])
  | succ k1=>
   have H:=HA.out
   clear HA
   simp only [r3Parent.l0] at H
   by_cases c3 : x6_1 < (wrap64 ((wrap64 (2 * a1)) - 1))
   · rw [if_pos c3] at H
     have c3b0 : decide (x6_1 < (wrap64 ((wrap64 (2 * a1)) - 1))) = true:=decide_eq_true c3
     clear c3
     by_cases c4 : x6_1 = a0
     · rw [if_pos c4] at H
       have c4b0 : (x6_1 == a0) = true:=beq_iff_eq.mpr c4
       have c4b1 : (x6_1 != a0) = false:=bne_eq_false_iff_eq.mpr c4
       clear c4
       have H':=Az.mk H
       clear H
       go_wp2
       go_roundg k1
       case measure=>have:=HK1.out;omega
       case rel=>exact ⟨(x5_1),(wrap64 (x6_1 + 1)),(by first | rfl | (simp;done) | (simp [*];done)),(by first | rfl | (simp;done) | (simp [*];done)),H',⟨by have:=HK1.out;omega⟩,by repeat (first | exact Drawn0.refl _ | apply Drawn0.step)⟩
     · rw [if_neg c4] at H
       have c4b0 : (x6_1 == a0) = false:=beq_eq_false_iff_ne.mpr c4
       have c4b1 : (x6_1 != a0) = true:=bne_iff_ne.mpr c4
       replace H:=Option.bind_eq_some_iff.mp H
       obtain ⟨t404,A50,H⟩:=H
       replace H : (if t404 = true then (if x5_1 < 0 then (r3Parent.l0 k1 a0 a1 x6_1 (wrap64 (x6_1 + 1))) else ((r3Level.f k1 x6_1).bind fun t405=>((r3Level.f k1 x5_1).bind fun t406=>(if t405 < t406 then (r3Parent.l0 k1 a0 a1 x6_1 (wrap64 (x6_1 + 1))) else (r3Parent.l0 k1 a0 a1 x5_1 (wrap64 (x6_1 + 1))))))) else (r3Parent.l0 k1 a0 a1 x5_1 (wrap64 (x6_1 + 1)))) = some r:=H
       have A5:=Az.mk A50
       clear A50
       by_cases c6 : t404 = true
       · subst c6
         have H1 : (if x5_1 < 0 then (r3Parent.l0 k1 a0 a1 x6_1 (wrap64 (x6_1 + 1))) else ((r3Level.f k1 x6_1).bind fun t405=>((r3Level.f k1 x5_1).bind fun t406=>(if t405 < t406 then (r3Parent.l0 k1 a0 a1 x6_1 (wrap64 (x6_1 + 1))) else (r3Parent.l0 k1 a0 a1 x5_1 (wrap64 (x6_1 + 1))))))) = some r:=by rw [if_pos rfl] at H;exact H
         clear H
         have H:=H1
         clear H1
         by_cases c7 : x5_1 < 0
         · rw [if_pos c7] at H
           have c7b0 : decide (x5_1 < 0) = true:=decide_eq_true c7
           clear c7
           have H':=Az.mk H
           clear H
           go_wp2_with (first | (go_at_call 26;(with_reducible refine (r3Under.calls k1 a0 x6_1 a1 true _ A5.out).mono ?_);rintro e w' ⟨rfl,⟨nd,rfl⟩⟩))
           go_roundg k1
           case measure=>have:=HK1.out;omega
           case rel=>exact ⟨(x6_1),(wrap64 (x6_1 + 1)),(by first | rfl | (simp;done) | (simp [*];done)),(by first | rfl | (simp;done) | (simp [*];done)),H',⟨by have:=HK1.out;omega⟩,by repeat (first | exact Drawn0.refl _ | apply Drawn0.step)⟩
         · rw [if_neg c7] at H
           have c7b0 : decide (x5_1 < 0) = false:=decide_eq_false c7
           clear c7
           replace H:=Option.bind_eq_some_iff.mp H
           obtain ⟨t405,A80,H⟩:=H
           replace H : ((r3Level.f k1 x5_1).bind fun t406=>(if t405 < t406 then (r3Parent.l0 k1 a0 a1 x6_1 (wrap64 (x6_1 + 1))) else (r3Parent.l0 k1 a0 a1 x5_1 (wrap64 (x6_1 + 1))))) = some r:=H
           have A8:=Az.mk A80
           clear A80
           replace H:=Option.bind_eq_some_iff.mp H
           obtain ⟨t406,A90,H⟩:=H
           replace H : (if t405 < t406 then (r3Parent.l0 k1 a0 a1 x6_1 (wrap64 (x6_1 + 1))) else (r3Parent.l0 k1 a0 a1 x5_1 (wrap64 (x6_1 + 1)))) = some r:=H
           have A9:=Az.mk A90
           clear A90
           by_cases c10 : t405 < t406
           · rw [if_pos c10] at H
             have c10b0 : decide (t405 < t406) = true:=decide_eq_true c10
             clear c10
             have H':=Az.mk H
             clear H
             go_wp2_with (first | (go_at_call 26;(with_reducible refine (r3Under.calls k1 a0 x6_1 a1 true _ A5.out).mono ?_);rintro e w' ⟨rfl,⟨nd,rfl⟩⟩) | (go_at_call 77;(with_reducible refine (r3Level.calls k1 x6_1 t405 _ A8.out).mono ?_);rintro e w' ⟨rfl,⟨nd,rfl⟩⟩) | (go_at_call 77;(with_reducible refine (r3Level.calls k1 x5_1 t406 _ A9.out).mono ?_);rintro e w' ⟨rfl,⟨nd,rfl⟩⟩))
             go_roundg k1
             case measure=>have:=HK1.out;omega
             case rel=>exact ⟨(x6_1),(wrap64 (x6_1 + 1)),(by first | rfl | (simp;done) | (simp [*];done)),(by first | rfl | (simp;done) | (simp [*];done)),H',⟨by have:=HK1.out;omega⟩,by repeat (first | exact Drawn0.refl _ | apply Drawn0.step)⟩
           · rw [if_neg c10] at H
             have c10b0 : decide (t405 < t406) = false:=decide_eq_false c10
             clear c10
             have H':=Az.mk H
             clear H
             go_wp2_with (first | (go_at_call 26;(with_reducible refine (r3Under.calls k1 a0 x6_1 a1 true _ A5.out).mono ?_);rintro e w' ⟨rfl,⟨nd,rfl⟩⟩) | (go_at_call 77;(with_reducible refine (r3Level.calls k1 x6_1 t405 _ A8.out).mono ?_);rintro e w' ⟨rfl,⟨nd,rfl⟩⟩) | (go_at_call 77;(with_reducible refine (r3Level.calls k1 x5_1 t406 _ A9.out).mono ?_);rintro e w' ⟨rfl,⟨nd,rfl⟩⟩))
             go_roundg k1
             case measure=>have:=HK1.out;omega
             case rel=>exact ⟨(x5_1),(wrap64 (x6_1 + 1)),(by first | rfl | (simp;done) | (simp [*];done)),(by first | rfl | (simp;done) | (simp [*];done)),H',⟨by have:=HK1.out;omega⟩,by repeat (first | exact Drawn0.refl _ | apply Drawn0.step)⟩
       · replace c6:=Bool.eq_false_iff.mpr c6
         subst c6
         have H1 : (r3Parent.l0 k1 a0 a1 x5_1 (wrap64 (x6_1 + 1))) = some r:=by rw [if_neg (show ¬ (false = true) by decide)] at H;exact H
         clear H
         have H:=H1
         clear H1
         have H':=Az.mk H
         clear H
         go_wp2_with (first | (go_at_call 26;(with_reducible refine (r3Under.calls k1 a0 x6_1 a1 false _ A5.out).mono ?_);rintro e w' ⟨rfl,⟨nd,rfl⟩⟩))
         go_roundg k1
         case measure=>have:=HK1.out;omega
         case rel=>exact ⟨(x5_1),(wrap64 (x6_1 + 1)),(by first | rfl | (simp;done) | (simp [*];done)),(by first | rfl | (simp;done) | (simp [*];done)),H',⟨by have:=HK1.out;omega⟩,by repeat (first | exact Drawn0.refl _ | apply Drawn0.step)⟩
   · rw [if_neg c3] at H
     have c3b0 : decide (x6_1 < (wrap64 ((wrap64 (2 * a1)) - 1))) = false:=decide_eq_false c3
     clear c3
     obtain rfl:=Option.some.inj H
     go_wp2
     go_ret
     exact ⟨by first | rfl | (simp;done) | (simp [*];done),by repeat (first | exact Drawn0.refl _ | apply Drawn0.step)⟩
def r3Path.l0 : Nat→Int→List Int→Int→Option (List Int)
 | 0,_,_,_=>none
 | k + 1,x1,x5,x6=>if x6≥0 then (if x5.length < 17592186044416 then ((r3Parent.f k x6 x1).bind fun t411=>(r3Path.l0 k x1 (x5 ++ [x6]) t411)) else (none)) else (some x5)
def r3Path.f (k : Nat) (a0 : Int) (a1 : Int) : Option (List Int):=(r3Parent.f k a0 a1).bind fun t407=>(r3Path.l0 k a1 ([] : List Int) t407)
theorem r3Path.mono_l : ∀ k,(∀ y0 y1 y2,LeO (r3Path.l0 k y0 y1 y2) (r3Path.l0 (k + 1) y0 y1 y2))
 | 0=>fun _ _ _ r h=>by simp [r3Path.l0] at h
 | k + 1=>by
  have ih0:=r3Path.mono_l k
  · intro y0 y1 y2
    unfold r3Path.l0
    repeat' first
    | (with_reducible exact ih0 _ _ _)
    | (with_reducible exact r3Parent.mono _ _ _)
    | (with_reducible exact LeO.refl _)
    | (with_reducible exact LeO.none _)
    | (with_reducible refine LeO.ite ?_ ?_)
    | (with_reducible refine LeO.bind ?_ (fun _=>?_))
    | exact ih0 _ _ _
    | exact r3Parent.mono _ _ _
    | exact LeO.none _
    | refine LeO.ite ?_ ?_
    | refine LeO.bind ?_ (fun _=>?_)
theorem r3Path.mono : ∀ a0 a1 k,LeO (r3Path.f k a0 a1) (r3Path.f (k + 1) a0 a1):=by
 intro a0 a1 k
 have ih0:=r3Path.mono_l k
 unfold r3Path.f
 repeat' first
  | (with_reducible exact ih0 _ _ _)
  | (with_reducible exact r3Parent.mono _ _ _)
  | (with_reducible exact LeO.refl _)
  | (with_reducible exact LeO.none _)
  | (with_reducible refine LeO.ite ?_ ?_)
  | (with_reducible refine LeO.bind ?_ (fun _=>?_))
  | exact ih0 _ _ _
  | exact r3Parent.mono _ _ _
  | exact LeO.none _
  | refine LeO.ite ?_ ?_
  | refine LeO.bind ?_ (fun _=>?_)
set_option maxHeartbeats 8000000 in
set_option maxRecDepth 100000 in
theorem r3Path.calls (k : Nat) (a0 : Int) (a1 : Int) (r : List Int) (w : World) (h : r3Path.f k a0 a1 = some r) :
 Calls Tryd.prog 63 #[.int .i64 a0,.int .i64 a1] w fun e w'=>∃ v0_ : Value,e = .returned (v0_)∧Kd.R (Kd.int .i64) 3 w' w.heap.size (fun _=>True) v0_ r∧Below w.heap.size w w':=by
 have HB:=Az.mk (Below.refl w.heap.size w)
 have H : ((r3Parent.f k a0 a1).bind fun t407=>(r3Path.l0 k a1 ([] : List Int) t407)) = some r:=h
 clear h
 replace H:=Option.bind_eq_some_iff.mp H
 obtain ⟨t407,A30,H⟩:=H
 replace H : (r3Path.l0 k a1 ([] : List Int) t407) = some r:=H
 have A3:=Az.mk A30
 clear A30
 have H':=Az.mk H
 clear H
 go_enter Tryd.func63,Tryd.ntmps63
 go_wp2_with (first | ((with_reducible refine gate_callee (f:=78) rfl ?_);refine goesL_ (some 9) rfl rfl Tryd.func78 (by kernel_rfl) rfl #[.int .i64 a0,.int .i64 a1] rfl (by (try simp only [List.map_toArray,List.map_cons,List.map_nil]);first | done | rfl | (simp only [List.length_drop,List.length_take];rfl)) ?_;(with_reducible refine (r3Parent.calls k a0 a1 t407 _ A3.out).mono ?_);rintro e w' ⟨rfl,⟨nd,rfl⟩⟩;refine ⟨_,rfl,?_⟩))
 go_loopg [5,6] k (fun kq v5 v6 w'=>∃ (x5_1 : List Int) (x6_1 : Int),v6 = .int .i64 x6_1∧Az (r3Path.l0 kq a1 x5_1 x6_1 = some r)∧Az (kq≤k)∧Az (Kd.R (Kd.int .i64) 3 w' w.heap.size (fun _=>True) v5 x5_1)∧Az (Below w.heap.size w w'))
 case atStart=>exact ⟨(([] : List Int)),(t407),(by first | rfl | (simp;done) | (simp [*];done)),H',⟨Nat.le_refl _⟩,⟨by first | exact Kd.R_nil _ _ _ _ _ | exact Kd.N_nil _ _ _ _ _ | exact Kd.V_nil _ _ _ _ _ | exact Kd.Q_nil _ _ _ _ _ | exact Kd.S_nil _ _ _ _ _⟩,⟨bmv HB.out⟩⟩
 case round=>
  clear H'
  obtain ⟨x5_1,x6_1,rfl,HA,HK1,HO_5,HB⟩:=hrel
  cases gk with
  | zero=>exact absurd HA.out (by simp [r3Path.l0])
  | succ k1=>
   have H:=HA.out
   clear HA
   simp only [r3Path.l0] at H
   by_cases c4 : x6_1≥0
   · rw [if_pos c4] at H
     have c4b0 : decide (0≤x6_1) = true:=decide_eq_true c4
     clear c4
     by_cases c5 : x5_1.length < 17592186044416
     · rw [if_pos c5] at H
       have LMc5:=Az.mk c5
       clear c5
       obtain ⟨y408,hy408⟩ : ∃ y_ : List Int,y_ = (x5_1 ++ [x6_1]):=⟨_,rfl⟩
       replace H : ((r3Parent.f k1 x6_1 a1).bind fun t411=>(r3Path.l0 k1 a1 y408 t411)) = some r:=by first | (rw [hy408];with_reducible exact H) | (have H2_:=(Option.bind_some _ _).symm.trans H;rw [hy408];with_reducible exact H2_) | (have H2_:=(Option.bind_some _ _).symm.trans H;with_reducible exact H2_) | with_reducible exact H | (rw [hy408];exact H) | exact H
       have Ny408:=Az.mk hy408
       clear hy408
       replace H:=Option.bind_eq_some_iff.mp H
       obtain ⟨t411,A60,H⟩:=H
       replace H : (r3Path.l0 k1 a1 y408 t411) = some r:=H
       have A6:=Az.mk A60
       clear A60
       have H':=Az.mk H
       clear H
       go_wp2_with (first | ((with_reducible refine gate_builtin (b:=.append) (xs:=#[.tmp 15,.tmp 17]) rfl ?_);at_builtin;refine Kd.R_append (Kd.int .i64) (w0:=w) w.heap.size rfl (.tmp 15) (.tmp 17) 27 3 (.int .i64 0) 8 rfl Tryd.underlying27 info3 rfl (by decide) (by omega) u5 x5_1 x6_1 [.int .i64 x6_1] (fun _=>True) (fun _=>False) rfl rfl ?aP (fun _ hk=>hk.elim) ?aF ?aO ?aB ?aS ?aL ?_;(case aP=>exact rfl);(case aB=>exact (bmv HB.out));(case aF=>exact (fun _ _=>trivial));(case aO=>exact (R_mv HO_5.out));(case aS=>exact (bwZ (bmv HB.out)));(case aL=>have:=LMc5.out;omega);intro v409 w7 ho hb hg hat;rw [← Ny408.out] at ho;have n0_:=Az.mk (hb);have n1_:=Az.mk (ho);clear HB;clear HO_5;have HB:=n0_;have HO410:=n1_;clear n0_ n1_;clear ho hb hg hat) | ((with_reducible refine gate_callee (f:=78) rfl ?_);refine goesL_ (some 14) rfl rfl Tryd.func78 (by kernel_rfl) rfl #[.int .i64 x6_1,.int .i64 a1] rfl (by (try simp only [List.map_toArray,List.map_cons,List.map_nil]);first | done | rfl | (simp only [List.length_drop,List.length_take];rfl)) ?_;(with_reducible refine (r3Parent.calls k1 x6_1 a1 t411 _ A6.out).mono ?_);rintro e w' ⟨rfl,⟨nd,rfl⟩⟩;refine ⟨_,rfl,?_⟩))
       go_roundg k1
       case measure=>have:=HK1.out;omega
       case rel=>exact ⟨(y408),(t411),(by first | rfl | (simp;done) | (simp [*];done)),H',⟨by have:=HK1.out;omega⟩,⟨R_mv HO410.out⟩,⟨bmv HB.out⟩⟩
     · rw [if_neg c5] at H
       exact absurd H (by simp)
   · rw [if_neg c4] at H
     have c4b0 : decide (0≤x6_1) = false:=decide_eq_false c4
     clear c4
     obtain rfl:=Option.some.inj H
     go_wp2
     go_ret
     exact ⟨_,by first | rfl | (simp [errW_none,errW_some] <;> rfl) | (simp [*,errW_none,errW_some] <;> rfl),R_mv HO_5.out,bmv HB.out⟩
def r3Sibling.f (k : Nat) (a0 : Int) (a1 : Int) : Option (Int):=(r3Parent.f k a0 a1).bind fun t412=>(some (wrap64 ((wrap64 (t412 + t412)) - a0)))
theorem r3Sibling.mono : ∀ a0 a1 k,LeO (r3Sibling.f k a0 a1) (r3Sibling.f (k + 1) a0 a1):=by
 intro a0 a1 k
 unfold r3Sibling.f
 repeat' first
  | (with_reducible exact r3Parent.mono _ _ _)
  | (with_reducible exact LeO.refl _)
  | (with_reducible exact LeO.none _)
  | (with_reducible refine LeO.ite ?_ ?_)
  | (with_reducible refine LeO.bind ?_ (fun _=>?_))
  | exact r3Parent.mono _ _ _
  | exact LeO.none _
  | refine LeO.ite ?_ ?_
  | refine LeO.bind ?_ (fun _=>?_)
set_option maxHeartbeats 8000000 in
set_option maxRecDepth 100000 in
theorem r3Sibling.calls (k : Nat) (a0 : Int) (a1 : Int) (r : Int) (w : World) (h : r3Sibling.f k a0 a1 = some r) :
 Calls Tryd.prog 79 #[.int .i64 a0,.int .i64 a1] w fun e w'=>e = .returned (.int .i64 r)∧Drawn0 w w':=by
 have H : ((r3Parent.f k a0 a1).bind fun t412=>(some (wrap64 ((wrap64 (t412 + t412)) - a0)))) = some r:=h
 clear h
 replace H:=Option.bind_eq_some_iff.mp H
 obtain ⟨t412,A30,H⟩:=H
 replace H : (some (wrap64 ((wrap64 (t412 + t412)) - a0))) = some r:=H
 have A3:=Az.mk A30
 clear A30
 obtain rfl:=Option.some.inj H
 go_enter Tryd.func79,Tryd.ntmps79
 go_wp2_with (first | ((with_reducible refine gate_callee (f:=78) rfl ?_);refine goesL_ (some 8) rfl rfl Tryd.func78 (by kernel_rfl) rfl #[.int .i64 a0,.int .i64 a1] rfl (by (try simp only [List.map_toArray,List.map_cons,List.map_nil]);first | done | rfl | (simp only [List.length_drop,List.length_take];rfl)) ?_;(with_reducible refine (r3Parent.calls k a0 a1 t412 _ A3.out).mono ?_);rintro e w' ⟨rfl,⟨nd,rfl⟩⟩;refine ⟨_,rfl,?_⟩))
 go_ret
 exact ⟨by first | rfl | (simp;done) | (simp [*];done),by repeat (first | exact Drawn0.refl _ | apply Drawn0.step)⟩
def r3Copath.l0 : Nat→Int→Int→List Int→Option (List Int)
 | 0,_,_,_=>none
 | k + 1,x0,x1,x5=>(r3Parent.f k x0 x1).bind fun t413=>(if t413≥0 then ((r3Sibling.f k x0 x1).bind fun t414=>(if x5.length < 17592186044416 then ((r3Parent.f k x0 x1).bind fun t418=>(r3Copath.l0 k t418 x1 (x5 ++ [t414]))) else (none))) else (some x5))
def r3Copath.f (k : Nat) (a0 : Int) (a1 : Int) : Option (List Int):=r3Copath.l0 k a0 a1 ([] : List Int)
theorem r3Copath.mono_l : ∀ k,(∀ y0 y1 y2,LeO (r3Copath.l0 k y0 y1 y2) (r3Copath.l0 (k + 1) y0 y1 y2))
 | 0=>fun _ _ _ r h=>by simp [r3Copath.l0] at h
 | k + 1=>by
  have ih0:=r3Copath.mono_l k
  · intro y0 y1 y2
    unfold r3Copath.l0
    repeat' first
    | (with_reducible exact ih0 _ _ _)
    | (with_reducible exact r3Parent.mono _ _ _)
    | (with_reducible exact r3Sibling.mono _ _ _)
    | (with_reducible exact LeO.refl _)
    | (with_reducible exact LeO.none _)
    | (with_reducible refine LeO.ite ?_ ?_)
    | (with_reducible refine LeO.bind ?_ (fun _=>?_))
    | exact ih0 _ _ _
    | exact r3Parent.mono _ _ _
    | exact r3Sibling.mono _ _ _
    | exact LeO.none _
    | refine LeO.ite ?_ ?_
    | refine LeO.bind ?_ (fun _=>?_)
theorem r3Copath.mono : ∀ a0 a1 k,LeO (r3Copath.f k a0 a1) (r3Copath.f (k + 1) a0 a1):=by
 intro a0 a1 k
 have ih0:=r3Copath.mono_l k
 unfold r3Copath.f
 repeat' first
  | (with_reducible exact ih0 _ _ _)
  | (with_reducible exact r3Parent.mono _ _ _)
  | (with_reducible exact r3Sibling.mono _ _ _)
  | (with_reducible exact LeO.refl _)
  | (with_reducible exact LeO.none _)
  | (with_reducible refine LeO.ite ?_ ?_)
  | (with_reducible refine LeO.bind ?_ (fun _=>?_))
  | exact ih0 _ _ _
  | exact r3Parent.mono _ _ _
  | exact r3Sibling.mono _ _ _
  | exact LeO.none _
  | refine LeO.ite ?_ ?_
  | refine LeO.bind ?_ (fun _=>?_)
set_option maxHeartbeats 8000000 in
set_option maxRecDepth 100000 in
theorem r3Copath.calls (k : Nat) (a0 : Int) (a1 : Int) (r : List Int) (w : World) (h : r3Copath.f k a0 a1 = some r) :
 Calls Tryd.prog 64 #[.int .i64 a0,.int .i64 a1] w fun e w'=>∃ v0_ : Value,e = .returned (v0_)∧Kd.R (Kd.int .i64) 3 w' w.heap.size (fun _=>True) v0_ r∧Below w.heap.size w w':=by
 have HB:=Az.mk (Below.refl w.heap.size w)
 have H : (r3Copath.l0 k a0 a1 ([] : List Int)) = some r:=h
 clear h
 have H':=Az.mk H
 clear H
 go_enter Tryd.func64,Tryd.ntmps64
 go_wp2
 go_loopg [0,5] k (fun kq v0 v5 w'=>∃ (x0_1 : Int) (x5_1 : List Int),v0 = .int .i64 x0_1∧Az (r3Copath.l0 kq x0_1 a1 x5_1 = some r)∧Az (kq≤k)∧Az (Kd.R (Kd.int .i64) 3 w' w.heap.size (fun _=>True) v5 x5_1)∧Az (Below w.heap.size w w'))
 case atStart=>exact ⟨(a0),(([] : List Int)),(by first | rfl | (simp;done) | (simp [*];done)),H',⟨Nat.le_refl _⟩,⟨by first | exact Kd.R_nil _ _ _ _ _ | exact Kd.N_nil _ _ _ _ _ | exact Kd.V_nil _ _ _ _ _ | exact Kd.Q_nil _ _ _ _ _ | exact Kd.S_nil _ _ _ _ _⟩,⟨bmv HB.out⟩⟩
 case round=>
  clear H'
  obtain ⟨x0_1,x5_1,rfl,HA,HK1,HO_5,HB⟩:=hrel
  cases gk with
  | zero=>exact absurd HA.out (by simp [r3Copath.l0])
  | succ k1=>
   have H:=HA.out
   clear HA
   simp only [r3Copath.l0] at H
   replace H:=Option.bind_eq_some_iff.mp H
   obtain ⟨t413,A30,H⟩:=H
   replace H : (if t413≥0 then ((r3Sibling.f k1 x0_1 a1).bind fun t414=>(if x5_1.length < 17592186044416 then ((r3Parent.f k1 x0_1 a1).bind fun t418=>(r3Copath.l0 k1 t418 a1 (x5_1 ++ [t414]))) else (none))) else (some x5_1)) = some r:=H
   have A3:=Az.mk A30
   clear A30
   by_cases c4 : t413≥0
   · rw [if_pos c4] at H
     have c4b0 : decide (0≤t413) = true:=decide_eq_true c4
     clear c4
     replace H:=Option.bind_eq_some_iff.mp H
     obtain ⟨t414,A50,H⟩:=H
     replace H : (if x5_1.length < 17592186044416 then ((r3Parent.f k1 x0_1 a1).bind fun t418=>(r3Copath.l0 k1 t418 a1 (x5_1 ++ [t414]))) else (none)) = some r:=H
     have A5:=Az.mk A50
     clear A50
     by_cases c6 : x5_1.length < 17592186044416
     · rw [if_pos c6] at H
       have LMc6:=Az.mk c6
       clear c6
       obtain ⟨y415,hy415⟩ : ∃ y_ : List Int,y_ = (x5_1 ++ [t414]):=⟨_,rfl⟩
       replace H : ((r3Parent.f k1 x0_1 a1).bind fun t418=>(r3Copath.l0 k1 t418 a1 y415)) = some r:=by first | (rw [hy415];with_reducible exact H) | (have H2_:=(Option.bind_some _ _).symm.trans H;rw [hy415];with_reducible exact H2_) | (have H2_:=(Option.bind_some _ _).symm.trans H;with_reducible exact H2_) | with_reducible exact H | (rw [hy415];exact H) | exact H
       have Ny415:=Az.mk hy415
       clear hy415
       replace H:=Option.bind_eq_some_iff.mp H
       obtain ⟨t418,A70,H⟩:=H
       replace H : (r3Copath.l0 k1 t418 a1 y415) = some r:=H
       have A7:=Az.mk A70
       clear A70
       have H':=Az.mk H
       clear H
       go_wp2_with (first | ((with_reducible refine gate_callee (f:=78) rfl ?_);refine goesL_ (some 9) rfl rfl Tryd.func78 (by kernel_rfl) rfl #[.int .i64 x0_1,.int .i64 a1] rfl (by (try simp only [List.map_toArray,List.map_cons,List.map_nil]);first | done | rfl | (simp only [List.length_drop,List.length_take];rfl)) ?_;(with_reducible refine (r3Parent.calls k1 x0_1 a1 t413 _ A3.out).mono ?_);rintro e w' ⟨rfl,⟨nd,rfl⟩⟩;refine ⟨_,rfl,?_⟩) | ((with_reducible refine gate_callee (f:=79) rfl ?_);refine goesL_ (some 13) rfl rfl Tryd.func79 (by kernel_rfl) rfl #[.int .i64 x0_1,.int .i64 a1] rfl (by (try simp only [List.map_toArray,List.map_cons,List.map_nil]);first | done | rfl | (simp only [List.length_drop,List.length_take];rfl)) ?_;(with_reducible refine (r3Sibling.calls k1 x0_1 a1 t414 _ A5.out).mono ?_);rintro e w' ⟨rfl,⟨nd,rfl⟩⟩;refine ⟨_,rfl,?_⟩) | ((with_reducible refine gate_builtin (b:=.append) (xs:=#[.tmp 14,.tmp 16]) rfl ?_);at_builtin;refine Kd.R_append (Kd.int .i64) (w0:=w) w.heap.size rfl (.tmp 14) (.tmp 16) 27 3 (.int .i64 0) 8 rfl Tryd.underlying27 info3 rfl (by decide) (by omega) u5 x5_1 t414 [.int .i64 t414] (fun _=>True) (fun _=>False) rfl rfl ?aP (fun _ hk=>hk.elim) ?aF ?aO ?aB ?aS ?aL ?_;(case aP=>exact rfl);(case aB=>exact (bmv HB.out));(case aF=>exact (fun _ _=>trivial));(case aO=>exact (R_mv HO_5.out));(case aS=>exact (bwZ (bmv HB.out)));(case aL=>have:=LMc6.out;omega);intro v416 w8 ho hb hg hat;rw [← Ny415.out] at ho;have n0_:=Az.mk (hb);have n1_:=Az.mk (ho);clear HB;clear HO_5;have HB:=n0_;have HO417:=n1_;clear n0_ n1_;clear ho hb hg hat) | ((with_reducible refine gate_callee (f:=78) rfl ?_);refine goesL_ (some 20) rfl rfl Tryd.func78 (by kernel_rfl) rfl #[.int .i64 x0_1,.int .i64 a1] rfl (by (try simp only [List.map_toArray,List.map_cons,List.map_nil]);first | done | rfl | (simp only [List.length_drop,List.length_take];rfl)) ?_;(with_reducible refine (r3Parent.calls k1 x0_1 a1 t418 _ A7.out).mono ?_);rintro e w' ⟨rfl,⟨nd,rfl⟩⟩;refine ⟨_,rfl,?_⟩))
       go_roundg k1
       case measure=>have:=HK1.out;omega
       case rel=>exact ⟨(t418),(y415),(by first | rfl | (simp;done) | (simp [*];done)),H',⟨by have:=HK1.out;omega⟩,⟨R_mv HO417.out⟩,⟨bmv HB.out⟩⟩
     · rw [if_neg c6] at H
       exact absurd H (by simp)
   · rw [if_neg c4] at H
     have c4b0 : decide (0≤t413) = false:=decide_eq_false c4
     clear c4
     obtain rfl:=Option.some.inj H
     go_wp2_with (first | ((with_reducible refine gate_callee (f:=78) rfl ?_);refine goesL_ (some 9) rfl rfl Tryd.func78 (by kernel_rfl) rfl #[.int .i64 x0_1,.int .i64 a1] rfl (by (try simp only [List.map_toArray,List.map_cons,List.map_nil]);first | done | rfl | (simp only [List.length_drop,List.length_take];rfl)) ?_;(with_reducible refine (r3Parent.calls k1 x0_1 a1 t413 _ A3.out).mono ?_);rintro e w' ⟨rfl,⟨nd,rfl⟩⟩;refine ⟨_,rfl,?_⟩))
     go_ret
     exact ⟨_,by first | rfl | (simp [errW_none,errW_some] <;> rfl) | (simp [*,errW_none,errW_some] <;> rfl),R_mv HO_5.out,bmv HB.out⟩
mutual
def r4Filtered.j0 : Nat→List (S29)→Int→List Int→List Int→Bool→Option (List Int × List Int)
 | 0,_,_,_,_,_=>none
 | k + 1,x0,x1,x6,x7,x19=>if x19 = true then (some (x6,x7)) else ((r4Leaves.f x0).bind fun t420=>((r3Path.f k (wrap64 (2 * x1)) t420).bind fun t421=>((r3Copath.f k (wrap64 (2 * x1)) t420).bind fun t424=>(r4Filtered.l0 k x0 x6 x7 t421 t424 0))))
def r4Filtered.l0 : Nat→List (S29)→List Int→List Int→List Int→List Int→Int→Option (List Int × List Int)
 | 0,_,_,_,_,_,_=>none
 | k + 1,x0,x6,x7,x9,x10,x11=>if x11 < (x9.length : Int) then (if 0≤x11 then (if x11 < (x10.length : Int) then ((r4Resolution.f k x0 (rd x10 x11)).bind fun t428=>(if (t428.length : Int) > 0 then (if x6.length < 17592186044416 then (if x7.length < 17592186044416 then (r4Filtered.l0 k x0 (x6 ++ [rd x9 x11]) (x7 ++ [rd x10 x11]) x9 x10 (wrap64 (x11 + 1))) else (none)) else (none)) else (r4Filtered.l0 k x0 x6 x7 x9 x10 (wrap64 (x11 + 1))))) else (none)) else (none)) else (some (x6,x7))
end
def r4Filtered.f (k : Nat) (l0 : List (S29)) (a1 : Int) : Option (List Int × List Int):=if a1 < 0 then (r4Filtered.j0 k l0 a1 ([] : List Int) ([] : List Int) true) else ((r4Leaves.f l0).bind fun t419=>(r4Filtered.j0 k l0 a1 ([] : List Int) ([] : List Int) (decide (a1≥t419))))
theorem r4Filtered.mono_l : ∀ k,(∀ y0 y1 y2 y3 y4,LeO (r4Filtered.j0 k y0 y1 y2 y3 y4) (r4Filtered.j0 (k + 1) y0 y1 y2 y3 y4))∧(∀ y0 y1 y2 y3 y4 y5,LeO (r4Filtered.l0 k y0 y1 y2 y3 y4 y5) (r4Filtered.l0 (k + 1) y0 y1 y2 y3 y4 y5))
 | 0=>⟨fun _ _ _ _ _ r h=>by simp [r4Filtered.j0] at h,fun _ _ _ _ _ _ r h=>by simp [r4Filtered.l0] at h⟩
 | k + 1=>by
  obtain ⟨ih0,ih1⟩:=r4Filtered.mono_l k
  refine ⟨?_,?_⟩
  · intro y0 y1 y2 y3 y4
    unfold r4Filtered.j0
    repeat' first
    | (with_reducible exact ih0 _ _ _ _ _)
    | (with_reducible exact ih1 _ _ _ _ _ _)
    | (with_reducible exact r3Copath.mono _ _ _)
    | (with_reducible exact r3Path.mono _ _ _)
    | (with_reducible exact r4Resolution.mono _ _ _)
    | (with_reducible exact LeO.refl _)
    | (with_reducible exact LeO.none _)
    | (with_reducible refine LeO.ite ?_ ?_)
    | (with_reducible refine LeO.bind ?_ (fun _=>?_))
    | exact ih0 _ _ _ _ _
    | exact ih1 _ _ _ _ _ _
    | exact r3Copath.mono _ _ _
    | exact r3Path.mono _ _ _
    | exact r4Resolution.mono _ _ _
    | exact LeO.none _
    | refine LeO.ite ?_ ?_
    | refine LeO.bind ?_ (fun _=>?_)
  · intro y0 y1 y2 y3 y4 y5
    unfold r4Filtered.l0
    repeat' first
    | (with_reducible exact ih0 _ _ _ _ _)
    | (with_reducible exact ih1 _ _ _ _ _ _)
    | (with_reducible exact r3Copath.mono _ _ _)
    | (with_reducible exact r3Path.mono _ _ _)
    | (with_reducible exact r4Resolution.mono _ _ _)
    | (with_reducible exact LeO.refl _)
    | (with_reducible exact LeO.none _)
    | (with_reducible refine LeO.ite ?_ ?_)
    | (with_reducible refine LeO.bind ?_ (fun _=>?_))
    | exact ih0 _ _ _ _ _
    | exact ih1 _ _ _ _ _ _
    | exact r3Copath.mono _ _ _
    | exact r3Path.mono _ _ _
    | exact r4Resolution.mono _ _ _
    | exact LeO.none _
    | refine LeO.ite ?_ ?_
    | refine LeO.bind ?_ (fun _=>?_)
theorem r4Filtered.mono : ∀ a0 a1 k,LeO (r4Filtered.f k a0 a1) (r4Filtered.f (k + 1) a0 a1):=by
 intro a0 a1 k
 obtain ⟨ih0,ih1⟩:=r4Filtered.mono_l k
 unfold r4Filtered.f
 repeat' first
  | (with_reducible exact ih0 _ _ _ _ _)
  | (with_reducible exact ih1 _ _ _ _ _ _)
  | (with_reducible exact r3Copath.mono _ _ _)
  | (with_reducible exact r3Path.mono _ _ _)
  | (with_reducible exact r4Resolution.mono _ _ _)
  | (with_reducible exact LeO.refl _)
  | (with_reducible exact LeO.none _)
  | (with_reducible refine LeO.ite ?_ ?_)
  | (with_reducible refine LeO.bind ?_ (fun _=>?_))
  | exact ih0 _ _ _ _ _
  | exact ih1 _ _ _ _ _ _
  | exact r3Copath.mono _ _ _
  | exact r3Path.mono _ _ _
  | exact r4Resolution.mono _ _ _
  | exact LeO.none _
  | refine LeO.ite ?_ ?_
  | refine LeO.bind ?_ (fun _=>?_)
set_option maxHeartbeats 8000000 in
set_option maxRecDepth 100000 in
theorem r4Filtered.calls (k : Nat) (A0 : Option Addr) (c0 : Nat) (l0 : List (S29)) (a1 : Int) (r1 : List Int) (r2 : List Int) (w : World) (hr0 : Kd.C k29 w A0 l0.length l0) (hc0 : l0.length≤c0) (h : r4Filtered.f k l0 a1 = some (r1,r2)) :
 Calls Tryd.prog 37 #[.slice A0 l0.length c0,.int .i64 a1] w fun e w'=>∃ v0_ v1_ : Value,e = .returned (.tuple #[v0_,v1_])∧Kd.R (Kd.int .i64) 3 w' w.heap.size (fun k_=>some k_≠(v1_ : Value).ownBlock) v0_ r1∧Kd.R (Kd.int .i64) 3 w' w.heap.size (fun k_=>some k_≠(v0_ : Value).ownBlock) v1_ r2∧Below w.heap.size w w':=by
 have HR0:=Az.mk hr0
 have HC0:=Az.mk hc0
 clear hr0 hc0
 have HB:=Az.mk (Below.refl w.heap.size w)
 have H : (if a1 < 0 then (r4Filtered.j0 k l0 a1 ([] : List Int) ([] : List Int) true) else ((r4Leaves.f l0).bind fun t419=>(r4Filtered.j0 k l0 a1 ([] : List Int) ([] : List Int) (decide (a1≥t419))))) = some (r1,r2):=h
 clear h
 have HC3:=Az.mk H
 clear H
 go_enter Tryd.func37,Tryd.ntmps37
 go_upto_region 2 with (fail)
 go_cut [19] (fun v19 wc=>∃ (kq : Nat) (x19_2 : Bool),v19 = .bool x19_2∧Az (r4Filtered.j0 kq l0 a1 ([] : List Int) ([] : List Int) x19_2 = some (r1,r2))∧Az (kq≤k)∧Az (Kd.R (Kd.int .i64) 3 wc w.heap.size (fun k_=>some k_≠((.slice none 0 0) : Value).ownBlock) (.slice none 0 0) ([] : List Int))∧Az (Kd.R (Kd.int .i64) 3 wc w.heap.size (fun k_=>some k_≠((.slice none 0 0) : Value).ownBlock) (.slice none 0 0) ([] : List Int))∧Az (Below w.heap.size w wc))
 case first=>
  have H:=HC3.out
  clear HC3
  by_cases c4 : a1 < 0
  · rw [if_pos c4] at H
    have c4b0 : decide (a1 < 0) = true:=decide_eq_true c4
    clear c4
    (first | rw [c4b0] | (simp only [i64_w,i32_w];rw [c4b0]) | skip)
    have H':=Az.mk H
    clear H
    go_wp2
    go_meet
    case rel=>exact ⟨_,(true),(by first | rfl | (simp;done) | (simp [*];done)),H',⟨by first | omega | exact Nat.le_refl _⟩,⟨by first | exact Kd.R_nil _ _ _ _ _ | exact Kd.N_nil _ _ _ _ _ | exact Kd.V_nil _ _ _ _ _ | exact Kd.Q_nil _ _ _ _ _ | exact Kd.S_nil _ _ _ _ _⟩,⟨by first | exact Kd.R_nil _ _ _ _ _ | exact Kd.N_nil _ _ _ _ _ | exact Kd.V_nil _ _ _ _ _ | exact Kd.Q_nil _ _ _ _ _ | exact Kd.S_nil _ _ _ _ _⟩,⟨bmv HB.out⟩⟩
  · rw [if_neg c4] at H
    have c4b0 : decide (a1 < 0) = false:=decide_eq_false c4
    clear c4
    (first | rw [c4b0] | (simp only [i64_w,i32_w];rw [c4b0]) | skip)
    replace H:=Option.bind_eq_some_iff.mp H
    obtain ⟨t419,A50,H⟩:=H
    replace H : (r4Filtered.j0 k l0 a1 ([] : List Int) ([] : List Int) (decide (a1≥t419))) = some (r1,r2):=H
    have A5:=Az.mk A50
    clear A50
    have H':=Az.mk H
    clear H
    go_wp2_with (first | (go_at_call 21;(with_reducible refine (r4Leaves.calls _ _ l0 t419 _ ?side1 ?side2 A5.out).mono ?_);(case side1=>exact C_mv ((Kd.C_below HR0.out HB.out)));(case side2=>exact HC0.out);rintro e w' ⟨rfl,⟨nd,rfl⟩⟩))
    go_meet
    case rel=>exact ⟨_,(decide (a1≥t419)),(by first | rfl | (simp;done) | (simp [*];done)),H',⟨by first | omega | exact Nat.le_refl _⟩,⟨by first | exact Kd.R_nil _ _ _ _ _ | exact Kd.N_nil _ _ _ _ _ | exact Kd.V_nil _ _ _ _ _ | exact Kd.Q_nil _ _ _ _ _ | exact Kd.S_nil _ _ _ _ _⟩,⟨by first | exact Kd.R_nil _ _ _ _ _ | exact Kd.N_nil _ _ _ _ _ | exact Kd.V_nil _ _ _ _ _ | exact Kd.Q_nil _ _ _ _ _ | exact Kd.S_nil _ _ _ _ _⟩,⟨bmv HB.out⟩⟩
 case rest=>
  clear HC3
  try clear c4
  try clear c4b0
  obtain ⟨kq,x19_2,rfl,HA,HJ2,HO_6,HO_7,HB⟩:=hcut
  cases kq with
  | zero=>exact absurd HA.out (by simp [r4Filtered.j0])
  | succ kj2=>
   have H:=HA.out
   clear HA
   simp only [r4Filtered.j0] at H
   by_cases c6 : x19_2 = true
   · subst c6
     have H1 : (some (([] : List Int),([] : List Int))) = some (r1,r2):=by rw [if_pos rfl] at H;exact H
     clear H
     have H:=H1
     clear H1
     simp only [Option.some.injEq,Prod.mk.injEq] at H
     obtain ⟨rfl,rfl⟩:=H
     go_wp2
     go_ret2
     exact ⟨_,_,by first | rfl | (simp [errW_none,errW_some] <;> rfl) | (simp [*,errW_none,errW_some] <;> rfl),R_mv HO_6.out,R_mv HO_7.out,bmv HB.out⟩
   · replace c6:=Bool.eq_false_iff.mpr c6
     subst c6
     have H1 : ((r4Leaves.f l0).bind fun t420=>((r3Path.f kj2 (wrap64 (2 * a1)) t420).bind fun t421=>((r3Copath.f kj2 (wrap64 (2 * a1)) t420).bind fun t424=>(r4Filtered.l0 kj2 l0 ([] : List Int) ([] : List Int) t421 t424 0)))) = some (r1,r2):=by rw [if_neg (show ¬ (false = true) by decide)] at H;exact H
     clear H
     have H:=H1
     clear H1
     replace H:=Option.bind_eq_some_iff.mp H
     obtain ⟨t420,A70,H⟩:=H
     replace H : ((r3Path.f kj2 (wrap64 (2 * a1)) t420).bind fun t421=>((r3Copath.f kj2 (wrap64 (2 * a1)) t420).bind fun t424=>(r4Filtered.l0 kj2 l0 ([] : List Int) ([] : List Int) t421 t424 0))) = some (r1,r2):=H
     have A7:=Az.mk A70
     clear A70
     replace H:=Option.bind_eq_some_iff.mp H
     obtain ⟨t421,A80,H⟩:=H
     replace H : ((r3Copath.f kj2 (wrap64 (2 * a1)) t420).bind fun t424=>(r4Filtered.l0 kj2 l0 ([] : List Int) ([] : List Int) t421 t424 0)) = some (r1,r2):=H
     have A8:=Az.mk A80
     clear A80
     replace H:=Option.bind_eq_some_iff.mp H
     obtain ⟨t424,A90,H⟩:=H
     replace H : (r4Filtered.l0 kj2 l0 ([] : List Int) ([] : List Int) t421 t424 0) = some (r1,r2):=H
     have A9:=Az.mk A90
     clear A90
     have H':=Az.mk H
     clear H
     go_wp2_with (first | ((with_reducible refine gate_callee (f:=21) rfl ?_);refine goesL_ (some 23) rfl rfl Tryd.func21 (by kernel_rfl) rfl #[.slice A0 l0.length c0] rfl (by (try simp only [List.map_toArray,List.map_cons,List.map_nil]);first | done | rfl | (simp only [List.length_drop,List.length_take];rfl)) ?_;(with_reducible refine (r4Leaves.calls _ _ l0 t420 _ ?side1 ?side2 A7.out).mono ?_);(case side1=>exact C_mv ((Kd.C_below HR0.out HB.out)));(case side2=>exact HC0.out);rintro e w' ⟨rfl,⟨nd,rfl⟩⟩;refine ⟨_,rfl,?_⟩) | ((with_reducible refine gate_callee (f:=63) rfl ?_);refine goesL_ (some 27) rfl rfl Tryd.func63 (by kernel_rfl) rfl #[.int .i64 (wrap64 (2 * a1)),.int .i64 t420] rfl (by (try simp only [List.map_toArray,List.map_cons,List.map_nil]);first | done | rfl | (simp only [List.length_drop,List.length_take];rfl)) ?_;(with_reducible refine (r3Path.calls kj2 (wrap64 (2 * a1)) t420 t421 _ A8.out).mono ?_);rintro e w10 ⟨v422,rfl,ho0,hb⟩;refine ⟨_,rfl,?_⟩;have n0_:=Az.mk (Kd.R_elder' (R_mv HO_6.out) (Kd.R_base ho0) hb);have n1_:=Az.mk (Kd.R_elder' (R_mv HO_7.out) (Kd.R_base ho0) hb);have n2_:=Az.mk (Kd.R_lower (Kd.R_new' (Kd.R_new' ho0 (Kd.R_lt (R_mv HO_6.out))) (Kd.R_lt (R_mv HO_7.out))) (bwZ (bmv HB.out)));have n3_:=Az.mk (bwT (bmv HB.out) hb);clear HO_6;clear HO_7;clear HB;have HO_6:=n0_;have HO_7:=n1_;have HO423:=n2_;have HB:=n3_;clear n0_ n1_ n2_ n3_;(try clear hb);(try clear hb2);(try clear hk);(try clear hi);(try clear ho0)) | ((with_reducible refine gate_callee (f:=64) rfl ?_);refine goesL_ (some 31) rfl rfl Tryd.func64 (by kernel_rfl) rfl #[.int .i64 (wrap64 (2 * a1)),.int .i64 t420] rfl (by (try simp only [List.map_toArray,List.map_cons,List.map_nil]);first | done | rfl | (simp only [List.length_drop,List.length_take];rfl)) ?_;(with_reducible refine (r3Copath.calls kj2 (wrap64 (2 * a1)) t420 t424 _ A9.out).mono ?_);rintro e w11 ⟨v425,rfl,ho0,hb⟩;refine ⟨_,rfl,?_⟩;have n0_:=Az.mk (Kd.R_elder' (R_mv HO_6.out) (Kd.R_base ho0) hb);have n1_:=Az.mk (Kd.R_elder' (R_mv HO_7.out) (Kd.R_base ho0) hb);have n2_:=Az.mk (Kd.R_elder' (R_mv HO423.out) (Kd.R_base ho0) hb);have n3_:=Az.mk (Kd.R_lower (Kd.R_new' (Kd.R_new' (Kd.R_new' ho0 (Kd.R_lt (R_mv HO_6.out))) (Kd.R_lt (R_mv HO_7.out))) (Kd.R_lt (R_mv HO423.out))) (bwZ (bmv HB.out)));have n4_:=Az.mk (bwT (bmv HB.out) hb);clear HO_6;clear HO_7;clear HO423;clear HB;have HO_6:=n0_;have HO_7:=n1_;have HO423:=n2_;have HO426:=n3_;have HB:=n4_;clear n0_ n1_ n2_ n3_ n4_;(try clear hb);(try clear hb2);(try clear hk);(try clear hi);(try clear ho0)))
     go_loopg [6,7,11] kj2 (fun kq v6 v7 v11 w'=>∃ (x6_2 : List Int) (x7_2 : List Int) (x11_2 : Int),v11 = .int .i64 x11_2∧Az (r4Filtered.l0 kq l0 x6_2 x7_2 t421 t424 x11_2 = some (r1,r2))∧Az (kq≤kj2)∧Az (Kd.R (Kd.int .i64) 3 w' w.heap.size (fun k_=>some k_≠(v7 : Value).ownBlock∧some k_≠(v422 : Value).ownBlock∧some k_≠(v425 : Value).ownBlock) v6 x6_2)∧Az (Kd.R (Kd.int .i64) 3 w' w.heap.size (fun k_=>some k_≠(v6 : Value).ownBlock∧some k_≠(v422 : Value).ownBlock∧some k_≠(v425 : Value).ownBlock) v7 x7_2)∧Az (Kd.R (Kd.int .i64) 3 w' w.heap.size (fun k_=>some k_≠(v6 : Value).ownBlock∧some k_≠(v7 : Value).ownBlock∧some k_≠(v425 : Value).ownBlock) v422 t421)∧Az (Kd.R (Kd.int .i64) 3 w' w.heap.size (fun k_=>some k_≠(v6 : Value).ownBlock∧some k_≠(v7 : Value).ownBlock∧some k_≠(v422 : Value).ownBlock) v425 t424)∧Az (Below w.heap.size w w'))
     case atStart=>exact ⟨(([] : List Int)),(([] : List Int)),(0),(by first | rfl | (simp;done) | (simp [*];done)),H',⟨Nat.le_refl _⟩,⟨R_mv (Kd.R_mono HO_6.out (fun _ hk=>⟨hk.1.1,⟨hk.1.2,hk.2⟩⟩))⟩,⟨R_mv (Kd.R_mono HO_7.out (fun _ hk=>⟨hk.1.1,⟨hk.1.2,hk.2⟩⟩))⟩,⟨R_mv (Kd.R_mono HO423.out (fun _ hk=>⟨hk.1.1.2,⟨hk.1.2,hk.2⟩⟩))⟩,⟨R_mv (Kd.R_mono HO426.out (fun _ hk=>⟨hk.1.1.2,⟨hk.1.2,hk.2⟩⟩))⟩,⟨bmv HB.out⟩⟩
     case round=>
      clear H'
      try clear c4
      try clear c4b0
      try clear c6
      obtain ⟨x6_2,x7_2,x11_2,rfl,HA,HK2,HO_6,HO_7,HO_9,HO_10,HB⟩:=hrel
      cases gk with
      | zero=>exact absurd HA.out (by simp [r4Filtered.l0])
      | succ k2=>
       have H:=HA.out
       clear HA
       simp only [r4Filtered.l0] at H
       by_cases c12 : x11_2 < (t421.length : Int)
       · rw [if_pos c12] at H
         have c12b0 : decide (x11_2 < (t421.length : Int)) = true:=decide_eq_true c12
         clear c12
         by_cases c13 : 0≤x11_2
         · rw [if_pos c13] at H
           have c13b0 : decide (0≤x11_2) = true:=decide_eq_true c13
           clear c13
           by_cases c14 : x11_2 < (t424.length : Int)
           · rw [if_pos c14] at H
             have c14b0 : decide (x11_2 < (t424.length : Int)) = true:=decide_eq_true c14
             clear c14
             replace H:=Option.bind_eq_some_iff.mp H
             obtain ⟨t428,A150,H⟩:=H
             replace H : (if (t428.length : Int) > 0 then (if x6_2.length < 17592186044416 then (if x7_2.length < 17592186044416 then (r4Filtered.l0 k2 l0 (x6_2 ++ [rd t421 x11_2]) (x7_2 ++ [rd t424 x11_2]) t421 t424 (wrap64 (x11_2 + 1))) else (none)) else (none)) else (r4Filtered.l0 k2 l0 x6_2 x7_2 t421 t424 (wrap64 (x11_2 + 1)))) = some (r1,r2):=H
             have A15:=Az.mk A150
             clear A150
             by_cases c16 : (t428.length : Int) > 0
             · rw [if_pos c16] at H
               have c16b0 : decide (0 < (t428.length : Int)) = true:=decide_eq_true c16
               have c16b1 : decide (0 < t428.length) = true:=decide_eq_true (by omega)
               clear c16
               by_cases c17 : x6_2.length < 17592186044416
               · rw [if_pos c17] at H
                 have LMc17:=Az.mk c17
                 clear c17
                 obtain ⟨y432,hy432⟩ : ∃ y_ : List Int,y_ = (x6_2 ++ [rd t421 x11_2]):=⟨_,rfl⟩
                 replace H : (if x7_2.length < 17592186044416 then (r4Filtered.l0 k2 l0 y432 (x7_2 ++ [rd t424 x11_2]) t421 t424 (wrap64 (x11_2 + 1))) else (none)) = some (r1,r2):=by first | (rw [hy432];with_reducible exact H) | (have H2_:=(Option.bind_some _ _).symm.trans H;rw [hy432];with_reducible exact H2_) | (have H2_:=(Option.bind_some _ _).symm.trans H;with_reducible exact H2_) | with_reducible exact H | (rw [hy432];exact H) | exact H
                 have Ny432:=Az.mk hy432
                 clear hy432
                 by_cases c18 : x7_2.length < 17592186044416
                 · rw [if_pos c18] at H
                   have LMc18:=Az.mk c18
                   clear c18
                   obtain ⟨y436,hy436⟩ : ∃ y_ : List Int,y_ = (x7_2 ++ [rd t424 x11_2]):=⟨_,rfl⟩
                   replace H : (r4Filtered.l0 k2 l0 y432 y436 t421 t424 (wrap64 (x11_2 + 1))) = some (r1,r2):=by first | (rw [hy436];with_reducible exact H) | (have H2_:=(Option.bind_some _ _).symm.trans H;rw [hy436];with_reducible exact H2_) | (have H2_:=(Option.bind_some _ _).symm.trans H;with_reducible exact H2_) | with_reducible exact H | (rw [hy436];exact H) | exact H
                   have Ny436:=Az.mk hy436
                   clear hy436
                   have H':=Az.mk H
                   clear H
                   obtain ⟨Ao19,co19,eo19⟩:=Kd.R_slice HO_9.out
                   subst eo19
                   obtain ⟨Ao20,co20,eo20⟩:=Kd.R_slice HO_10.out
                   subst eo20
                   have p427 : 0≤(x11_2 : Int):=of_decide_eq_true (by first | (with_reducible assumption) | assumption)
                   have q427 : x11_2 < (t424.length : Int):=of_decide_eq_true (by first | (with_reducible assumption) | assumption)
                   obtain ⟨ad427,e427,hx427_0⟩:=Kd.at_int (Kd.R_reads' HO_10.out).2.2 x11_2 p427 q427
                   cases e427
                   replace p427:=eq_true p427
                   replace q427:=eq_true q427
                   go_wp2_with (first | ((with_reducible refine gate_callee (f:=38) rfl ?_);refine goesL_ (some 43) rfl rfl Tryd.func38 (by kernel_rfl) rfl #[.slice A0 l0.length c0,.int .i64 (rd t424 x11_2)] rfl (by (try simp only [List.map_toArray,List.map_cons,List.map_nil]);first | done | rfl | (simp only [List.length_drop,List.length_take];rfl)) ?_;(with_reducible refine (r4Resolution.calls k2 _ _ l0 (rd t424 x11_2) t428 _ ?side1 ?side2 A15.out).mono ?_);(case side1=>exact C_mv ((Kd.C_below HR0.out HB.out)));(case side2=>exact HC0.out);rintro e w21 ⟨v429,rfl,ho0,hb⟩;refine ⟨_,rfl,?_⟩;have n0_:=Az.mk (Kd.R_elder' (R_mv HO_6.out) (Kd.R_base ho0) hb);have n1_:=Az.mk (Kd.R_elder' (R_mv HO_7.out) (Kd.R_base ho0) hb);have n2_:=Az.mk (Kd.R_elder' (R_mv HO_9.out) (Kd.R_base ho0) hb);have n3_:=Az.mk (Kd.R_elder' (R_mv HO_10.out) (Kd.R_base ho0) hb);have n4_:=Az.mk (Kd.R_lower (Kd.R_new' (Kd.R_new' (Kd.R_new' (Kd.R_new' ho0 (Kd.R_lt (R_mv HO_6.out))) (Kd.R_lt (R_mv HO_7.out))) (Kd.R_lt (R_mv HO_9.out))) (Kd.R_lt (R_mv HO_10.out))) (bwZ (bmv HB.out)));have n5_:=Az.mk (bwT (bmv HB.out) hb);clear HO_6;clear HO_7;clear HO_9;clear HO_10;clear HB;have HO_6:=n0_;have HO_7:=n1_;have HO_9:=n2_;have HO_10:=n3_;have HO430:=n4_;have HB:=n5_;clear n0_ n1_ n2_ n3_ n4_ n5_;(try clear hb);(try clear hb2);(try clear hk);(try clear hi);(try clear ho0);obtain ⟨Ao22,co22,eo22⟩:=Kd.R_slice HO430.out;subst eo22;have p431 : 0≤(x11_2 : Int):=of_decide_eq_true (by first | (with_reducible assumption) | assumption);have q431 : x11_2 < (t421.length : Int):=of_decide_eq_true (by first | (with_reducible assumption) | assumption);obtain ⟨ad431,e431,hx431_0⟩:=Kd.at_int (Kd.R_reads' HO_9.out).2.2 x11_2 p431 q431;cases e431;replace p431:=eq_true p431;replace q431:=eq_true q431) | ((with_reducible refine gate_builtin (b:=.append) (xs:=#[.tmp 46,.tmp 51]) rfl ?_);at_builtin;refine Kd.R_append (Kd.int .i64) (w0:=w) w.heap.size rfl (.tmp 46) (.tmp 51) 27 3 (.int .i64 0) 8 rfl Tryd.underlying27 info3 rfl (by decide) (by omega) u6 x6_2 (rd t421 x11_2) [.int .i64 (rd t421 x11_2)] (fun k_=>some k_≠(u7 : Value).ownBlock∧some k_≠(.slice (some ad431) t421.length co19 : Value).ownBlock∧some k_≠(.slice (some ad427) t424.length co20 : Value).ownBlock∧some k_≠(.slice Ao22 t428.length co22 : Value).ownBlock) (fun _=>False) rfl rfl ?aP (fun _ hk=>hk.elim) ?aF ?aO ?aB ?aS ?aL ?_;(case aP=>exact rfl);(case aB=>exact (bmv HB.out));(case aF=>exact (fun k_ hk=>⟨Kd.fresh' (Kd.R_lt (R_mv HO_7.out)) k_ hk,Kd.fresh' (Kd.R_lt (R_mv HO_9.out)) k_ hk,Kd.fresh' (Kd.R_lt (R_mv HO_10.out)) k_ hk,Kd.fresh' (Kd.R_lt (R_mv HO430.out)) k_ hk⟩));(case aO=>exact (R_mv (Kd.R_mono HO_6.out (fun _ hk=>⟨hk.1.1,⟨hk.1.2.1,⟨hk.1.2.2,hk.2⟩⟩⟩))));(case aS=>exact (bwZ (bmv HB.out)));(case aL=>have:=LMc17.out;omega);intro v433 w23 ho hb hg hat;rw [← Ny432.out] at ho;have n0_:=Az.mk (Kd.R_after (ok:=(fun k_=>some k_≠(.slice (some ad431) t421.length co19 : Value).ownBlock∧some k_≠(.slice (some ad427) t424.length co20 : Value).ownBlock∧some k_≠(.slice Ao22 t428.length co22 : Value).ownBlock)) (R_mv (Kd.R_mono HO_7.out (fun _ hk=>⟨⟨hk.1.2.1,⟨hk.1.2.2,hk.2⟩⟩,hk.1.1⟩))) hg hat);have n1_:=Az.mk (Kd.R_after (ok:=(fun k_=>some k_≠(u7 : Value).ownBlock∧some k_≠(.slice (some ad427) t424.length co20 : Value).ownBlock∧some k_≠(.slice Ao22 t428.length co22 : Value).ownBlock)) (R_mv (Kd.R_mono HO_9.out (fun _ hk=>⟨⟨hk.1.2.1,⟨hk.1.2.2,hk.2⟩⟩,hk.1.1⟩))) hg hat);have n2_:=Az.mk (Kd.R_after (ok:=(fun k_=>some k_≠(u7 : Value).ownBlock∧some k_≠(.slice (some ad431) t421.length co19 : Value).ownBlock∧some k_≠(.slice Ao22 t428.length co22 : Value).ownBlock)) (R_mv (Kd.R_mono HO_10.out (fun _ hk=>⟨⟨hk.1.2.1,⟨hk.1.2.2,hk.2⟩⟩,hk.1.1⟩))) hg hat);have n3_:=Az.mk (Kd.R_after (ok:=(fun k_=>some k_≠(u7 : Value).ownBlock∧some k_≠(.slice (some ad431) t421.length co19 : Value).ownBlock∧some k_≠(.slice (some ad427) t424.length co20 : Value).ownBlock)) (R_mv (Kd.R_mono HO430.out (fun _ hk=>⟨⟨hk.1.1.2,⟨hk.1.2,hk.2⟩⟩,hk.1.1.1.2⟩))) hg hat);have n4_:=Az.mk (hb);have n5_:=Az.mk (ho);clear HO_7;clear HO_9;clear HO_10;clear HO430;clear HB;clear HO_6;have HO_7:=n0_;have HO_9:=n1_;have HO_10:=n2_;have HO430:=n3_;have HB:=n4_;have HO434:=n5_;clear n0_ n1_ n2_ n3_ n4_ n5_;clear ho hb hg hat;have p435 : 0≤(x11_2 : Int):=of_decide_eq_true (by first | (with_reducible assumption) | assumption);have q435 : x11_2 < (t424.length : Int):=of_decide_eq_true (by first | (with_reducible assumption) | assumption);obtain ⟨ad435,e435,hx435_0⟩:=Kd.at_int (Kd.R_reads' HO_10.out).2.2 x11_2 p435 q435;obtain rfl : ad427 = ad435:=(by injection e435);replace p435:=eq_true p435;replace q435:=eq_true q435) | ((with_reducible refine gate_builtin (b:=.append) (xs:=#[.tmp 53,.tmp 58]) rfl ?_);at_builtin;refine Kd.R_append (Kd.int .i64) (w0:=w) w.heap.size rfl (.tmp 53) (.tmp 58) 27 3 (.int .i64 0) 8 rfl Tryd.underlying27 info3 rfl (by decide) (by omega) u7 x7_2 (rd t424 x11_2) [.int .i64 (rd t424 x11_2)] (fun k_=>some k_≠(.slice (some ad431) t421.length co19 : Value).ownBlock∧some k_≠(.slice (some ad427) t424.length co20 : Value).ownBlock∧some k_≠(.slice Ao22 t428.length co22 : Value).ownBlock∧some k_≠(v433 : Value).ownBlock) (fun _=>False) rfl rfl ?aP (fun _ hk=>hk.elim) ?aF ?aO ?aB ?aS ?aL ?_;(case aP=>exact rfl);(case aB=>exact (bmv HB.out));(case aF=>exact (fun k_ hk=>⟨Kd.fresh' (Kd.R_lt (R_mv HO_9.out)) k_ hk,Kd.fresh' (Kd.R_lt (R_mv HO_10.out)) k_ hk,Kd.fresh' (Kd.R_lt (R_mv HO430.out)) k_ hk,Kd.fresh' (Kd.R_lt (R_mv HO434.out)) k_ hk⟩));(case aO=>exact (R_mv (Kd.R_mono HO_7.out (fun _ hk=>⟨hk.1.1,⟨hk.1.2.1,⟨hk.1.2.2,hk.2⟩⟩⟩))));(case aS=>exact (bwZ (bmv HB.out)));(case aL=>have:=LMc18.out;omega);intro v437 w24 ho hb hg hat;rw [← Ny436.out] at ho;have n0_:=Az.mk (Kd.R_after (ok:=(fun k_=>some k_≠(.slice (some ad427) t424.length co20 : Value).ownBlock∧some k_≠(.slice Ao22 t428.length co22 : Value).ownBlock∧some k_≠(v433 : Value).ownBlock)) (R_mv (Kd.R_mono HO_9.out (fun _ hk=>⟨⟨hk.1.2.1,⟨hk.1.2.2,hk.2⟩⟩,hk.1.1⟩))) hg hat);have n1_:=Az.mk (Kd.R_after (ok:=(fun k_=>some k_≠(.slice (some ad431) t421.length co19 : Value).ownBlock∧some k_≠(.slice Ao22 t428.length co22 : Value).ownBlock∧some k_≠(v433 : Value).ownBlock)) (R_mv (Kd.R_mono HO_10.out (fun _ hk=>⟨⟨hk.1.2.1,⟨hk.1.2.2,hk.2⟩⟩,hk.1.1⟩))) hg hat);have n2_:=Az.mk (Kd.R_after (ok:=(fun k_=>some k_≠(.slice (some ad431) t421.length co19 : Value).ownBlock∧some k_≠(.slice (some ad427) t424.length co20 : Value).ownBlock∧some k_≠(v433 : Value).ownBlock)) (R_mv (Kd.R_mono HO430.out (fun _ hk=>⟨⟨hk.1.2.1,⟨hk.1.2.2,hk.2⟩⟩,hk.1.1⟩))) hg hat);have n3_:=Az.mk (Kd.R_after (ok:=(fun k_=>some k_≠(.slice (some ad431) t421.length co19 : Value).ownBlock∧some k_≠(.slice (some ad427) t424.length co20 : Value).ownBlock∧some k_≠(.slice Ao22 t428.length co22 : Value).ownBlock)) (R_mv (Kd.R_mono HO434.out (fun _ hk=>⟨⟨hk.2.1,⟨hk.2.2.1,hk.2.2.2⟩⟩,hk.1⟩))) hg hat);have n4_:=Az.mk (hb);have n5_:=Az.mk (ho);clear HO_9;clear HO_10;clear HO430;clear HO434;clear HB;clear HO_7;have HO_9:=n0_;have HO_10:=n1_;have HO430:=n2_;have HO434:=n3_;have HB:=n4_;have HO438:=n5_;clear n0_ n1_ n2_ n3_ n4_ n5_;clear ho hb hg hat))
                   go_roundg k2
                   case measure=>have:=HJ2.out;have:=HK2.out;omega
                   case rel=>exact ⟨(y432),(y436),(wrap64 (x11_2 + 1)),(by first | rfl | (simp;done) | (simp [*];done)),H',⟨by have:=HJ2.out;have:=HK2.out;omega⟩,⟨R_mv (Kd.R_mono HO434.out (fun _ hk=>⟨hk.2,⟨hk.1.1,hk.1.2.1⟩⟩))⟩,⟨R_mv (Kd.R_mono HO438.out (fun _ hk=>⟨hk.2.2.2,⟨hk.1,hk.2.1⟩⟩))⟩,⟨R_mv (Kd.R_mono HO_9.out (fun _ hk=>⟨hk.1.2.2,⟨hk.2,hk.1.1⟩⟩))⟩,⟨R_mv (Kd.R_mono HO_10.out (fun _ hk=>⟨hk.1.2.2,⟨hk.2,hk.1.1⟩⟩))⟩,⟨bmv HB.out⟩⟩
                 · rw [if_neg c18] at H
                   exact absurd H (by simp)
               · rw [if_neg c17] at H
                 exact absurd H (by simp)
             · rw [if_neg c16] at H
               have c16b0 : decide (0 < (t428.length : Int)) = false:=decide_eq_false c16
               have c16b1 : decide (0 < t428.length) = false:=decide_eq_false (by omega)
               clear c16
               have H':=Az.mk H
               clear H
               obtain ⟨Ao25,co25,eo25⟩:=Kd.R_slice HO_9.out
               subst eo25
               obtain ⟨Ao26,co26,eo26⟩:=Kd.R_slice HO_10.out
               subst eo26
               have p427 : 0≤(x11_2 : Int):=of_decide_eq_true (by first | (with_reducible assumption) | assumption)
               have q427 : x11_2 < (t424.length : Int):=of_decide_eq_true (by first | (with_reducible assumption) | assumption)
               obtain ⟨ad427,e427,hx427_0⟩:=Kd.at_int (Kd.R_reads' HO_10.out).2.2 x11_2 p427 q427
               cases e427
               replace p427:=eq_true p427
               replace q427:=eq_true q427
               go_wp2_with (first | ((with_reducible refine gate_callee (f:=38) rfl ?_);refine goesL_ (some 43) rfl rfl Tryd.func38 (by kernel_rfl) rfl #[.slice A0 l0.length c0,.int .i64 (rd t424 x11_2)] rfl (by (try simp only [List.map_toArray,List.map_cons,List.map_nil]);first | done | rfl | (simp only [List.length_drop,List.length_take];rfl)) ?_;(with_reducible refine (r4Resolution.calls k2 _ _ l0 (rd t424 x11_2) t428 _ ?side1 ?side2 A15.out).mono ?_);(case side1=>exact C_mv ((Kd.C_below HR0.out HB.out)));(case side2=>exact HC0.out);rintro e w27 ⟨v429,rfl,ho0,hb⟩;refine ⟨_,rfl,?_⟩;have n0_:=Az.mk (Kd.R_elder' (R_mv HO_6.out) (Kd.R_base ho0) hb);have n1_:=Az.mk (Kd.R_elder' (R_mv HO_7.out) (Kd.R_base ho0) hb);have n2_:=Az.mk (Kd.R_elder' (R_mv HO_9.out) (Kd.R_base ho0) hb);have n3_:=Az.mk (Kd.R_elder' (R_mv HO_10.out) (Kd.R_base ho0) hb);have n4_:=Az.mk (Kd.R_lower (Kd.R_new' (Kd.R_new' (Kd.R_new' (Kd.R_new' ho0 (Kd.R_lt (R_mv HO_6.out))) (Kd.R_lt (R_mv HO_7.out))) (Kd.R_lt (R_mv HO_9.out))) (Kd.R_lt (R_mv HO_10.out))) (bwZ (bmv HB.out)));have n5_:=Az.mk (bwT (bmv HB.out) hb);clear HO_6;clear HO_7;clear HO_9;clear HO_10;clear HB;have HO_6:=n0_;have HO_7:=n1_;have HO_9:=n2_;have HO_10:=n3_;have HO430:=n4_;have HB:=n5_;clear n0_ n1_ n2_ n3_ n4_ n5_;(try clear hb);(try clear hb2);(try clear hk);(try clear hi);(try clear ho0);obtain ⟨Ao28,co28,eo28⟩:=Kd.R_slice HO430.out;subst eo28))
               go_roundg k2
               case measure=>have:=HJ2.out;have:=HK2.out;omega
               case rel=>exact ⟨(x6_2),(x7_2),(wrap64 (x11_2 + 1)),(by first | rfl | (simp;done) | (simp [*];done)),H',⟨by have:=HJ2.out;have:=HK2.out;omega⟩,⟨R_mv (Kd.R_mono HO_6.out (fun _ hk=>⟨hk.1.1,⟨hk.1.2.1,hk.1.2.2⟩⟩))⟩,⟨R_mv (Kd.R_mono HO_7.out (fun _ hk=>⟨hk.1.1,⟨hk.1.2.1,hk.1.2.2⟩⟩))⟩,⟨R_mv (Kd.R_mono HO_9.out (fun _ hk=>⟨hk.1.1,⟨hk.1.2.1,hk.1.2.2⟩⟩))⟩,⟨R_mv (Kd.R_mono HO_10.out (fun _ hk=>⟨hk.1.1,⟨hk.1.2.1,hk.1.2.2⟩⟩))⟩,⟨bmv HB.out⟩⟩
           · rw [if_neg c14] at H
             exact absurd H (by simp)
         · rw [if_neg c13] at H
           exact absurd H (by simp)
       · rw [if_neg c12] at H
         have c12b0 : decide (x11_2 < (t421.length : Int)) = false:=decide_eq_false c12
         clear c12
         simp only [Option.some.injEq,Prod.mk.injEq] at H
         obtain ⟨rfl,rfl⟩:=H
         obtain ⟨Ao29,co29,eo29⟩:=Kd.R_slice HO_9.out
         subst eo29
         go_wp2
         go_ret2
         exact ⟨_,_,by first | rfl | (simp [errW_none,errW_some] <;> rfl) | (simp [*,errW_none,errW_some] <;> rfl),R_mv (Kd.R_mono HO_6.out (fun _ hk=>hk.1)),R_mv (Kd.R_mono HO_7.out (fun _ hk=>hk.1)),bmv HB.out⟩
end Go.Proofs.YtbblomnhobodkaaDoor.PTw
namespace Go.Proofs.YtbblomnhobodkaaDoor.PTw
open Go.RowKit Go.Proofs.YtbblomnhobodkaaDoorW.PW Go.Proofs.YtbblomnhobodkaaDoorW.PL Go.Proofs.YtbblomnhobodkaaDoorW.PM
attribute [local go_sem] max2_int min2_int max_two min_two max_three min_three max_four min_four   -- for this text's walks alone
set_option linter.unusedVariables false
set_option linter.unusedSimpArgs false
mutual
def w4keys.j0 : Nat→Int→Bool→Int→Int→Bool→Int→Int→Int→Int→List Int→Int→Option (List Int)
 | 0,_,_,_,_,_,_,_,_,_,_,_=>none
 | k + 1,x7,x26,x440000,x440001,x440002,x440003,x440004,x440005,x440006,x440007,x440008=>if x26 = true then (w4keys.j1 k (wrap64 (x7 + x440008)) x440000 x440001 x440002 x440003 x440004 x440005 x440006 x440007 x440008) else (w4keys.j1 k x7 x440000 x440001 x440002 x440003 x440004 x440005 x440006 x440007 x440008)
def w4keys.j1 : Nat→Int→Int→Int→Bool→Int→Int→Int→Int→List Int→Int→Option (List Int)
 | 0,_,_,_,_,_,_,_,_,_,_=>none
 | k + 1,x7,x440000,x440001,x440002,x440003,x440004,x440005,x440006,x440007,x440008=>w4keys.l0 k x7 ([] : List Int) 0 x440000 x440001 x440002 x440003 x440004 x440005 x440006 x440007 x440008
def w4keys.l0 : Nat→Int→List Int→Int→Int→Int→Bool→Int→Int→Int→Int→List Int→Int→Option (List Int)
 | 0,_,_,_,_,_,_,_,_,_,_,_,_=>none
 | k + 1,x7,x8,x9,x440000,x440001,x440002,x440003,x440004,x440005,x440006,x440007,x440008=>if x9 < x7 then (if x8.length < 17592186044416 then (w4keys.l0 k x7 (x8 ++ [x440003]) (wrap64 (x9 + 1)) x440000 x440001 x440002 x440003 x440004 x440005 x440006 x440007 x440008) else (none)) else (some x8)
end
def w4keys.f (k : Nat) (l0 : List (S29)) (a1_0 : Int) (a1_1 : Int) (a1_2 : Bool) (a1_3 : Int) (a1_4 : Int) (a1_5 : Int) (a1_6 : Int) (l1_7 : List Int) (a1_8 : Int) : Option (List Int):=(r4Filtered.f k l0 a1_1).bind fun bt440=>(if a1_8≥(-40) then (w4keys.j0 k (bt440.1.length : Int) (decide (a1_8≤40)) a1_0 a1_1 a1_2 a1_3 a1_4 a1_5 a1_6 l1_7 a1_8) else (w4keys.j0 k (bt440.1.length : Int) false a1_0 a1_1 a1_2 a1_3 a1_4 a1_5 a1_6 l1_7 a1_8))
theorem w4keys.mono_l : ∀ k,(∀ y0 y1 y2 y3 y4 y5 y6 y7 y8 y9 y10,LeO (w4keys.j0 k y0 y1 y2 y3 y4 y5 y6 y7 y8 y9 y10) (w4keys.j0 (k + 1) y0 y1 y2 y3 y4 y5 y6 y7 y8 y9 y10))∧(∀ y0 y1 y2 y3 y4 y5 y6 y7 y8 y9,LeO (w4keys.j1 k y0 y1 y2 y3 y4 y5 y6 y7 y8 y9) (w4keys.j1 (k + 1) y0 y1 y2 y3 y4 y5 y6 y7 y8 y9))∧(∀ y0 y1 y2 y3 y4 y5 y6 y7 y8 y9 y10 y11,LeO (w4keys.l0 k y0 y1 y2 y3 y4 y5 y6 y7 y8 y9 y10 y11) (w4keys.l0 (k + 1) y0 y1 y2 y3 y4 y5 y6 y7 y8 y9 y10 y11))
 | 0=>⟨fun _ _ _ _ _ _ _ _ _ _ _ r h=>by simp [w4keys.j0] at h,fun _ _ _ _ _ _ _ _ _ _ r h=>by simp [w4keys.j1] at h,fun _ _ _ _ _ _ _ _ _ _ _ _ r h=>by simp [w4keys.l0] at h⟩
 | k + 1=>by
  obtain ⟨ih0,ih1,ih2⟩:=w4keys.mono_l k
  refine ⟨?_,?_,?_⟩
  · intro y0 y1 y2 y3 y4 y5 y6 y7 y8 y9 y10
    unfold w4keys.j0
    repeat' first
    | (with_reducible exact ih0 _ _ _ _ _ _ _ _ _ _ _)
    | (with_reducible exact ih1 _ _ _ _ _ _ _ _ _ _)
    | (with_reducible exact ih2 _ _ _ _ _ _ _ _ _ _ _ _)
    | (with_reducible exact r4Filtered.mono _ _ _)
    | (with_reducible exact LeO.refl _)
    | (with_reducible exact LeO.none _)
    | (with_reducible refine LeO.ite ?_ ?_)
    | (with_reducible refine LeO.bind ?_ (fun _=>?_))
    | exact ih0 _ _ _ _ _ _ _ _ _ _ _
    | exact ih1 _ _ _ _ _ _ _ _ _ _
    | exact ih2 _ _ _ _ _ _ _ _ _ _ _ _
    | exact r4Filtered.mono _ _ _
    | exact LeO.none _
    | refine LeO.ite ?_ ?_
    | refine LeO.bind ?_ (fun _=>?_)
  · intro y0 y1 y2 y3 y4 y5 y6 y7 y8 y9
    unfold w4keys.j1
    repeat' first
    | (with_reducible exact ih0 _ _ _ _ _ _ _ _ _ _ _)
    | (with_reducible exact ih1 _ _ _ _ _ _ _ _ _ _)
    | (with_reducible exact ih2 _ _ _ _ _ _ _ _ _ _ _ _)
    | (with_reducible exact r4Filtered.mono _ _ _)
    | (with_reducible exact LeO.refl _)
    | (with_reducible exact LeO.none _)
    | (with_reducible refine LeO.ite ?_ ?_)
    | (with_reducible refine LeO.bind ?_ (fun _=>?_))
    | exact ih0 _ _ _ _ _ _ _ _ _ _ _
    | exact ih1 _ _ _ _ _ _ _ _ _ _
    | exact ih2 _ _ _ _ _ _ _ _ _ _ _ _
    | exact r4Filtered.mono _ _ _
    | exact LeO.none _
    | refine LeO.ite ?_ ?_
    | refine LeO.bind ?_ (fun _=>?_)
  · intro y0 y1 y2 y3 y4 y5 y6 y7 y8 y9 y10 y11
    unfold w4keys.l0
    repeat' first
    | (with_reducible exact ih0 _ _ _ _ _ _ _ _ _ _ _)
    | (with_reducible exact ih1 _ _ _ _ _ _ _ _ _ _)
    | (with_reducible exact ih2 _ _ _ _ _ _ _ _ _ _ _ _)
    | (with_reducible exact r4Filtered.mono _ _ _)
    | (with_reducible exact LeO.refl _)
    | (with_reducible exact LeO.none _)
    | (with_reducible refine LeO.ite ?_ ?_)
    | (with_reducible refine LeO.bind ?_ (fun _=>?_))
    | exact ih0 _ _ _ _ _ _ _ _ _ _ _
    | exact ih1 _ _ _ _ _ _ _ _ _ _
    | exact ih2 _ _ _ _ _ _ _ _ _ _ _ _
    | exact r4Filtered.mono _ _ _
    | exact LeO.none _
    | refine LeO.ite ?_ ?_
    | refine LeO.bind ?_ (fun _=>?_)
theorem w4keys.mono : ∀ a0 a1 a2 a3 a4 a5 a6 a7 a8 a9 k,LeO (w4keys.f k a0 a1 a2 a3 a4 a5 a6 a7 a8 a9) (w4keys.f (k + 1) a0 a1 a2 a3 a4 a5 a6 a7 a8 a9):=by
 intro a0 a1 a2 a3 a4 a5 a6 a7 a8 a9 k
 obtain ⟨ih0,ih1,ih2⟩:=w4keys.mono_l k
 unfold w4keys.f
 repeat' first
  | (with_reducible exact ih0 _ _ _ _ _ _ _ _ _ _ _)
  | (with_reducible exact ih1 _ _ _ _ _ _ _ _ _ _)
  | (with_reducible exact ih2 _ _ _ _ _ _ _ _ _ _ _ _)
  | (with_reducible exact r4Filtered.mono _ _ _)
  | (with_reducible exact LeO.refl _)
  | (with_reducible exact LeO.none _)
  | (with_reducible refine LeO.ite ?_ ?_)
  | (with_reducible refine LeO.bind ?_ (fun _=>?_))
  | exact ih0 _ _ _ _ _ _ _ _ _ _ _
  | exact ih1 _ _ _ _ _ _ _ _ _ _
  | exact ih2 _ _ _ _ _ _ _ _ _ _ _ _
  | exact r4Filtered.mono _ _ _
  | exact LeO.none _
  | refine LeO.ite ?_ ?_
  | refine LeO.bind ?_ (fun _=>?_)
set_option maxHeartbeats 8000000 in
set_option maxRecDepth 100000 in
theorem w4keys.calls (k : Nat) (A0 : Option Addr) (c0 : Nat) (l0 : List (S29)) (a1_0 : Int) (a1_1 : Int) (a1_2 : Bool) (a1_3 : Int) (a1_4 : Int) (a1_5 : Int) (a1_6 : Int) (A1_7 : Option Addr) (c1_7 : Nat) (l1_7 : List Int) (a1_8 : Int) (r : List Int) (w : World) (hr0 : Kd.C k29 w A0 l0.length l0) (hc0 : l0.length≤c0) (hr1_7 : Kd.C (Kd.int .i64) w A1_7 l1_7.length l1_7) (hc1_7 : l1_7.length≤c1_7) (h : w4keys.f k l0 a1_0 a1_1 a1_2 a1_3 a1_4 a1_5 a1_6 l1_7 a1_8 = some r) :
 Calls Tryd.prog 39 #[.slice A0 l0.length c0,.agg #[.int .i64 a1_0,.int .i64 a1_1,.bool a1_2,.int .i64 a1_3,.int .i64 a1_4,.int .i64 a1_5,.int .i64 a1_6,.slice A1_7 l1_7.length c1_7,.int .i64 a1_8]] w fun e w'=>∃ v0_ : Value,e = .returned (v0_)∧Kd.R (Kd.int .i64) 3 w' w.heap.size (fun _=>True) v0_ r∧Below w.heap.size w w':=by
 have hu32:=Tryd.underlying32
 have HR0:=Az.mk hr0
 have HC0:=Az.mk hc0
 clear hr0 hc0
 have HR1_7:=Az.mk hr1_7
 have HC1_7:=Az.mk hc1_7
 clear hr1_7 hc1_7
 have HB:=Az.mk (Below.refl w.heap.size w)
 have H : ((r4Filtered.f k l0 a1_1).bind fun bt440=>(if a1_8≥(-40) then (w4keys.j0 k (bt440.1.length : Int) (decide (a1_8≤40)) a1_0 a1_1 a1_2 a1_3 a1_4 a1_5 a1_6 l1_7 a1_8) else (w4keys.j0 k (bt440.1.length : Int) false a1_0 a1_1 a1_2 a1_3 a1_4 a1_5 a1_6 l1_7 a1_8))) = some r:=h
 clear h
 replace H:=Option.bind_eq_some_iff.mp H
 obtain ⟨⟨t440,t441⟩,A30,H⟩:=H
 replace H : (if a1_8≥(-40) then (w4keys.j0 k (t440.length : Int) (decide (a1_8≤40)) a1_0 a1_1 a1_2 a1_3 a1_4 a1_5 a1_6 l1_7 a1_8) else (w4keys.j0 k (t440.length : Int) false a1_0 a1_1 a1_2 a1_3 a1_4 a1_5 a1_6 l1_7 a1_8)) = some r:=H
 have A3:=Az.mk A30
 clear A30
 have HC4:=Az.mk H
 clear H
 go_enter Tryd.func39,Tryd.ntmps39
 go_upto_region 3 with (first | ((with_reducible refine gate_dst (N:=3) rfl ?_);refine box_event ?hg (N:=3) ?hd (cs:=#[.int .i64 a1_0,.int .i64 a1_1,.bool a1_2,.int .i64 a1_3,.int .i64 a1_4,.int .i64 a1_5,.int .i64 a1_6,.slice A1_7 l1_7.length c1_7,.int .i64 a1_8]) (t:=32) ?hr ?_;(case hd=>rfl);(case hg=>rfl);(case hr=>first | (go_simp;done) | (go_simp;rfl));intro gb439 hg w5 hbox hb;have n0_:=Az.mk (bwT (bmv HB.out) hb);have n1_:=Az.mk (hbox);have n2_:=Az.mk ((by rw [hg];exact (bwZ (bmv HB.out)) : w.heap.size≤gb439));have n3_:=Az.mk ((by rw [hg];exact (bwZ (bmv HB.out)) : w.heap.size≤gb439));clear HB;have HB:=n0_;have BK439:=n1_;have GW439:=n2_;have GE439:=n3_;clear n0_ n1_ n2_ n3_;clear hb hbox hg;obtain ⟨⟨hcz6_0,hcz6_1,hcz6_2,hcz6_3,hcz6_4,hcz6_5,hcz6_6,hcz6_7,hcz6_8⟩,hfz6_0,hfz6_1,hfz6_2,hfz6_3,hfz6_4,hfz6_5,hfz6_6,hfz6_7,hfz6_8⟩:=cells9 BK439.out) | ((with_reducible refine gate_callee (f:=37) rfl ?_);refine goesL_ (some 14) rfl rfl Tryd.func37 (by kernel_rfl) rfl #[.slice A0 l0.length c0,.int .i64 a1_1] rfl (by (try simp only [List.map_toArray,List.map_cons,List.map_nil]);first | done | rfl | (simp only [List.length_drop,List.length_take];rfl)) ?_;(with_reducible refine (r4Filtered.calls k _ _ l0 a1_1 t440 t441 _ ?side1 ?side2 A3.out).mono ?_);(case side1=>exact C_mv ((Kd.C_below HR0.out HB.out)));(case side2=>exact HC0.out);rintro e w7 ⟨v442,v444,rfl,ho0,ho1,hb⟩;refine ⟨_,rfl,?_⟩;have n0_:=Az.mk (Kd.R_lower ho0 (bwZ (by repeat (with_reducible first | exact bmv HB.out | refine bwS ?_ GE439.out))));have n1_:=Az.mk (Kd.R_lower ho1 (bwZ (by repeat (with_reducible first | exact bmv HB.out | refine bwS ?_ GE439.out))));have n2_:=Az.mk (kB (g:=gb439) (o:=.cells #[.int .i64 a1_0,.int .i64 a1_1,.bool a1_2,.int .i64 a1_3,.int .i64 a1_4,.int .i64 a1_5,.int .i64 a1_6,.slice A1_7 l1_7.length c1_7,.int .i64 a1_8] 32 (0,0)) (blk_mv BK439.out) hb);have n3_:=Az.mk (bwT (by repeat (with_reducible first | exact bmv HB.out | refine bwS ?_ GE439.out)) hb);clear BK439;clear HB;have HO443:=n0_;have HO445:=n1_;have BK439:=n2_;have HB:=n3_;clear n0_ n1_ n2_ n3_;(try clear hb);(try clear hb2);(try clear hk);(try clear hi);(try clear ho0);(try clear ho1);obtain ⟨Ao8,co8,eo8⟩:=Kd.R_slice HO443.out;subst eo8))
 (try simp only [Act.put,List.setIfInBounds_toArray,List.set_cons_zero,List.set_cons_succ])
 go_cut [26] (fun v26 wc=>∃ (kq : Nat) (x26_3 : Bool),v26 = .bool x26_3∧Az (w4keys.j0 kq (t440.length : Int) x26_3 a1_0 a1_1 a1_2 a1_3 a1_4 a1_5 a1_6 l1_7 a1_8 = some r)∧Az (kq≤k)∧Az (wc.heap[gb439]? = some (.cells #[.int .i64 a1_0,.int .i64 a1_1,.bool a1_2,.int .i64 a1_3,.int .i64 a1_4,.int .i64 a1_5,.int .i64 a1_6,(.slice A1_7 l1_7.length c1_7),.int .i64 a1_8] 32 (0,0)))∧Az (Below w.heap.size w wc))
 case first=>
  have H:=HC4.out
  clear HC4
  by_cases c9 : a1_8≥(-40)
  · rw [if_pos c9] at H
    have c9b0 : decide ((-40)≤a1_8) = true:=decide_eq_true c9
    clear c9
    (first | rw [c9b0] | (simp only [i64_w,i32_w];rw [c9b0]) | skip)
    have H':=Az.mk H
    clear H
    have hcz10_0 : w7.cell? ⟨gb439,0,none⟩ = some (.int .i64 a1_0):=(kC BK439.out 0).trans rfl
    have hcz10_1 : w7.cell? ⟨gb439,1,none⟩ = some (.int .i64 a1_1):=(kC BK439.out 1).trans rfl
    have hcz10_2 : w7.cell? ⟨gb439,2,none⟩ = some (.bool a1_2):=(kC BK439.out 2).trans rfl
    have hcz10_3 : w7.cell? ⟨gb439,3,none⟩ = some (.int .i64 a1_3):=(kC BK439.out 3).trans rfl
    have hcz10_4 : w7.cell? ⟨gb439,4,none⟩ = some (.int .i64 a1_4):=(kC BK439.out 4).trans rfl
    have hcz10_5 : w7.cell? ⟨gb439,5,none⟩ = some (.int .i64 a1_5):=(kC BK439.out 5).trans rfl
    have hcz10_6 : w7.cell? ⟨gb439,6,none⟩ = some (.int .i64 a1_6):=(kC BK439.out 6).trans rfl
    have hcz10_7 : w7.cell? ⟨gb439,7,none⟩ = some (.slice A1_7 l1_7.length c1_7):=(kC BK439.out 7).trans rfl
    have hcz10_8 : w7.cell? ⟨gb439,8,none⟩ = some (.int .i64 a1_8):=(kC BK439.out 8).trans rfl
    have hfz10_0:=kF BK439.out 0
    have hfz10_1:=kF BK439.out 1
    have hfz10_2:=kF BK439.out 2
    have hfz10_3:=kF BK439.out 3
    have hfz10_4:=kF BK439.out 4
    have hfz10_5:=kF BK439.out 5
    have hfz10_6:=kF BK439.out 6
    have hfz10_7:=kF BK439.out 7
    have hfz10_8:=kF BK439.out 8
    go_wp2
    go_meet
    case rel=>exact ⟨_,(decide (a1_8≤40)),(by first | rfl | (simp;done) | (simp [*];done)),H',⟨by first | omega | exact Nat.le_refl _⟩,⟨blk_mv BK439.out⟩,⟨by repeat (with_reducible first | exact bmv HB.out | refine bwS ?_ GE439.out)⟩⟩
  · rw [if_neg c9] at H
    have c9b0 : decide ((-40)≤a1_8) = false:=decide_eq_false c9
    clear c9
    (first | rw [c9b0] | (simp only [i64_w,i32_w];rw [c9b0]) | skip)
    have H':=Az.mk H
    clear H
    have hcz11_0 : w7.cell? ⟨gb439,0,none⟩ = some (.int .i64 a1_0):=(kC BK439.out 0).trans rfl
    have hcz11_1 : w7.cell? ⟨gb439,1,none⟩ = some (.int .i64 a1_1):=(kC BK439.out 1).trans rfl
    have hcz11_2 : w7.cell? ⟨gb439,2,none⟩ = some (.bool a1_2):=(kC BK439.out 2).trans rfl
    have hcz11_3 : w7.cell? ⟨gb439,3,none⟩ = some (.int .i64 a1_3):=(kC BK439.out 3).trans rfl
    have hcz11_4 : w7.cell? ⟨gb439,4,none⟩ = some (.int .i64 a1_4):=(kC BK439.out 4).trans rfl
    have hcz11_5 : w7.cell? ⟨gb439,5,none⟩ = some (.int .i64 a1_5):=(kC BK439.out 5).trans rfl
    have hcz11_6 : w7.cell? ⟨gb439,6,none⟩ = some (.int .i64 a1_6):=(kC BK439.out 6).trans rfl
    have hcz11_7 : w7.cell? ⟨gb439,7,none⟩ = some (.slice A1_7 l1_7.length c1_7):=(kC BK439.out 7).trans rfl
    have hcz11_8 : w7.cell? ⟨gb439,8,none⟩ = some (.int .i64 a1_8):=(kC BK439.out 8).trans rfl
    have hfz11_0:=kF BK439.out 0
    have hfz11_1:=kF BK439.out 1
    have hfz11_2:=kF BK439.out 2
    have hfz11_3:=kF BK439.out 3
    have hfz11_4:=kF BK439.out 4
    have hfz11_5:=kF BK439.out 5
    have hfz11_6:=kF BK439.out 6
    have hfz11_7:=kF BK439.out 7
    have hfz11_8:=kF BK439.out 8
    go_wp2
    go_meet
    case rel=>exact ⟨_,(false),(by first | rfl | (simp;done) | (simp [*];done)),H',⟨by first | omega | exact Nat.le_refl _⟩,⟨blk_mv BK439.out⟩,⟨by repeat (with_reducible first | exact bmv HB.out | refine bwS ?_ GE439.out)⟩⟩
 case rest=>
  clear HC4
  try clear c9
  try clear c9b0
  try clear hcz10_0
  try clear hcz10_1
  try clear hcz10_2
  try clear hcz10_3
  try clear hcz10_4
  try clear hcz10_5
  try clear hcz10_6
  try clear hcz10_7
  try clear hcz10_8
  try clear hcz11_0
  try clear hcz11_1
  try clear hcz11_2
  try clear hcz11_3
  try clear hcz11_4
  try clear hcz11_5
  try clear hcz11_6
  try clear hcz11_7
  try clear hcz11_8
  try clear hcz6_0
  try clear hcz6_1
  try clear hcz6_2
  try clear hcz6_3
  try clear hcz6_4
  try clear hcz6_5
  try clear hcz6_6
  try clear hcz6_7
  try clear hcz6_8
  try clear hfz10_0
  try clear hfz10_1
  try clear hfz10_2
  try clear hfz10_3
  try clear hfz10_4
  try clear hfz10_5
  try clear hfz10_6
  try clear hfz10_7
  try clear hfz10_8
  try clear hfz11_0
  try clear hfz11_1
  try clear hfz11_2
  try clear hfz11_3
  try clear hfz11_4
  try clear hfz11_5
  try clear hfz11_6
  try clear hfz11_7
  try clear hfz11_8
  try clear hfz6_0
  try clear hfz6_1
  try clear hfz6_2
  try clear hfz6_3
  try clear hfz6_4
  try clear hfz6_5
  try clear hfz6_6
  try clear hfz6_7
  try clear hfz6_8
  obtain ⟨kq,x26_3,rfl,HA,HJ3,BK439,HB⟩:=hcut
  cases kq with
  | zero=>exact absurd HA.out (by simp [w4keys.j0])
  | succ kj3=>
   have H:=HA.out
   clear HA
   simp only [w4keys.j0] at H
   have HC12:=Az.mk H
   clear H
   go_upto_if 26 with (fail)
   go_cut [7] (fun v7 wc=>∃ (kq : Nat) (x7_11 : Int),v7 = .int .i64 x7_11∧Az (w4keys.j1 kq x7_11 a1_0 a1_1 a1_2 a1_3 a1_4 a1_5 a1_6 l1_7 a1_8 = some r)∧Az (kq≤kj3)∧Az (wc.heap[gb439]? = some (.cells #[.int .i64 a1_0,.int .i64 a1_1,.bool a1_2,.int .i64 a1_3,.int .i64 a1_4,.int .i64 a1_5,.int .i64 a1_6,(.slice A1_7 l1_7.length c1_7),.int .i64 a1_8] 32 (0,0)))∧Az (Below w.heap.size w wc))
   case first=>
    have H:=HC12.out
    clear HC12
    by_cases c13 : x26_3 = true
    · subst c13
      have H1 : (w4keys.j1 kj3 (wrap64 ((t440.length : Int) + a1_8)) a1_0 a1_1 a1_2 a1_3 a1_4 a1_5 a1_6 l1_7 a1_8) = some r:=by rw [if_pos rfl] at H;exact H
      clear H
      have H:=H1
      clear H1
      have H':=Az.mk H
      clear H
      have hcz14_0 : wc.cell? ⟨gb439,0,none⟩ = some (.int .i64 a1_0):=(kC BK439.out 0).trans rfl
      have hcz14_1 : wc.cell? ⟨gb439,1,none⟩ = some (.int .i64 a1_1):=(kC BK439.out 1).trans rfl
      have hcz14_2 : wc.cell? ⟨gb439,2,none⟩ = some (.bool a1_2):=(kC BK439.out 2).trans rfl
      have hcz14_3 : wc.cell? ⟨gb439,3,none⟩ = some (.int .i64 a1_3):=(kC BK439.out 3).trans rfl
      have hcz14_4 : wc.cell? ⟨gb439,4,none⟩ = some (.int .i64 a1_4):=(kC BK439.out 4).trans rfl
      have hcz14_5 : wc.cell? ⟨gb439,5,none⟩ = some (.int .i64 a1_5):=(kC BK439.out 5).trans rfl
      have hcz14_6 : wc.cell? ⟨gb439,6,none⟩ = some (.int .i64 a1_6):=(kC BK439.out 6).trans rfl
      have hcz14_7 : wc.cell? ⟨gb439,7,none⟩ = some (.slice A1_7 l1_7.length c1_7):=(kC BK439.out 7).trans rfl
      have hcz14_8 : wc.cell? ⟨gb439,8,none⟩ = some (.int .i64 a1_8):=(kC BK439.out 8).trans rfl
      have hfz14_0:=kF BK439.out 0
      have hfz14_1:=kF BK439.out 1
      have hfz14_2:=kF BK439.out 2
      have hfz14_3:=kF BK439.out 3
      have hfz14_4:=kF BK439.out 4
      have hfz14_5:=kF BK439.out 5
      have hfz14_6:=kF BK439.out 6
      have hfz14_7:=kF BK439.out 7
      have hfz14_8:=kF BK439.out 8
      go_wp2
      go_meet
      case rel=>exact ⟨_,(wrap64 ((t440.length : Int) + a1_8)),(by first | rfl | (simp;done) | (simp [*];done)),H',⟨by have:=HJ3.out;first | omega | exact Nat.le_refl _⟩,⟨blk_mv BK439.out⟩,⟨by repeat (with_reducible first | exact bmv HB.out | refine bwS ?_ GE439.out)⟩⟩
    · replace c13:=Bool.eq_false_iff.mpr c13
      subst c13
      have H1 : (w4keys.j1 kj3 (t440.length : Int) a1_0 a1_1 a1_2 a1_3 a1_4 a1_5 a1_6 l1_7 a1_8) = some r:=by rw [if_neg (show ¬ (false = true) by decide)] at H;exact H
      clear H
      have H:=H1
      clear H1
      have H':=Az.mk H
      clear H
      go_wp2
      go_meet
      case rel=>exact ⟨_,((t440.length : Int)),(by first | rfl | (simp;done) | (simp [*];done)),H',⟨by have:=HJ3.out;first | omega | exact Nat.le_refl _⟩,⟨blk_mv BK439.out⟩,⟨by repeat (with_reducible first | exact bmv HB.out | refine bwS ?_ GE439.out)⟩⟩
   case rest=>
    clear HC12
    try clear c9
    try clear c9b0
    try clear c13
    try clear hcz10_0
    try clear hcz10_1
    try clear hcz10_2
    try clear hcz10_3
    try clear hcz10_4
    try clear hcz10_5
    try clear hcz10_6
    try clear hcz10_7
    try clear hcz10_8
    try clear hcz11_0
    try clear hcz11_1
    try clear hcz11_2
    try clear hcz11_3
    try clear hcz11_4
    try clear hcz11_5
    try clear hcz11_6
    try clear hcz11_7
    try clear hcz11_8
    try clear hcz14_0
    try clear hcz14_1
    try clear hcz14_2
    try clear hcz14_3
    try clear hcz14_4
    try clear hcz14_5
    try clear hcz14_6
    try clear hcz14_7
    try clear hcz14_8
    try clear hcz6_0
    try clear hcz6_1
    try clear hcz6_2
    try clear hcz6_3
    try clear hcz6_4
    try clear hcz6_5
    try clear hcz6_6
    try clear hcz6_7
    try clear hcz6_8
    try clear hfz10_0
    try clear hfz10_1
    try clear hfz10_2
    try clear hfz10_3
    try clear hfz10_4
    try clear hfz10_5
    try clear hfz10_6
    try clear hfz10_7
    try clear hfz10_8
    try clear hfz11_0
    try clear hfz11_1
    try clear hfz11_2
    try clear hfz11_3
    try clear hfz11_4
    try clear hfz11_5
    try clear hfz11_6
    try clear hfz11_7
    try clear hfz11_8
    try clear hfz14_0
    try clear hfz14_1
    try clear hfz14_2
    try clear hfz14_3
    try clear hfz14_4
    try clear hfz14_5
    try clear hfz14_6
    try clear hfz14_7
    try clear hfz14_8
    try clear hfz6_0
    try clear hfz6_1
    try clear hfz6_2
    try clear hfz6_3
    try clear hfz6_4
    try clear hfz6_5
    try clear hfz6_6
    try clear hfz6_7
    try clear hfz6_8
    obtain ⟨kq,x7_11,rfl,HA,HJ11,BK439,HB⟩:=hcut
    cases kq with
    | zero=>exact absurd HA.out (by simp [w4keys.j1])
    | succ kj11=>
     have H:=HA.out
     clear HA
     simp only [w4keys.j1] at H
     have H':=Az.mk H
     clear H
     go_wp2
     go_loopg [8,9] kj11 (fun kq v8 v9 w'=>∃ (x8_3 : List Int) (x9_3 : Int),v9 = .int .i64 x9_3∧Az (w4keys.l0 kq x7_11 x8_3 x9_3 a1_0 a1_1 a1_2 a1_3 a1_4 a1_5 a1_6 l1_7 a1_8 = some r)∧Az (kq≤kj11)∧Az (Kd.R (Kd.int .i64) 3 w' w.heap.size (fun _=>True) v8 x8_3)∧Az (w'.heap[gb439]? = some (.cells #[.int .i64 a1_0,.int .i64 a1_1,.bool a1_2,.int .i64 a1_3,.int .i64 a1_4,.int .i64 a1_5,.int .i64 a1_6,(.slice A1_7 l1_7.length c1_7),.int .i64 a1_8] 32 (0,0)))∧Az (Below w.heap.size w w'))
     case atStart=>exact ⟨(([] : List Int)),(0),(by first | rfl | (simp;done) | (simp [*];done)),H',⟨Nat.le_refl _⟩,⟨by first | exact Kd.R_nil _ _ _ _ _ | exact Kd.N_nil _ _ _ _ _ | exact Kd.V_nil _ _ _ _ _ | exact Kd.Q_nil _ _ _ _ _ | exact Kd.S_nil _ _ _ _ _⟩,⟨blk_mv BK439.out⟩,⟨by repeat (with_reducible first | exact bmv HB.out | refine bwS ?_ GE439.out)⟩⟩
     case round=>
      clear H'
      try clear c9
      try clear c9b0
      try clear c13
      try clear hcz10_0
      try clear hcz10_1
      try clear hcz10_2
      try clear hcz10_3
      try clear hcz10_4
      try clear hcz10_5
      try clear hcz10_6
      try clear hcz10_7
      try clear hcz10_8
      try clear hcz11_0
      try clear hcz11_1
      try clear hcz11_2
      try clear hcz11_3
      try clear hcz11_4
      try clear hcz11_5
      try clear hcz11_6
      try clear hcz11_7
      try clear hcz11_8
      try clear hcz14_0
      try clear hcz14_1
      try clear hcz14_2
      try clear hcz14_3
      try clear hcz14_4
      try clear hcz14_5
      try clear hcz14_6
      try clear hcz14_7
      try clear hcz14_8
      try clear hcz6_0
      try clear hcz6_1
      try clear hcz6_2
      try clear hcz6_3
      try clear hcz6_4
      try clear hcz6_5
      try clear hcz6_6
      try clear hcz6_7
      try clear hcz6_8
      try clear hfz10_0
      try clear hfz10_1
      try clear hfz10_2
      try clear hfz10_3
      try clear hfz10_4
      try clear hfz10_5
      try clear hfz10_6
      try clear hfz10_7
      try clear hfz10_8
      try clear hfz11_0
      try clear hfz11_1
      try clear hfz11_2
      try clear hfz11_3
      try clear hfz11_4
      try clear hfz11_5
      try clear hfz11_6
      try clear hfz11_7
      try clear hfz11_8
      try clear hfz14_0
      try clear hfz14_1
      try clear hfz14_2
      try clear hfz14_3
      try clear hfz14_4
      try clear hfz14_5
      try clear hfz14_6
      try clear hfz14_7
      try clear hfz14_8
      try clear hfz6_0
      try clear hfz6_1
      try clear hfz6_2
      try clear hfz6_3
      try clear hfz6_4
      try clear hfz6_5
      try clear hfz6_6
      try clear hfz6_7
      try clear hfz6_8
      obtain ⟨x8_3,x9_3,rfl,HA,HK3,HO_8,BK439,HB⟩:=hrel
      cases gk with
      | zero=>exact absurd HA.out (by simp [w4keys.l0])
      | succ k3=>
       have H:=HA.out
       clear HA
       simp only [w4keys.l0] at H
       by_cases c15 : x9_3 < x7_11
       · rw [if_pos c15] at H
         have c15b0 : decide (x9_3 < x7_11) = true:=decide_eq_true c15
         clear c15
         by_cases c16 : x8_3.length < 17592186044416
         · rw [if_pos c16] at H
           have LMc16:=Az.mk c16
           clear c16
           obtain ⟨y446,hy446⟩ : ∃ y_ : List Int,y_ = (x8_3 ++ [a1_3]):=⟨_,rfl⟩
           replace H : (w4keys.l0 k3 x7_11 y446 (wrap64 (x9_3 + 1)) a1_0 a1_1 a1_2 a1_3 a1_4 a1_5 a1_6 l1_7 a1_8) = some r:=by first | (rw [hy446];with_reducible exact H) | (have H2_:=(Option.bind_some _ _).symm.trans H;rw [hy446];with_reducible exact H2_) | (have H2_:=(Option.bind_some _ _).symm.trans H;with_reducible exact H2_) | with_reducible exact H | (rw [hy446];exact H) | exact H
           have Ny446:=Az.mk hy446
           clear hy446
           have H':=Az.mk H
           clear H
           have hcz17_0 : wr.cell? ⟨gb439,0,none⟩ = some (.int .i64 a1_0):=(kC BK439.out 0).trans rfl
           have hcz17_1 : wr.cell? ⟨gb439,1,none⟩ = some (.int .i64 a1_1):=(kC BK439.out 1).trans rfl
           have hcz17_2 : wr.cell? ⟨gb439,2,none⟩ = some (.bool a1_2):=(kC BK439.out 2).trans rfl
           have hcz17_3 : wr.cell? ⟨gb439,3,none⟩ = some (.int .i64 a1_3):=(kC BK439.out 3).trans rfl
           have hcz17_4 : wr.cell? ⟨gb439,4,none⟩ = some (.int .i64 a1_4):=(kC BK439.out 4).trans rfl
           have hcz17_5 : wr.cell? ⟨gb439,5,none⟩ = some (.int .i64 a1_5):=(kC BK439.out 5).trans rfl
           have hcz17_6 : wr.cell? ⟨gb439,6,none⟩ = some (.int .i64 a1_6):=(kC BK439.out 6).trans rfl
           have hcz17_7 : wr.cell? ⟨gb439,7,none⟩ = some (.slice A1_7 l1_7.length c1_7):=(kC BK439.out 7).trans rfl
           have hcz17_8 : wr.cell? ⟨gb439,8,none⟩ = some (.int .i64 a1_8):=(kC BK439.out 8).trans rfl
           have hfz17_0:=kF BK439.out 0
           have hfz17_1:=kF BK439.out 1
           have hfz17_2:=kF BK439.out 2
           have hfz17_3:=kF BK439.out 3
           have hfz17_4:=kF BK439.out 4
           have hfz17_5:=kF BK439.out 5
           have hfz17_6:=kF BK439.out 6
           have hfz17_7:=kF BK439.out 7
           have hfz17_8:=kF BK439.out 8
           go_wp2_with (first | ((with_reducible refine gate_builtin (b:=.append) (xs:=#[.tmp 36,.tmp 40]) rfl ?_);at_builtin;refine Kd.R_append (Kd.int .i64) (w0:=w) w.heap.size rfl (.tmp 36) (.tmp 40) 27 3 (.int .i64 0) 8 rfl Tryd.underlying27 info3 rfl (by decide) (by omega) u8 x8_3 a1_3 [.int .i64 a1_3] (fun _=>True) (fun _=>False) rfl rfl ?aP (fun _ hk=>hk.elim) ?aF ?aO ?aB ?aS ?aL ?_;(case aP=>exact rfl);(case aB=>exact (by repeat (with_reducible first | exact bmv HB.out | refine bwS ?_ GE439.out)));(case aF=>exact (fun _ _=>trivial));(case aO=>exact (R_mv HO_8.out));(case aS=>exact (bwZ (by repeat (with_reducible first | exact bmv HB.out | refine bwS ?_ GE439.out))));(case aL=>have:=LMc16.out;omega);intro v447 w18 ho hb hg hat;rw [← Ny446.out] at ho;have n0_:=Az.mk (blk_grown (g:=gb439) (o:=.cells #[.int .i64 a1_0,.int .i64 a1_1,.bool a1_2,.int .i64 a1_3,.int .i64 a1_4,.int .i64 a1_5,.int .i64 a1_6,.slice A1_7 l1_7.length c1_7,.int .i64 a1_8] 32 (0,0)) (blk_mv BK439.out) hg (Kd.R_ne HO_8.out BK439.out (by decide)));have n1_:=Az.mk (hb);have n2_:=Az.mk (ho);clear BK439;clear HB;clear HO_8;have BK439:=n0_;have HB:=n1_;have HO448:=n2_;clear n0_ n1_ n2_;clear ho hb hg hat))
           go_roundg k3
           case measure=>have:=HJ3.out;have:=HJ11.out;have:=HK3.out;omega
           case rel=>exact ⟨(y446),(wrap64 (x9_3 + 1)),(by first | rfl | (simp;done) | (simp [*];done)),H',⟨by have:=HJ3.out;have:=HJ11.out;have:=HK3.out;omega⟩,⟨R_mv HO448.out⟩,⟨blk_mv BK439.out⟩,⟨by repeat (with_reducible first | exact bmv HB.out | refine bwS ?_ GE439.out)⟩⟩
         · rw [if_neg c16] at H
           exact absurd H (by simp)
       · rw [if_neg c15] at H
         have c15b0 : decide (x9_3 < x7_11) = false:=decide_eq_false c15
         clear c15
         obtain rfl:=Option.some.inj H
         go_wp2
         go_ret
         exact ⟨_,by first | rfl | (simp [errW_none,errW_some] <;> rfl) | (simp [*,errW_none,errW_some] <;> rfl),R_mv HO_8.out,by repeat (with_reducible first | exact bmv HB.out | refine bwS ?_ GE439.out)⟩
def r4above.l0 : Nat→Int→List (S29)→Int→Int→Option ((List (S29)))
 | 0,_,_,_,_=>none
 | k + 1,x1,x5,x6,x7=>if x7 < (x5.length : Int) then (if x7 = (wrap64 (2 * x1)) then (r4above.l0 k x1 x5 x6 (wrap64 (x7 + 1))) else ((r3Under.f k (wrap64 (2 * x1)) x7 x6).bind fun t453=>(if t453 = true then (if 0≤x7 then (r4above.l0 k x1 (x5.set (x7 : Int).toNat (⟨false,0,0,0,0,([] : List Int)⟩ : S29)) x6 (wrap64 (x7 + 1))) else (none)) else (r4above.l0 k x1 x5 x6 (wrap64 (x7 + 1)))))) else (some x5)
def r4above.f (k : Nat) (l0 : List (S29)) (a1 : Int) : Option ((List (S29))):=(r4Copy.f k l0).bind fun t449=>((r4Leaves.f l0).bind fun t452=>(r4above.l0 k a1 t449 t452 0))
theorem r4above.mono_l : ∀ k,(∀ y0 y1 y2 y3,LeO (r4above.l0 k y0 y1 y2 y3) (r4above.l0 (k + 1) y0 y1 y2 y3))
 | 0=>fun _ _ _ _ r h=>by simp [r4above.l0] at h
 | k + 1=>by
  have ih0:=r4above.mono_l k
  · intro y0 y1 y2 y3
    unfold r4above.l0
    repeat' first
    | (with_reducible exact ih0 _ _ _ _)
    | (with_reducible exact r3Under.mono _ _ _ _)
    | (with_reducible exact r4Copy.mono _ _)
    | (with_reducible exact LeO.refl _)
    | (with_reducible exact LeO.none _)
    | (with_reducible refine LeO.ite ?_ ?_)
    | (with_reducible refine LeO.bind ?_ (fun _=>?_))
    | exact ih0 _ _ _ _
    | exact r3Under.mono _ _ _ _
    | exact r4Copy.mono _ _
    | exact LeO.none _
    | refine LeO.ite ?_ ?_
    | refine LeO.bind ?_ (fun _=>?_)
theorem r4above.mono : ∀ a0 a1 k,LeO (r4above.f k a0 a1) (r4above.f (k + 1) a0 a1):=by
 intro a0 a1 k
 have ih0:=r4above.mono_l k
 unfold r4above.f
 repeat' first
  | (with_reducible exact ih0 _ _ _ _)
  | (with_reducible exact r3Under.mono _ _ _ _)
  | (with_reducible exact r4Copy.mono _ _)
  | (with_reducible exact LeO.refl _)
  | (with_reducible exact LeO.none _)
  | (with_reducible refine LeO.ite ?_ ?_)
  | (with_reducible refine LeO.bind ?_ (fun _=>?_))
  | exact ih0 _ _ _ _
  | exact r3Under.mono _ _ _ _
  | exact r4Copy.mono _ _
  | exact LeO.none _
  | refine LeO.ite ?_ ?_
  | refine LeO.bind ?_ (fun _=>?_)
set_option maxHeartbeats 8000000 in
set_option maxRecDepth 100000 in
theorem r4above.calls (k : Nat) (A0 : Option Addr) (c0 : Nat) (l0 : List (S29)) (a1 : Int) (r : List (S29)) (w : World) (hr0 : Kd.C k29 w A0 l0.length l0) (hc0 : l0.length≤c0) (h : r4above.f k l0 a1 = some r) :
 Calls Tryd.prog 67 #[.slice A0 l0.length c0,.int .i64 a1] w fun e w'=>∃ v0_ : Value,e = .returned (v0_)∧Kd.S k29 29 w' w.heap.size (fun _=>True) v0_ r∧Below w.heap.size w w':=by
 have hu29:=Tryd.underlying29
 have HR0:=Az.mk hr0
 have HC0:=Az.mk hc0
 clear hr0 hc0
 have HB:=Az.mk (Below.refl w.heap.size w)
 have H : ((r4Copy.f k l0).bind fun t449=>((r4Leaves.f l0).bind fun t452=>(r4above.l0 k a1 t449 t452 0))) = some r:=h
 clear h
 replace H:=Option.bind_eq_some_iff.mp H
 obtain ⟨t449,A30,H⟩:=H
 replace H : ((r4Leaves.f l0).bind fun t452=>(r4above.l0 k a1 t449 t452 0)) = some r:=H
 have A3:=Az.mk A30
 clear A30
 replace H:=Option.bind_eq_some_iff.mp H
 obtain ⟨t452,A40,H⟩:=H
 replace H : (r4above.l0 k a1 t449 t452 0) = some r:=H
 have A4:=Az.mk A40
 clear A40
 have H':=Az.mk H
 clear H
 go_enter Tryd.func67,Tryd.ntmps67
 go_wp2_with (first | ((with_reducible refine gate_callee (f:=14) rfl ?_);refine goesL_ (some 9) rfl rfl Tryd.func14 (by kernel_rfl) rfl #[.slice A0 l0.length c0] rfl (by (try simp only [List.map_toArray,List.map_cons,List.map_nil]);first | done | rfl | (simp only [List.length_drop,List.length_take];rfl)) ?_;(with_reducible refine (r4Copy.calls k _ _ l0 t449 _ ?side1 ?side2 A3.out).mono ?_);(case side1=>exact C_mv (HR0.out));(case side2=>exact HC0.out);rintro e w5 ⟨v450,rfl,ho0,hb⟩;refine ⟨_,rfl,?_⟩;have n0_:=Az.mk (Kd.S_lower ho0 (bwZ (bmv HB.out)));have n1_:=Az.mk (bwT (bmv HB.out) hb);clear HB;have HO451:=n0_;have HB:=n1_;clear n0_ n1_;(try clear hb);(try clear hb2);(try clear hk);(try clear hi);(try clear ho0)) | ((with_reducible refine gate_callee (f:=21) rfl ?_);refine goesL_ (some 11) rfl rfl Tryd.func21 (by kernel_rfl) rfl #[.slice A0 l0.length c0] rfl (by (try simp only [List.map_toArray,List.map_cons,List.map_nil]);first | done | rfl | (simp only [List.length_drop,List.length_take];rfl)) ?_;(with_reducible refine (r4Leaves.calls _ _ l0 t452 _ ?side1 ?side2 A4.out).mono ?_);(case side1=>exact C_mv ((Kd.C_below HR0.out HB.out)));(case side2=>exact HC0.out);rintro e w' ⟨rfl,⟨nd,rfl⟩⟩;refine ⟨_,rfl,?_⟩))
 go_loopg [7] k (fun kq v7 w'=>∃ (x5_1 : List (S29)) (x7_1 : Int),v7 = .int .i64 x7_1∧Az (r4above.l0 kq a1 x5_1 t452 x7_1 = some r)∧Az (kq≤k)∧Az (Kd.S k29 29 w' w.heap.size (fun _=>True) v450 x5_1)∧Az (Below w.heap.size w w'))
 case atStart=>exact ⟨(t449),(0),(by first | rfl | (simp;done) | (simp [*];done)),H',⟨Nat.le_refl _⟩,⟨S_mv HO451.out⟩,⟨bmv HB.out⟩⟩
 case round=>
  clear H'
  obtain ⟨x5_1,x7_1,rfl,HA,HK1,HO_5,HB⟩:=hrel
  cases gk with
  | zero=>exact absurd HA.out (by simp [r4above.l0])
  | succ k1=>
   have H:=HA.out
   clear HA
   simp only [r4above.l0] at H
   by_cases c6 : x7_1 < (x5_1.length : Int)
   · rw [if_pos c6] at H
     have c6b0 : decide (x7_1 < (x5_1.length : Int)) = true:=decide_eq_true c6
     clear c6
     by_cases c7 : x7_1 = (wrap64 (2 * a1))
     · rw [if_pos c7] at H
       have c7b0 : (x7_1 == (wrap64 (2 * a1))) = true:=beq_iff_eq.mpr c7
       have c7b1 : (x7_1 != (wrap64 (2 * a1))) = false:=bne_eq_false_iff_eq.mpr c7
       clear c7
       have H':=Az.mk H
       clear H
       obtain ⟨Ao8,co8,eo8⟩:=Kd.S_slice HO_5.out
       subst eo8
       go_wp2
       go_roundg k1
       case measure=>have:=HK1.out;omega
       case rel=>exact ⟨(x5_1),(wrap64 (x7_1 + 1)),(by first | rfl | (simp;done) | (simp [*];done)),H',⟨by have:=HK1.out;omega⟩,⟨S_mv HO_5.out⟩,⟨bmv HB.out⟩⟩
     · rw [if_neg c7] at H
       have c7b0 : (x7_1 == (wrap64 (2 * a1))) = false:=beq_eq_false_iff_ne.mpr c7
       have c7b1 : (x7_1 != (wrap64 (2 * a1))) = true:=bne_iff_ne.mpr c7
       replace H:=Option.bind_eq_some_iff.mp H
       obtain ⟨t453,A90,H⟩:=H
       replace H : (if t453 = true then (if 0≤x7_1 then (r4above.l0 k1 a1 (x5_1.set (x7_1 : Int).toNat (⟨false,0,0,0,0,([] : List Int)⟩ : S29)) t452 (wrap64 (x7_1 + 1))) else (none)) else (r4above.l0 k1 a1 x5_1 t452 (wrap64 (x7_1 + 1)))) = some r:=H
       have A9:=Az.mk A90
       clear A90
       by_cases c10 : t453 = true
       · subst c10
         have H1 : (if 0≤x7_1 then (r4above.l0 k1 a1 (x5_1.set (x7_1 : Int).toNat (⟨false,0,0,0,0,([] : List Int)⟩ : S29)) t452 (wrap64 (x7_1 + 1))) else (none)) = some r:=by rw [if_pos rfl] at H;exact H
         clear H
         have H:=H1
         clear H1
         by_cases c11 : 0≤x7_1
         · rw [if_pos c11] at H
           have c11b0 : decide (0≤x7_1) = true:=decide_eq_true c11
           clear c11
           obtain ⟨y454,hy454⟩ : ∃ y_ : List (S29),y_ = (x5_1.set (x7_1 : Int).toNat (⟨false,0,0,0,0,([] : List Int)⟩ : S29)):=⟨_,rfl⟩
           replace H : (r4above.l0 k1 a1 y454 t452 (wrap64 (x7_1 + 1))) = some r:=by first | (rw [hy454];with_reducible exact H) | (have H2_:=(Option.bind_some _ _).symm.trans H;rw [hy454];with_reducible exact H2_) | (have H2_:=(Option.bind_some _ _).symm.trans H;with_reducible exact H2_) | with_reducible exact H | (rw [hy454];exact H) | exact H
           have Ny454:=Az.mk hy454
           clear hy454
           have H':=Az.mk H
           clear H
           obtain ⟨Ao13,co13,eo13⟩:=Kd.S_slice HO_5.out
           subst eo13
           go_wp2_with (first | (go_at_call 26;(with_reducible refine (r3Under.calls k1 (wrap64 (2 * a1)) x7_1 t452 true _ A9.out).mono ?_);rintro e w' ⟨rfl,⟨nd,rfl⟩⟩;(try (rw [drewN_self wr];generalize hq_ : World.drewN wr _ = wr;have n0_ : Az (Kd.S k29 29 wr w.heap.size (fun _=>True) (.slice Ao13 x5_1.length co13) x5_1):=⟨by rw [← hq_];exact (S_mv HO_5.out)⟩;have n1_ : Az (Below w.heap.size w wr):=⟨by rw [← hq_];exact (bmv HB.out)⟩;clear HO_5 HB hq_;have HO_5:=n0_;have HB:=n1_;clear n0_ n1_));have p12 : 0≤(x7_1 : Int):=of_decide_eq_true (by first | (with_reducible assumption) | assumption);have q12 : (x7_1 : Int) < ((x5_1.length : Int) : Int):=of_decide_eq_true (by first | (with_reducible assumption) | assumption);obtain ⟨go12,co12,eo12,gb12,gl12,cl12,HG12⟩:=Kd.S_form HO_5.out (by omega);(first | cases eo12 | (injection eo12 with ea_ en_ ec_;(first | subst ea_ | (injection ea_ with ea_;subst ea_));subst ec_;clear en_));have GB12:=Az.mk gb12;have GG12:=Az.mk HG12;clear gb12 gl12 HG12;obtain ⟨_,ce12,hcl12,hM12,hcc12,hfr12,_,_⟩:=Kd.S_elem HO_5.out z29 (x7_1 : Int) p12 q12;obtain ⟨ve12_5,rfl,ge12_5⟩:=k29_openM hM12;have hx12_0 : wr.cell? ⟨go12,(x7_1 : Int).toNat * 6,none⟩ = some (.bool ((rd_T29 x5_1 x7_1).f0)):=hcc12 0 _ rfl;have hx12_1 : wr.cell? ⟨go12,(x7_1 : Int).toNat * 6 + 1,none⟩ = some (.int .i64 ((rd_T29 x5_1 x7_1).f1)):=hcc12 1 _ rfl;have hx12_2 : wr.cell? ⟨go12,(x7_1 : Int).toNat * 6 + 2,none⟩ = some (.int .i64 ((rd_T29 x5_1 x7_1).f2)):=hcc12 2 _ rfl;have hx12_3 : wr.cell? ⟨go12,(x7_1 : Int).toNat * 6 + 3,none⟩ = some (.int .i64 ((rd_T29 x5_1 x7_1).f3)):=hcc12 3 _ rfl;have hx12_4 : wr.cell? ⟨go12,(x7_1 : Int).toNat * 6 + 4,none⟩ = some (.int .i64 ((rd_T29 x5_1 x7_1).f4)):=hcc12 4 _ rfl;have hx12_5 : wr.cell? ⟨go12,(x7_1 : Int).toNat * 6 + 5,none⟩ = some (ve12_5):=hcc12 5 _ rfl;have hf12_0 : wr.frozen? ⟨go12,(x7_1 : Int).toNat * 6,none⟩ = false:=hfr12 0;have hf12_1 : wr.frozen? ⟨go12,(x7_1 : Int).toNat * 6 + 1,none⟩ = false:=hfr12 1;have hf12_2 : wr.frozen? ⟨go12,(x7_1 : Int).toNat * 6 + 2,none⟩ = false:=hfr12 2;have hf12_3 : wr.frozen? ⟨go12,(x7_1 : Int).toNat * 6 + 3,none⟩ = false:=hfr12 3;have hf12_4 : wr.frozen? ⟨go12,(x7_1 : Int).toNat * 6 + 4,none⟩ = false:=hfr12 4;have hf12_5 : wr.frozen? ⟨go12,(x7_1 : Int).toNat * 6 + 5,none⟩ = false:=hfr12 5;clear hcl12 hcc12 hfr12 hM12;replace p12:=eq_true p12;replace q12:=eq_true q12;have HX14:=Az.mk (show Kd.S k29 29 wr w.heap.size (fun k_=>((fun _=>True)) k_∧¬ ((fun _=>False)) k_) (.slice (some ⟨go12,0,none⟩) x5_1.length co13) x5_1 from (S_mv (Kd.S_mono HO_5.out (fun k_ hk=>⟨trivial,fun e_=>e_⟩))));obtain ⟨oki14,ce14,hcl14,hM14,hcc14,hfr14,hoki14,hH14⟩:=Kd.S_elem HX14.out z29 (x7_1 : Int) (of_decide_eq_true (by first | (with_reducible assumption) | assumption)) (by have h_ : (x7_1 : Int) < ((x5_1.length : Int) : Int):=of_decide_eq_true (by first | (with_reducible assumption) | assumption);first | exact h_ | (have e_:=(Kd.S_reads' HO_5.out).1;omega) | simpa using h_);obtain ⟨ve14_5,rfl,ge14_5⟩:=k29_openM hM14;have HP14:=Kd.S_seg hH14 (of_decide_eq_true (by first | (with_reducible assumption) | assumption)) (by have h_ : (x7_1 : Int) < ((x5_1.length : Int) : Int):=of_decide_eq_true (by first | (with_reducible assumption) | assumption);first | exact h_ | (have e_:=(Kd.S_reads' HO_5.out).1;omega) | simpa using h_) (seg:=[.bool false,.int .i64 0,.int .i64 0,.int .i64 0,.int .i64 0,.slice none 0 0]) (j:=0) (show 6≤6 from by decide) (x':=(⟨false,0,0,0,0,([] : List Int)⟩ : S29)) (k29_mkM _ _ _ (⟨false,0,0,0,0,([] : List Int)⟩ : S29) (Kd.R_nil _ _ _ _ _)) (fun _ hk=>hk) (fun k_ hk_=>hk_.elim);have hx14_0:=hcc14 0 _ rfl;(try simp only [show (k29).sz = 6 from rfl,Nat.mul_one,Nat.add_zero] at hx14_0);have hf14_0:=hfr14 0;(try simp only [show (k29).sz = 6 from rfl,Nat.mul_one,Nat.add_zero] at hf14_0);have hx14_1:=hcc14 1 _ rfl;(try simp only [show (k29).sz = 6 from rfl,Nat.mul_one,Nat.add_zero] at hx14_1);have hf14_1:=hfr14 1;(try simp only [show (k29).sz = 6 from rfl,Nat.mul_one,Nat.add_zero] at hf14_1);have hx14_2:=hcc14 2 _ rfl;(try simp only [show (k29).sz = 6 from rfl,Nat.mul_one,Nat.add_zero] at hx14_2);have hf14_2:=hfr14 2;(try simp only [show (k29).sz = 6 from rfl,Nat.mul_one,Nat.add_zero] at hf14_2);have hx14_3:=hcc14 3 _ rfl;(try simp only [show (k29).sz = 6 from rfl,Nat.mul_one,Nat.add_zero] at hx14_3);have hf14_3:=hfr14 3;(try simp only [show (k29).sz = 6 from rfl,Nat.mul_one,Nat.add_zero] at hf14_3);have hx14_4:=hcc14 4 _ rfl;(try simp only [show (k29).sz = 6 from rfl,Nat.mul_one,Nat.add_zero] at hx14_4);have hf14_4:=hfr14 4;(try simp only [show (k29).sz = 6 from rfl,Nat.mul_one,Nat.add_zero] at hf14_4);have hx14_5:=hcc14 5 _ rfl;(try simp only [show (k29).sz = 6 from rfl,Nat.mul_one,Nat.add_zero] at hx14_5);have hf14_5:=hfr14 5;(try simp only [show (k29).sz = 6 from rfl,Nat.mul_one,Nat.add_zero] at hf14_5);clear hcl14 hcc14 hfr14 hM14 hoki14 hH14) | ((with_reducible refine gate_store (t:=29) (p:=32) rfl ?_);refine store_event (t:=29) (p:=32) (v:=?vo_w15) (w1:=((((((wr.setCell ⟨go12,(x7_1 : Int).toNat * 6,none⟩ (.bool false)).setCell ⟨go12,(x7_1 : Int).toNat * 6 + 1,none⟩ (.int .i64 0)).setCell ⟨go12,(x7_1 : Int).toNat * 6 + 2,none⟩ (.int .i64 0)).setCell ⟨go12,(x7_1 : Int).toNat * 6 + 3,none⟩ (.int .i64 0)).setCell ⟨go12,(x7_1 : Int).toNat * 6 + 4,none⟩ (.int .i64 0)).setCell ⟨go12,(x7_1 : Int).toNat * 6 + 5,none⟩ (.slice none 0 0))) ?hg ?ho ?hn ?hr ?_;(case ho=>rfl);(case hg=>rfl);(case hn=>rfl);(case hr=>first | (go_simp;done) | (go_simp;rfl));intro w15 hw;have hg : wr.grownBy w15 (some go12):=(by rw [hw];exact HP14.2);have hp_ : Kd.S k29 29 w15 w.heap.size (fun _=>True) (.slice (some ⟨go12,0,none⟩) x5_1.length co13) y454:=(by rw [hw,Ny454.out];exact HP14.1);clear HP14;have n0_:=Az.mk (hp_);have n1_:=Az.mk ((by rw [hw];exact bwS (bwS (bwS (bwS (bwS (bwS (HB.out) GB12.out) GB12.out) GB12.out) GB12.out) GB12.out) GB12.out : Below w.heap.size w w15));clear HO_5;clear HB;have HO_5:=n0_;have HB:=n1_;clear n0_ n1_;clear hg hw hp_))
           go_roundg k1
           case measure=>have:=HK1.out;omega
           case rel=>exact ⟨(y454),(wrap64 (x7_1 + 1)),(by first | rfl | (simp;done) | (simp [*];done)),H',⟨by have:=HK1.out;omega⟩,⟨S_mv HO_5.out⟩,⟨bmv HB.out⟩⟩
         · rw [if_neg c11] at H
           exact absurd H (by simp)
       · replace c10:=Bool.eq_false_iff.mpr c10
         subst c10
         have H1 : (r4above.l0 k1 a1 x5_1 t452 (wrap64 (x7_1 + 1))) = some r:=by rw [if_neg (show ¬ (false = true) by decide)] at H;exact H
         clear H
         have H:=H1
         clear H1
         have H':=Az.mk H
         clear H
         obtain ⟨Ao16,co16,eo16⟩:=Kd.S_slice HO_5.out
         subst eo16
         go_wp2_with (first | (go_at_call 26;(with_reducible refine (r3Under.calls k1 (wrap64 (2 * a1)) x7_1 t452 false _ A9.out).mono ?_);rintro e w' ⟨rfl,⟨nd,rfl⟩⟩))
         go_roundg k1
         case measure=>have:=HK1.out;omega
         case rel=>exact ⟨(x5_1),(wrap64 (x7_1 + 1)),(by first | rfl | (simp;done) | (simp [*];done)),H',⟨by have:=HK1.out;omega⟩,⟨S_mv HO_5.out⟩,⟨bmv HB.out⟩⟩
   · rw [if_neg c6] at H
     have c6b0 : decide (x7_1 < (x5_1.length : Int)) = false:=decide_eq_false c6
     clear c6
     obtain rfl:=Option.some.inj H
     obtain ⟨Ao17,co17,eo17⟩:=Kd.S_slice HO_5.out
     subst eo17
     go_wp2
     go_ret
     exact ⟨_,by first | rfl | (simp [errW_none,errW_some] <;> rfl) | (simp [*,errW_none,errW_some] <;> rfl),S_mv HO_5.out,bmv HB.out⟩
end Go.Proofs.YtbblomnhobodkaaDoor.PTw
