/- What this claim reaches of longer texts of this session. -/
import Derived.Test.YtbblomnhobodkaaDoorPTwx0
import Derived.Test.YtbblomnhobodkaaDoorPTwx1
import Derived.Test.YtbblomnhobodkaaDoorPTwx4
import Derived.Test.YtbblomnhobodkaaDoorPTwx5
import Derived.Test.YtbblomnhobodkaaDoorPTwx6
import Derived.Shelf.Spec.TrailingZeros
import Derived.Lib.ItoaNum
import Derived.Lib.LaidTab
import Derived.Laws.Bits64
import Derived.Lib.Hide
import Derived.RangeFuncBox
import Derived.Maps.AppendAt
import Derived.Lib.SliceRun
import Derived.Shelf.Spec.SlicesInsert
import Derived.Shelf.Spec.SlicesInsertGrow
import Derived.Deep.DeepCutAuto
namespace Go.Proofs.YtbblomnhobodkaaDoor.PTw
open Go.RowKit Go.Proofs.YtbblomnhobodkaaDoorW.PW Go.Proofs.YtbblomnhobodkaaDoorW.PL Go.Proofs.YtbblomnhobodkaaDoorW.PM
attribute [local go_sem] max2_int min2_int max_two min_two max_three min_three max_four min_four   -- for this text's walks alone
set_option linter.unusedVariables false
set_option linter.unusedSimpArgs false
mutual
def tree_Filtered.j0 : Nat→List (S29)→Int→List Int→List Int→Int→Bool→Option (List Int × List Int)
 | 0,_,_,_,_,_,_=>none
 | k + 1,x0,x1,x4,x5,x6,x21=>if x21 = true then (some (([] : List Int),([] : List Int))) else ((heap_Path.f (wrap64 (2 * x1)) x6).bind fun bt230=>((heap_Copath.f (wrap64 (2 * x1)) x6).bind fun bt234=>(tree_Filtered.l0 k x0 x4 x5 bt230.1 bt234.1 (bt234.1.length : Int) 0)))
def tree_Filtered.l0 : Nat→List (S29)→List Int→List Int→List Int→List Int→Int→Int→Option (List Int × List Int)
 | 0,_,_,_,_,_,_,_=>none
 | k + 1,x0,x4,x5,x7,x36,x37,x38=>if x38 < x37 then (if 0≤x38 then (if x38 < (x36.length : Int) then ((tree_Resolution.f k x0 (rd x36 x38)).bind fun t239=>(if (t239.length : Int) > 0 then (if x38 < (x7.length : Int) then (if x4.length < 17592186044416 then (if x5.length < 17592186044416 then (tree_Filtered.l0 k x0 (x4 ++ [rd x7 x38]) (x5 ++ [rd x36 x38]) x7 x36 x37 (wrap64 (x38 + 1))) else (none)) else (none)) else (none)) else (tree_Filtered.l0 k x0 x4 x5 x7 x36 x37 (wrap64 (x38 + 1))))) else (none)) else (none)) else (some (x4,x5))
end
def tree_Filtered.f (k : Nat) (l0 : List (S29)) (a1 : Int) : Option (List Int × List Int):=(tree_Leaves.f l0).bind fun t229=>(if a1 < 0 then (tree_Filtered.j0 k l0 a1 ([] : List Int) ([] : List Int) t229 true) else (tree_Filtered.j0 k l0 a1 ([] : List Int) ([] : List Int) t229 (decide (a1≥t229))))
theorem tree_Filtered.mono_l : ∀ k,(∀ y0 y1 y2 y3 y4 y5,LeO (tree_Filtered.j0 k y0 y1 y2 y3 y4 y5) (tree_Filtered.j0 (k + 1) y0 y1 y2 y3 y4 y5))∧(∀ y0 y1 y2 y3 y4 y5 y6,LeO (tree_Filtered.l0 k y0 y1 y2 y3 y4 y5 y6) (tree_Filtered.l0 (k + 1) y0 y1 y2 y3 y4 y5 y6))
 | 0=>⟨fun _ _ _ _ _ _ r h=>by simp [tree_Filtered.j0] at h,fun _ _ _ _ _ _ _ r h=>by simp [tree_Filtered.l0] at h⟩
 | k + 1=>by
  obtain ⟨ih0,ih1⟩:=tree_Filtered.mono_l k
  refine ⟨?_,?_⟩
  · intro y0 y1 y2 y3 y4 y5
    unfold tree_Filtered.j0
    repeat' first
    | (with_reducible exact ih0 _ _ _ _ _ _)
    | (with_reducible exact ih1 _ _ _ _ _ _ _)
    | (with_reducible exact tree_Resolution.mono _ _ _)
    | (with_reducible exact LeO.refl _)
    | (with_reducible exact LeO.none _)
    | (with_reducible refine LeO.ite ?_ ?_)
    | (with_reducible refine LeO.bind ?_ (fun _=>?_))
    | exact ih0 _ _ _ _ _ _
    | exact ih1 _ _ _ _ _ _ _
    | exact tree_Resolution.mono _ _ _
    | exact LeO.none _
    | refine LeO.ite ?_ ?_
    | refine LeO.bind ?_ (fun _=>?_)
  · intro y0 y1 y2 y3 y4 y5 y6
    unfold tree_Filtered.l0
    repeat' first
    | (with_reducible exact ih0 _ _ _ _ _ _)
    | (with_reducible exact ih1 _ _ _ _ _ _ _)
    | (with_reducible exact tree_Resolution.mono _ _ _)
    | (with_reducible exact LeO.refl _)
    | (with_reducible exact LeO.none _)
    | (with_reducible refine LeO.ite ?_ ?_)
    | (with_reducible refine LeO.bind ?_ (fun _=>?_))
    | exact ih0 _ _ _ _ _ _
    | exact ih1 _ _ _ _ _ _ _
    | exact tree_Resolution.mono _ _ _
    | exact LeO.none _
    | refine LeO.ite ?_ ?_
    | refine LeO.bind ?_ (fun _=>?_)
theorem tree_Filtered.mono : ∀ a0 a1 k,LeO (tree_Filtered.f k a0 a1) (tree_Filtered.f (k + 1) a0 a1):=by
 intro a0 a1 k
 obtain ⟨ih0,ih1⟩:=tree_Filtered.mono_l k
 unfold tree_Filtered.f
 repeat' first
  | (with_reducible exact ih0 _ _ _ _ _ _)
  | (with_reducible exact ih1 _ _ _ _ _ _ _)
  | (with_reducible exact tree_Resolution.mono _ _ _)
  | (with_reducible exact LeO.refl _)
  | (with_reducible exact LeO.none _)
  | (with_reducible refine LeO.ite ?_ ?_)
  | (with_reducible refine LeO.bind ?_ (fun _=>?_))
  | exact ih0 _ _ _ _ _ _
  | exact ih1 _ _ _ _ _ _ _
  | exact tree_Resolution.mono _ _ _
  | exact LeO.none _
  | refine LeO.ite ?_ ?_
  | refine LeO.bind ?_ (fun _=>?_)
set_option maxHeartbeats 8000000 in
set_option maxRecDepth 100000 in
theorem tree_Filtered.calls (k : Nat) (A0 : Option Addr) (c0 : Nat) (l0 : List (S29)) (a1 : Int) (r1 : List Int) (r2 : List Int) (w : World) (hrG : TabG w) (hr0 : Kd.C k29 w A0 l0.length l0) (hc0 : l0.length≤c0) (h : tree_Filtered.f k l0 a1 = some (r1,r2)) :
 Calls Tryd.prog 23 #[.slice A0 l0.length c0,.int .i64 a1] w fun e w'=>∃ v0_ v1_ : Value,e = .returned (.tuple #[v0_,v1_])∧Kd.R (Kd.int .i64) 3 w' w.heap.size (fun k_=>some k_≠(v1_ : Value).ownBlock) v0_ r1∧Kd.R (Kd.int .i64) 3 w' w.heap.size (fun k_=>some k_≠(v0_ : Value).ownBlock) v1_ r2∧Below w.heap.size w w':=by
 have HRG:=Az.mk hrG
 clear hrG
 have HR0:=Az.mk hr0
 have HC0:=Az.mk hc0
 clear hr0 hc0
 have HB:=Az.mk (Below.refl w.heap.size w)
 have H : ((tree_Leaves.f l0).bind fun t229=>(if a1 < 0 then (tree_Filtered.j0 k l0 a1 ([] : List Int) ([] : List Int) t229 true) else (tree_Filtered.j0 k l0 a1 ([] : List Int) ([] : List Int) t229 (decide (a1≥t229))))) = some (r1,r2):=h
 clear h
 replace H:=Option.bind_eq_some_iff.mp H
 obtain ⟨t229,A30,H⟩:=H
 replace H : (if a1 < 0 then (tree_Filtered.j0 k l0 a1 ([] : List Int) ([] : List Int) t229 true) else (tree_Filtered.j0 k l0 a1 ([] : List Int) ([] : List Int) t229 (decide (a1≥t229)))) = some (r1,r2):=H
 have A3:=Az.mk A30
 clear A30
 have HC4:=Az.mk H
 clear H
 go_enter Tryd.func23,Tryd.ntmps23
 go_upto_region 2 with (first | ((with_reducible refine gate_callee (f:=29) rfl ?_);refine goesL_ (some 14) rfl rfl Tryd.func29 (by kernel_rfl) rfl #[.slice A0 l0.length c0] rfl (by (try simp only [List.map_toArray,List.map_cons,List.map_nil]);first | done | rfl | (simp only [List.length_drop,List.length_take];rfl)) ?_;(with_reducible refine (tree_Leaves.calls _ _ l0 t229 _ ?side1 ?side2 A3.out).mono ?_);(case side1=>exact C_mv (HR0.out));(case side2=>exact HC0.out);rintro e w' ⟨rfl,⟨nd,rfl⟩⟩;refine ⟨_,rfl,?_⟩))
 (try simp only [Act.put,List.setIfInBounds_toArray,List.set_cons_zero,List.set_cons_succ])
 go_cut [21] (fun v21 wc=>∃ (kq : Nat) (x21_3 : Bool),v21 = .bool x21_3∧Az (tree_Filtered.j0 kq l0 a1 ([] : List Int) ([] : List Int) t229 x21_3 = some (r1,r2))∧Az (kq≤k)∧Az (Kd.R (Kd.int .i64) 3 wc w.heap.size (fun k_=>some k_≠((.slice none 0 0) : Value).ownBlock) (.slice none 0 0) ([] : List Int))∧Az (Kd.R (Kd.int .i64) 3 wc w.heap.size (fun k_=>some k_≠((.slice none 0 0) : Value).ownBlock) (.slice none 0 0) ([] : List Int))∧Az (Below w.heap.size w wc))
 case first=>
  have H:=HC4.out
  clear HC4
  by_cases c5 : a1 < 0
  · rw [if_pos c5] at H
    have c5b0 : decide (a1 < 0) = true:=decide_eq_true c5
    clear c5
    (first | rw [c5b0] | (simp only [i64_w,i32_w];rw [c5b0]) | skip)
    have H':=Az.mk H
    clear H
    go_wp2
    go_meet
    case rel=>exact ⟨_,(true),(by first | rfl | (simp;done) | (simp [*];done)),H',⟨by first | omega | exact Nat.le_refl _⟩,⟨by first | exact Kd.R_nil _ _ _ _ _ | exact Kd.N_nil _ _ _ _ _ | exact Kd.V_nil _ _ _ _ _ | exact Kd.Q_nil _ _ _ _ _ | exact Kd.S_nil _ _ _ _ _⟩,⟨by first | exact Kd.R_nil _ _ _ _ _ | exact Kd.N_nil _ _ _ _ _ | exact Kd.V_nil _ _ _ _ _ | exact Kd.Q_nil _ _ _ _ _ | exact Kd.S_nil _ _ _ _ _⟩,⟨bmv HB.out⟩⟩
  · rw [if_neg c5] at H
    have c5b0 : decide (a1 < 0) = false:=decide_eq_false c5
    clear c5
    (first | rw [c5b0] | (simp only [i64_w,i32_w];rw [c5b0]) | skip)
    have H':=Az.mk H
    clear H
    go_wp2
    go_meet
    case rel=>exact ⟨_,(decide (a1≥t229)),(by first | rfl | (simp;done) | (simp [*];done)),H',⟨by first | omega | exact Nat.le_refl _⟩,⟨by first | exact Kd.R_nil _ _ _ _ _ | exact Kd.N_nil _ _ _ _ _ | exact Kd.V_nil _ _ _ _ _ | exact Kd.Q_nil _ _ _ _ _ | exact Kd.S_nil _ _ _ _ _⟩,⟨by first | exact Kd.R_nil _ _ _ _ _ | exact Kd.N_nil _ _ _ _ _ | exact Kd.V_nil _ _ _ _ _ | exact Kd.Q_nil _ _ _ _ _ | exact Kd.S_nil _ _ _ _ _⟩,⟨bmv HB.out⟩⟩
 case rest=>
  clear HC4
  try clear c5
  try clear c5b0
  obtain ⟨kq,x21_3,rfl,HA,HJ3,HO_4,HO_5,HB⟩:=hcut
  cases kq with
  | zero=>exact absurd HA.out (by simp [tree_Filtered.j0])
  | succ kj3=>
   have H:=HA.out
   clear HA
   simp only [tree_Filtered.j0] at H
   by_cases c6 : x21_3 = true
   · subst c6
     have H1 : (some (([] : List Int),([] : List Int))) = some (r1,r2):=by rw [if_pos rfl] at H;exact H
     clear H
     have H:=H1
     clear H1
     simp only [Option.some.injEq,Prod.mk.injEq] at H
     obtain ⟨rfl,rfl⟩:=H
     go_wp2
     go_ret2
     exact ⟨_,_,by first | rfl | (simp [errW_none,errW_some] <;> rfl) | (simp [*,errW_none,errW_some] <;> rfl),by first | exact Kd.R_nil _ _ _ _ _ | exact Kd.N_nil _ _ _ _ _ | exact Kd.V_nil _ _ _ _ _ | exact Kd.Q_nil _ _ _ _ _ | exact Kd.S_nil _ _ _ _ _,by first | exact Kd.R_nil _ _ _ _ _ | exact Kd.N_nil _ _ _ _ _ | exact Kd.V_nil _ _ _ _ _ | exact Kd.Q_nil _ _ _ _ _ | exact Kd.S_nil _ _ _ _ _,bmv HB.out⟩
   · replace c6:=Bool.eq_false_iff.mpr c6
     subst c6
     have H1 : ((heap_Path.f (wrap64 (2 * a1)) t229).bind fun bt230=>((heap_Copath.f (wrap64 (2 * a1)) t229).bind fun bt234=>(tree_Filtered.l0 kj3 l0 ([] : List Int) ([] : List Int) bt230.1 bt234.1 (bt234.1.length : Int) 0))) = some (r1,r2):=by rw [if_neg (show ¬ (false = true) by decide)] at H;exact H
     clear H
     have H:=H1
     clear H1
     replace H:=Option.bind_eq_some_iff.mp H
     obtain ⟨⟨t230,t231⟩,A70,H⟩:=H
     replace H : ((heap_Copath.f (wrap64 (2 * a1)) t229).bind fun bt234=>(tree_Filtered.l0 kj3 l0 ([] : List Int) ([] : List Int) t230 bt234.1 (bt234.1.length : Int) 0)) = some (r1,r2):=H
     have A7:=Az.mk A70
     clear A70
     replace H:=Option.bind_eq_some_iff.mp H
     obtain ⟨⟨t234,t235⟩,A80,H⟩:=H
     replace H : (tree_Filtered.l0 kj3 l0 ([] : List Int) ([] : List Int) t230 t234 (t234.length : Int) 0) = some (r1,r2):=H
     have A8:=Az.mk A80
     clear A80
     have H':=Az.mk H
     clear H
     go_wp2_with (first | ((with_reducible refine gate_callee (f:=52) rfl ?_);refine goesL_ (some 26) rfl rfl Tryd.func52 (by kernel_rfl) rfl #[.int .i64 (wrap64 (2 * a1)),.int .i64 t229] rfl (by (try simp only [List.map_toArray,List.map_cons,List.map_nil]);first | done | rfl | (simp only [List.length_drop,List.length_take];rfl)) ?_;(with_reducible refine (heap_Path.calls (hrG:=?sideG) (wrap64 (2 * a1)) t229 t230 t231 _ A7.out).mono ?_);(case sideG=>(first | (with_reducible exact HRG.out) | exact TabG.below HRG.out (by repeat (first | (with_reducible first | exact HB.out | apply bwA | apply bwN | apply bw1) | (with_reducible exact Below.refl _ _)))));rintro e w9 ⟨v232,rfl,ho0,hb⟩;refine ⟨_,rfl,?_⟩;have n0_:=Az.mk (Kd.R_elder' (R_mv HO_4.out) (Kd.R_base ho0) hb);have n1_:=Az.mk (Kd.R_elder' (R_mv HO_5.out) (Kd.R_base ho0) hb);have n2_:=Az.mk (Kd.R_lower (Kd.R_new' (Kd.R_new' ho0 (Kd.R_lt (R_mv HO_4.out))) (Kd.R_lt (R_mv HO_5.out))) (bwZ (bmv HB.out)));have n3_:=Az.mk (bwT (bmv HB.out) hb);clear HO_4;clear HO_5;clear HB;have HO_4:=n0_;have HO_5:=n1_;have HO233:=n2_;have HB:=n3_;clear n0_ n1_ n2_ n3_;(try clear hb);(try clear hb2);(try clear hk);(try clear hi);(try clear ho0)) | ((with_reducible refine gate_callee (f:=56) rfl ?_);refine goesL_ (some 33) rfl rfl Tryd.func56 (by kernel_rfl) rfl #[.int .i64 (wrap64 (2 * a1)),.int .i64 t229] rfl (by (try simp only [List.map_toArray,List.map_cons,List.map_nil]);first | done | rfl | (simp only [List.length_drop,List.length_take];rfl)) ?_;(with_reducible refine (heap_Copath.calls (hrG:=?sideG) (wrap64 (2 * a1)) t229 t234 t235 _ A8.out).mono ?_);(case sideG=>(first | (with_reducible exact HRG.out) | exact TabG.below HRG.out (by repeat (first | (with_reducible first | exact HB.out | apply bwA | apply bwN | apply bw1) | (with_reducible exact Below.refl _ _)))));rintro e w10 ⟨v236,rfl,ho0,hb⟩;refine ⟨_,rfl,?_⟩;have n0_:=Az.mk (Kd.R_elder' (R_mv HO_4.out) (Kd.R_base ho0) hb);have n1_:=Az.mk (Kd.R_elder' (R_mv HO_5.out) (Kd.R_base ho0) hb);have n2_:=Az.mk (Kd.R_elder' (R_mv HO233.out) (Kd.R_base ho0) hb);have n3_:=Az.mk (Kd.R_lower (Kd.R_new' (Kd.R_new' (Kd.R_new' ho0 (Kd.R_lt (R_mv HO_4.out))) (Kd.R_lt (R_mv HO_5.out))) (Kd.R_lt (R_mv HO233.out))) (bwZ (bmv HB.out)));have n4_:=Az.mk (bwT (bmv HB.out) hb);clear HO_4;clear HO_5;clear HO233;clear HB;have HO_4:=n0_;have HO_5:=n1_;have HO233:=n2_;have HO237:=n3_;have HB:=n4_;clear n0_ n1_ n2_ n3_ n4_;(try clear hb);(try clear hb2);(try clear hk);(try clear hi);(try clear ho0);obtain ⟨Ao11,co11,eo11⟩:=Kd.R_slice HO237.out;subst eo11))
     go_loopg [4,5,38] kj3 (fun kq v4 v5 v38 w'=>∃ (x4_2 : List Int) (x5_2 : List Int) (x38_2 : Int),v38 = .int .i64 x38_2∧Az (tree_Filtered.l0 kq l0 x4_2 x5_2 t230 t234 (t234.length : Int) x38_2 = some (r1,r2))∧Az (kq≤kj3)∧Az (Kd.R (Kd.int .i64) 3 w' w.heap.size (fun k_=>some k_≠(v5 : Value).ownBlock∧some k_≠(v232 : Value).ownBlock∧some k_≠((.slice Ao11 t234.length co11) : Value).ownBlock) v4 x4_2)∧Az (Kd.R (Kd.int .i64) 3 w' w.heap.size (fun k_=>some k_≠(v4 : Value).ownBlock∧some k_≠(v232 : Value).ownBlock∧some k_≠((.slice Ao11 t234.length co11) : Value).ownBlock) v5 x5_2)∧Az (Kd.R (Kd.int .i64) 3 w' w.heap.size (fun k_=>some k_≠(v4 : Value).ownBlock∧some k_≠(v5 : Value).ownBlock∧some k_≠((.slice Ao11 t234.length co11) : Value).ownBlock) v232 t230)∧Az (Kd.R (Kd.int .i64) 3 w' w.heap.size (fun k_=>some k_≠(v4 : Value).ownBlock∧some k_≠(v5 : Value).ownBlock∧some k_≠(v232 : Value).ownBlock) (.slice Ao11 t234.length co11) t234)∧Az (Below w.heap.size w w'))
     case atStart=>exact ⟨(([] : List Int)),(([] : List Int)),(0),(by first | rfl | (simp;done) | (simp [*];done)),H',⟨Nat.le_refl _⟩,⟨R_mv (Kd.R_mono HO_4.out (fun _ hk=>⟨hk.1.1,⟨hk.1.2,hk.2⟩⟩))⟩,⟨R_mv (Kd.R_mono HO_5.out (fun _ hk=>⟨hk.1.1,⟨hk.1.2,hk.2⟩⟩))⟩,⟨R_mv (Kd.R_mono HO233.out (fun _ hk=>⟨hk.1.1.2,⟨hk.1.2,hk.2⟩⟩))⟩,⟨R_mv (Kd.R_mono HO237.out (fun _ hk=>⟨hk.1.1.2,⟨hk.1.2,hk.2⟩⟩))⟩,⟨bmv HB.out⟩⟩
     case round=>
      clear H'
      try clear c5
      try clear c5b0
      try clear c6
      obtain ⟨x4_2,x5_2,x38_2,rfl,HA,HK2,HO_4,HO_5,HO_7,HO_36,HB⟩:=hrel
      cases gk with
      | zero=>exact absurd HA.out (by simp [tree_Filtered.l0])
      | succ k2=>
       have H:=HA.out
       clear HA
       simp only [tree_Filtered.l0] at H
       by_cases c12 : x38_2 < (t234.length : Int)
       · rw [if_pos c12] at H
         have c12b0 : decide (x38_2 < (t234.length : Int)) = true:=decide_eq_true c12
         clear c12
         by_cases c13 : 0≤x38_2
         · rw [if_pos c13] at H
           have c13b0 : decide (0≤x38_2) = true:=decide_eq_true c13
           clear c13
           by_cases c14 : x38_2 < (t234.length : Int)
           · rw [if_pos c14] at H
             have c14b0 : decide (x38_2 < (t234.length : Int)) = true:=decide_eq_true c14
             clear c14
             replace H:=Option.bind_eq_some_iff.mp H
             obtain ⟨t239,A150,H⟩:=H
             replace H : (if (t239.length : Int) > 0 then (if x38_2 < (t230.length : Int) then (if x4_2.length < 17592186044416 then (if x5_2.length < 17592186044416 then (tree_Filtered.l0 k2 l0 (x4_2 ++ [rd t230 x38_2]) (x5_2 ++ [rd t234 x38_2]) t230 t234 (t234.length : Int) (wrap64 (x38_2 + 1))) else (none)) else (none)) else (none)) else (tree_Filtered.l0 k2 l0 x4_2 x5_2 t230 t234 (t234.length : Int) (wrap64 (x38_2 + 1)))) = some (r1,r2):=H
             have A15:=Az.mk A150
             clear A150
             by_cases c16 : (t239.length : Int) > 0
             · rw [if_pos c16] at H
               have c16b0 : decide (0 < (t239.length : Int)) = true:=decide_eq_true c16
               have c16b1 : decide (0 < t239.length) = true:=decide_eq_true (by omega)
               clear c16
               by_cases c17 : x38_2 < (t230.length : Int)
               · rw [if_pos c17] at H
                 have c17b0 : decide (x38_2 < (t230.length : Int)) = true:=decide_eq_true c17
                 clear c17
                 by_cases c18 : x4_2.length < 17592186044416
                 · rw [if_pos c18] at H
                   have LMc18:=Az.mk c18
                   clear c18
                   obtain ⟨y243,hy243⟩ : ∃ y_ : List Int,y_ = (x4_2 ++ [rd t230 x38_2]):=⟨_,rfl⟩
                   replace H : (if x5_2.length < 17592186044416 then (tree_Filtered.l0 k2 l0 y243 (x5_2 ++ [rd t234 x38_2]) t230 t234 (t234.length : Int) (wrap64 (x38_2 + 1))) else (none)) = some (r1,r2):=by first | (rw [hy243];with_reducible exact H) | (have H2_:=(Option.bind_some _ _).symm.trans H;rw [hy243];with_reducible exact H2_) | (have H2_:=(Option.bind_some _ _).symm.trans H;with_reducible exact H2_) | with_reducible exact H | (rw [hy243];exact H) | exact H
                   have Ny243:=Az.mk hy243
                   clear hy243
                   by_cases c19 : x5_2.length < 17592186044416
                   · rw [if_pos c19] at H
                     have LMc19:=Az.mk c19
                     clear c19
                     obtain ⟨y246,hy246⟩ : ∃ y_ : List Int,y_ = (x5_2 ++ [rd t234 x38_2]):=⟨_,rfl⟩
                     replace H : (tree_Filtered.l0 k2 l0 y243 y246 t230 t234 (t234.length : Int) (wrap64 (x38_2 + 1))) = some (r1,r2):=by first | (rw [hy246];with_reducible exact H) | (have H2_:=(Option.bind_some _ _).symm.trans H;rw [hy246];with_reducible exact H2_) | (have H2_:=(Option.bind_some _ _).symm.trans H;with_reducible exact H2_) | with_reducible exact H | (rw [hy246];exact H) | exact H
                     have Ny246:=Az.mk hy246
                     clear hy246
                     have H':=Az.mk H
                     clear H
                     have p238 : 0≤(x38_2 : Int):=of_decide_eq_true (by first | (with_reducible assumption) | assumption)
                     have q238 : x38_2 < (t234.length : Int):=of_decide_eq_true (by first | (with_reducible assumption) | assumption)
                     obtain ⟨ad238,e238,hx238_0⟩:=Kd.at_int (Kd.R_reads' HO_36.out).2.2 x38_2 p238 q238
                     cases e238
                     replace p238:=eq_true p238
                     replace q238:=eq_true q238
                     go_wp2_with (first | ((with_reducible refine gate_callee (f:=25) rfl ?_);refine goesL_ (some 45) rfl rfl Tryd.func25 (by kernel_rfl) rfl #[.slice A0 l0.length c0,.int .i64 (rd t234 x38_2)] rfl (by (try simp only [List.map_toArray,List.map_cons,List.map_nil]);first | done | rfl | (simp only [List.length_drop,List.length_take];rfl)) ?_;(with_reducible refine (tree_Resolution.calls (hrG:=?sideG) k2 _ _ l0 (rd t234 x38_2) t239 _ ?side1 ?side2 A15.out).mono ?_);(case sideG=>(first | (with_reducible exact HRG.out) | exact TabG.below HRG.out (by repeat (first | (with_reducible first | exact HB.out | apply bwA | apply bwN | apply bw1) | (with_reducible exact Below.refl _ _)))));(case side1=>exact C_mv ((Kd.C_below HR0.out HB.out)));(case side2=>exact HC0.out);rintro e w20 ⟨v240,rfl,ho0,hb⟩;refine ⟨_,rfl,?_⟩;have n0_:=Az.mk (Kd.R_elder' (R_mv HO_4.out) (Kd.R_base ho0) hb);have n1_:=Az.mk (Kd.R_elder' (R_mv HO_5.out) (Kd.R_base ho0) hb);have n2_:=Az.mk (Kd.R_elder' (R_mv HO_7.out) (Kd.R_base ho0) hb);have n3_:=Az.mk (Kd.R_elder' (R_mv HO_36.out) (Kd.R_base ho0) hb);have n4_:=Az.mk (Kd.R_lower (Kd.R_new' (Kd.R_new' (Kd.R_new' (Kd.R_new' ho0 (Kd.R_lt (R_mv HO_4.out))) (Kd.R_lt (R_mv HO_5.out))) (Kd.R_lt (R_mv HO_7.out))) (Kd.R_lt (R_mv HO_36.out))) (bwZ (bmv HB.out)));have n5_:=Az.mk (bwT (bmv HB.out) hb);clear HO_4;clear HO_5;clear HO_7;clear HO_36;clear HB;have HO_4:=n0_;have HO_5:=n1_;have HO_7:=n2_;have HO_36:=n3_;have HO241:=n4_;have HB:=n5_;clear n0_ n1_ n2_ n3_ n4_ n5_;(try clear hb);(try clear hb2);(try clear hk);(try clear hi);(try clear ho0);obtain ⟨Ao21,co21,eo21⟩:=Kd.R_slice HO241.out;subst eo21;obtain ⟨Ao22,co22,eo22⟩:=Kd.R_slice HO_7.out;subst eo22;have p242 : 0≤(x38_2 : Int):=of_decide_eq_true (by first | (with_reducible assumption) | assumption);have q242 : x38_2 < (t230.length : Int):=of_decide_eq_true (by first | (with_reducible assumption) | assumption);obtain ⟨ad242,e242,hx242_0⟩:=Kd.at_int (Kd.R_reads' HO_7.out).2.2 x38_2 p242 q242;cases e242;replace p242:=eq_true p242;replace q242:=eq_true q242) | ((with_reducible refine gate_builtin (b:=.append) (xs:=#[.tmp 48,.tmp 53]) rfl ?_);at_builtin;refine Kd.R_append (Kd.int .i64) (w0:=w) w.heap.size rfl (.tmp 48) (.tmp 53) 27 3 (.int .i64 0) 8 rfl Tryd.underlying27 info3 rfl (by decide) (by omega) u4 x4_2 (rd t230 x38_2) [.int .i64 (rd t230 x38_2)] (fun k_=>some k_≠(u5 : Value).ownBlock∧some k_≠(.slice (some ad242) t230.length co22 : Value).ownBlock∧some k_≠(.slice (some ad238) t234.length co11 : Value).ownBlock∧some k_≠(.slice Ao21 t239.length co21 : Value).ownBlock) (fun _=>False) rfl rfl ?aP (fun _ hk=>hk.elim) ?aF ?aO ?aB ?aS ?aL ?_;(case aP=>exact rfl);(case aB=>exact (bmv HB.out));(case aF=>exact (fun k_ hk=>⟨Kd.fresh' (Kd.R_lt (R_mv HO_5.out)) k_ hk,Kd.fresh' (Kd.R_lt (R_mv HO_7.out)) k_ hk,Kd.fresh' (Kd.R_lt (R_mv HO_36.out)) k_ hk,Kd.fresh' (Kd.R_lt (R_mv HO241.out)) k_ hk⟩));(case aO=>exact (R_mv (Kd.R_mono HO_4.out (fun _ hk=>⟨hk.1.1,⟨hk.1.2.1,⟨hk.1.2.2,hk.2⟩⟩⟩))));(case aS=>exact (bwZ (bmv HB.out)));(case aL=>have:=LMc18.out;omega);intro v244 w23 ho hb hg hat;rw [← Ny243.out] at ho;have n0_:=Az.mk (Kd.R_after (ok:=(fun k_=>some k_≠(.slice (some ad242) t230.length co22 : Value).ownBlock∧some k_≠(.slice (some ad238) t234.length co11 : Value).ownBlock∧some k_≠(.slice Ao21 t239.length co21 : Value).ownBlock)) (R_mv (Kd.R_mono HO_5.out (fun _ hk=>⟨⟨hk.1.2.1,⟨hk.1.2.2,hk.2⟩⟩,hk.1.1⟩))) hg hat);have n1_:=Az.mk (Kd.R_after (ok:=(fun k_=>some k_≠(u5 : Value).ownBlock∧some k_≠(.slice (some ad238) t234.length co11 : Value).ownBlock∧some k_≠(.slice Ao21 t239.length co21 : Value).ownBlock)) (R_mv (Kd.R_mono HO_7.out (fun _ hk=>⟨⟨hk.1.2.1,⟨hk.1.2.2,hk.2⟩⟩,hk.1.1⟩))) hg hat);have n2_:=Az.mk (Kd.R_after (ok:=(fun k_=>some k_≠(u5 : Value).ownBlock∧some k_≠(.slice (some ad242) t230.length co22 : Value).ownBlock∧some k_≠(.slice Ao21 t239.length co21 : Value).ownBlock)) (R_mv (Kd.R_mono HO_36.out (fun _ hk=>⟨⟨hk.1.2.1,⟨hk.1.2.2,hk.2⟩⟩,hk.1.1⟩))) hg hat);have n3_:=Az.mk (Kd.R_after (ok:=(fun k_=>some k_≠(u5 : Value).ownBlock∧some k_≠(.slice (some ad242) t230.length co22 : Value).ownBlock∧some k_≠(.slice (some ad238) t234.length co11 : Value).ownBlock)) (R_mv (Kd.R_mono HO241.out (fun _ hk=>⟨⟨hk.1.1.2,⟨hk.1.2,hk.2⟩⟩,hk.1.1.1.2⟩))) hg hat);have n4_:=Az.mk (hb);have n5_:=Az.mk (ho);clear HO_5;clear HO_7;clear HO_36;clear HO241;clear HB;clear HO_4;have HO_5:=n0_;have HO_7:=n1_;have HO_36:=n2_;have HO241:=n3_;have HB:=n4_;have HO245:=n5_;clear n0_ n1_ n2_ n3_ n4_ n5_;clear ho hb hg hat) | ((with_reducible refine gate_builtin (b:=.append) (xs:=#[.tmp 55,.tmp 57]) rfl ?_);at_builtin;refine Kd.R_append (Kd.int .i64) (w0:=w) w.heap.size rfl (.tmp 55) (.tmp 57) 27 3 (.int .i64 0) 8 rfl Tryd.underlying27 info3 rfl (by decide) (by omega) u5 x5_2 (rd t234 x38_2) [.int .i64 (rd t234 x38_2)] (fun k_=>some k_≠(.slice (some ad242) t230.length co22 : Value).ownBlock∧some k_≠(.slice (some ad238) t234.length co11 : Value).ownBlock∧some k_≠(.slice Ao21 t239.length co21 : Value).ownBlock∧some k_≠(v244 : Value).ownBlock) (fun _=>False) rfl rfl ?aP (fun _ hk=>hk.elim) ?aF ?aO ?aB ?aS ?aL ?_;(case aP=>exact rfl);(case aB=>exact (bmv HB.out));(case aF=>exact (fun k_ hk=>⟨Kd.fresh' (Kd.R_lt (R_mv HO_7.out)) k_ hk,Kd.fresh' (Kd.R_lt (R_mv HO_36.out)) k_ hk,Kd.fresh' (Kd.R_lt (R_mv HO241.out)) k_ hk,Kd.fresh' (Kd.R_lt (R_mv HO245.out)) k_ hk⟩));(case aO=>exact (R_mv (Kd.R_mono HO_5.out (fun _ hk=>⟨hk.1.1,⟨hk.1.2.1,⟨hk.1.2.2,hk.2⟩⟩⟩))));(case aS=>exact (bwZ (bmv HB.out)));(case aL=>have:=LMc19.out;omega);intro v247 w24 ho hb hg hat;rw [← Ny246.out] at ho;have n0_:=Az.mk (Kd.R_after (ok:=(fun k_=>some k_≠(.slice (some ad238) t234.length co11 : Value).ownBlock∧some k_≠(.slice Ao21 t239.length co21 : Value).ownBlock∧some k_≠(v244 : Value).ownBlock)) (R_mv (Kd.R_mono HO_7.out (fun _ hk=>⟨⟨hk.1.2.1,⟨hk.1.2.2,hk.2⟩⟩,hk.1.1⟩))) hg hat);have n1_:=Az.mk (Kd.R_after (ok:=(fun k_=>some k_≠(.slice (some ad242) t230.length co22 : Value).ownBlock∧some k_≠(.slice Ao21 t239.length co21 : Value).ownBlock∧some k_≠(v244 : Value).ownBlock)) (R_mv (Kd.R_mono HO_36.out (fun _ hk=>⟨⟨hk.1.2.1,⟨hk.1.2.2,hk.2⟩⟩,hk.1.1⟩))) hg hat);have n2_:=Az.mk (Kd.R_after (ok:=(fun k_=>some k_≠(.slice (some ad242) t230.length co22 : Value).ownBlock∧some k_≠(.slice (some ad238) t234.length co11 : Value).ownBlock∧some k_≠(v244 : Value).ownBlock)) (R_mv (Kd.R_mono HO241.out (fun _ hk=>⟨⟨hk.1.2.1,⟨hk.1.2.2,hk.2⟩⟩,hk.1.1⟩))) hg hat);have n3_:=Az.mk (Kd.R_after (ok:=(fun k_=>some k_≠(.slice (some ad242) t230.length co22 : Value).ownBlock∧some k_≠(.slice (some ad238) t234.length co11 : Value).ownBlock∧some k_≠(.slice Ao21 t239.length co21 : Value).ownBlock)) (R_mv (Kd.R_mono HO245.out (fun _ hk=>⟨⟨hk.2.1,⟨hk.2.2.1,hk.2.2.2⟩⟩,hk.1⟩))) hg hat);have n4_:=Az.mk (hb);have n5_:=Az.mk (ho);clear HO_7;clear HO_36;clear HO241;clear HO245;clear HB;clear HO_5;have HO_7:=n0_;have HO_36:=n1_;have HO241:=n2_;have HO245:=n3_;have HB:=n4_;have HO248:=n5_;clear n0_ n1_ n2_ n3_ n4_ n5_;clear ho hb hg hat))
                     go_roundg k2
                     case measure=>have:=HJ3.out;have:=HK2.out;omega
                     case rel=>exact ⟨(y243),(y246),(wrap64 (x38_2 + 1)),(by first | rfl | (simp;done) | (simp [*];done)),H',⟨by have:=HJ3.out;have:=HK2.out;omega⟩,⟨R_mv (Kd.R_mono HO245.out (fun _ hk=>⟨hk.2,⟨hk.1.1,hk.1.2.1⟩⟩))⟩,⟨R_mv (Kd.R_mono HO248.out (fun _ hk=>⟨hk.2.2.2,⟨hk.1,hk.2.1⟩⟩))⟩,⟨R_mv (Kd.R_mono HO_7.out (fun _ hk=>⟨hk.1.2.2,⟨hk.2,hk.1.1⟩⟩))⟩,⟨R_mv (Kd.R_mono HO_36.out (fun _ hk=>⟨hk.1.2.2,⟨hk.2,hk.1.1⟩⟩))⟩,⟨bmv HB.out⟩⟩
                   · rw [if_neg c19] at H
                     exact absurd H (by simp)
                 · rw [if_neg c18] at H
                   exact absurd H (by simp)
               · rw [if_neg c17] at H
                 exact absurd H (by simp)
             · rw [if_neg c16] at H
               have c16b0 : decide (0 < (t239.length : Int)) = false:=decide_eq_false c16
               have c16b1 : decide (0 < t239.length) = false:=decide_eq_false (by omega)
               clear c16
               have H':=Az.mk H
               clear H
               have p238 : 0≤(x38_2 : Int):=of_decide_eq_true (by first | (with_reducible assumption) | assumption)
               have q238 : x38_2 < (t234.length : Int):=of_decide_eq_true (by first | (with_reducible assumption) | assumption)
               obtain ⟨ad238,e238,hx238_0⟩:=Kd.at_int (Kd.R_reads' HO_36.out).2.2 x38_2 p238 q238
               cases e238
               replace p238:=eq_true p238
               replace q238:=eq_true q238
               go_wp2_with (first | ((with_reducible refine gate_callee (f:=25) rfl ?_);refine goesL_ (some 45) rfl rfl Tryd.func25 (by kernel_rfl) rfl #[.slice A0 l0.length c0,.int .i64 (rd t234 x38_2)] rfl (by (try simp only [List.map_toArray,List.map_cons,List.map_nil]);first | done | rfl | (simp only [List.length_drop,List.length_take];rfl)) ?_;(with_reducible refine (tree_Resolution.calls (hrG:=?sideG) k2 _ _ l0 (rd t234 x38_2) t239 _ ?side1 ?side2 A15.out).mono ?_);(case sideG=>(first | (with_reducible exact HRG.out) | exact TabG.below HRG.out (by repeat (first | (with_reducible first | exact HB.out | apply bwA | apply bwN | apply bw1) | (with_reducible exact Below.refl _ _)))));(case side1=>exact C_mv ((Kd.C_below HR0.out HB.out)));(case side2=>exact HC0.out);rintro e w25 ⟨v240,rfl,ho0,hb⟩;refine ⟨_,rfl,?_⟩;have n0_:=Az.mk (Kd.R_elder' (R_mv HO_4.out) (Kd.R_base ho0) hb);have n1_:=Az.mk (Kd.R_elder' (R_mv HO_5.out) (Kd.R_base ho0) hb);have n2_:=Az.mk (Kd.R_elder' (R_mv HO_7.out) (Kd.R_base ho0) hb);have n3_:=Az.mk (Kd.R_elder' (R_mv HO_36.out) (Kd.R_base ho0) hb);have n4_:=Az.mk (Kd.R_lower (Kd.R_new' (Kd.R_new' (Kd.R_new' (Kd.R_new' ho0 (Kd.R_lt (R_mv HO_4.out))) (Kd.R_lt (R_mv HO_5.out))) (Kd.R_lt (R_mv HO_7.out))) (Kd.R_lt (R_mv HO_36.out))) (bwZ (bmv HB.out)));have n5_:=Az.mk (bwT (bmv HB.out) hb);clear HO_4;clear HO_5;clear HO_7;clear HO_36;clear HB;have HO_4:=n0_;have HO_5:=n1_;have HO_7:=n2_;have HO_36:=n3_;have HO241:=n4_;have HB:=n5_;clear n0_ n1_ n2_ n3_ n4_ n5_;(try clear hb);(try clear hb2);(try clear hk);(try clear hi);(try clear ho0);obtain ⟨Ao26,co26,eo26⟩:=Kd.R_slice HO241.out;subst eo26))
               go_roundg k2
               case measure=>have:=HJ3.out;have:=HK2.out;omega
               case rel=>exact ⟨(x4_2),(x5_2),(wrap64 (x38_2 + 1)),(by first | rfl | (simp;done) | (simp [*];done)),H',⟨by have:=HJ3.out;have:=HK2.out;omega⟩,⟨R_mv (Kd.R_mono HO_4.out (fun _ hk=>⟨hk.1.1,⟨hk.1.2.1,hk.1.2.2⟩⟩))⟩,⟨R_mv (Kd.R_mono HO_5.out (fun _ hk=>⟨hk.1.1,⟨hk.1.2.1,hk.1.2.2⟩⟩))⟩,⟨R_mv (Kd.R_mono HO_7.out (fun _ hk=>⟨hk.1.1,⟨hk.1.2.1,hk.1.2.2⟩⟩))⟩,⟨R_mv (Kd.R_mono HO_36.out (fun _ hk=>⟨hk.1.1,⟨hk.1.2.1,hk.1.2.2⟩⟩))⟩,⟨bmv HB.out⟩⟩
           · rw [if_neg c14] at H
             exact absurd H (by simp)
         · rw [if_neg c13] at H
           exact absurd H (by simp)
       · rw [if_neg c12] at H
         have c12b0 : decide (x38_2 < (t234.length : Int)) = false:=decide_eq_false c12
         clear c12
         simp only [Option.some.injEq,Prod.mk.injEq] at H
         obtain ⟨rfl,rfl⟩:=H
         go_wp2
         go_ret2
         exact ⟨_,_,by first | rfl | (simp [errW_none,errW_some] <;> rfl) | (simp [*,errW_none,errW_some] <;> rfl),R_mv (Kd.R_mono HO_4.out (fun _ hk=>hk.1)),R_mv (Kd.R_mono HO_5.out (fun _ hk=>hk.1)),bmv HB.out⟩
def tree_New.f (a0_0 : Bool) (a0_1 : Int) (a0_2 : Int) (a0_3 : Int) (a0_4 : Int) (l0_5 : List Int) : Option ((List (S29))):=(tree_leafOf.f a0_0 a0_1 a0_2 a0_3 a0_4 l0_5).bind fun bt250=>(some (([(⟨bt250.1,bt250.2.1,bt250.2.2.1,bt250.2.2.2.1,bt250.2.2.2.2.1,bt250.2.2.2.2.2⟩ : S29)] : List (S29))))
set_option maxHeartbeats 8000000 in
set_option maxRecDepth 100000 in
theorem tree_New.calls (a0_0 : Bool) (a0_1 : Int) (a0_2 : Int) (a0_3 : Int) (a0_4 : Int) (A0_5 : Option Addr) (c0_5 : Nat) (l0_5 : List Int) (r : List (S29)) (w : World) (hr0_5 : Kd.C (Kd.int .i64) w A0_5 l0_5.length l0_5) (hc0_5 : l0_5.length≤c0_5) (h : tree_New.f a0_0 a0_1 a0_2 a0_3 a0_4 l0_5 = some r) :
 Calls Tryd.prog 28 #[.agg #[.bool a0_0,.int .i64 a0_1,.int .i64 a0_2,.int .i64 a0_3,.int .i64 a0_4,.slice A0_5 l0_5.length c0_5]] w fun e w'=>∃ v0_ : Value,e = .returned (v0_)∧Kd.N k29 29 w' w.heap.size (fun k_=>(w.heap.size≤k_)) v0_ r∧Below w.heap.size w w':=by
 have hu29:=Tryd.underlying29
 have HR0_5:=Az.mk hr0_5
 have HC0_5:=Az.mk hc0_5
 clear hr0_5 hc0_5
 have HB:=Az.mk (Below.refl w.heap.size w)
 have H : ((tree_leafOf.f a0_0 a0_1 a0_2 a0_3 a0_4 l0_5).bind fun bt250=>(some (([(⟨bt250.1,bt250.2.1,bt250.2.2.1,bt250.2.2.2.1,bt250.2.2.2.2.1,bt250.2.2.2.2.2⟩ : S29)] : List (S29))))) = some r:=h
 clear h
 replace H:=Option.bind_eq_some_iff.mp H
 obtain ⟨⟨t250,t251,t252,t253,t254,t255⟩,A20,H⟩:=H
 replace H : (some (([(⟨t250,t251,t252,t253,t254,t255⟩ : S29)] : List (S29)))) = some r:=H
 have A2:=Az.mk A20
 clear A20
 obtain ⟨y258,hy258⟩ : ∃ y_ : List (S29),y_ = (([(⟨t250,t251,t252,t253,t254,t255⟩ : S29)] : List (S29))):=⟨_,rfl⟩
 replace H : (some y258) = some r:=by first | (rw [hy258];with_reducible exact H) | (have H2_:=(Option.bind_some _ _).symm.trans H;rw [hy258];with_reducible exact H2_) | (have H2_:=(Option.bind_some _ _).symm.trans H;with_reducible exact H2_) | with_reducible exact H | (rw [hy258];exact H) | exact H
 have Ny258:=Az.mk hy258
 clear hy258
 obtain rfl:=Option.some.inj H
 go_enter Tryd.func28,Tryd.ntmps28
 go_wp2_with (first | ((with_reducible refine gate_dst (N:=1) rfl ?_);refine box_event ?hg (N:=1) ?hd (cs:=#[.bool a0_0,.int .i64 a0_1,.int .i64 a0_2,.int .i64 a0_3,.int .i64 a0_4,.slice A0_5 l0_5.length c0_5]) (t:=29) ?hr ?_;(case hd=>rfl);(case hg=>rfl);(case hr=>first | (go_simp;done) | (go_simp;rfl));intro gb249 hg w3 hbox hb;have n0_:=Az.mk (bwT (bmv HB.out) hb);have n1_:=Az.mk (hbox);have n2_:=Az.mk ((by rw [hg];exact (bwZ (bmv HB.out)) : w.heap.size≤gb249));have n3_:=Az.mk ((by rw [hg];exact (bwZ (bmv HB.out)) : w.heap.size≤gb249));clear HB;have HB:=n0_;have BK249:=n1_;have GW249:=n2_;have GE249:=n3_;clear n0_ n1_ n2_ n3_;clear hb hbox hg;obtain ⟨⟨hcz4_0,hcz4_1,hcz4_2,hcz4_3,hcz4_4,hcz4_5⟩,hfz4_0,hfz4_1,hfz4_2,hfz4_3,hfz4_4,hfz4_5⟩:=cells6 BK249.out) | ((with_reducible refine gate_callee (f:=51) rfl ?_);refine goesL_ (some 4) rfl rfl Tryd.func51 (by kernel_rfl) rfl #[.agg #[.bool a0_0,.int .i64 a0_1,.int .i64 a0_2,.int .i64 a0_3,.int .i64 a0_4,.slice A0_5 l0_5.length c0_5]] rfl (by (try simp only [List.map_toArray,List.map_cons,List.map_nil]);first | done | rfl | (simp only [List.length_drop,List.length_take];rfl)) ?_;(with_reducible refine (tree_leafOf.calls a0_0 a0_1 a0_2 a0_3 a0_4 _ _ l0_5 t250 t251 t252 t253 t254 t255 _ ?side1 ?side2 A2.out).mono ?_);(case side1=>exact C_mv ((Kd.C_below HR0_5.out HB.out)));(case side2=>exact HC0_5.out);rintro e w5 ⟨v256,rfl,ho0,hb⟩;refine ⟨_,rfl,?_⟩;obtain ⟨Av_,cv_,hv_⟩:=Kd.R_slice ho0;have HV256:=Az.mk hv_;clear hv_;have n0_:=Az.mk (Kd.R_lower (Kd.R_newM (M:=fun k_=>(w.heap.size≤k_)) ho0 (bwZ (by repeat (with_reducible first | exact bmv HB.out | refine bwS ?_ GE249.out))) (fun k_ h_=>h_)) (bwZ (by repeat (with_reducible first | exact bmv HB.out | refine bwS ?_ GE249.out))));have n1_:=Az.mk (kB (g:=gb249) (o:=.cells #[.bool a0_0,.int .i64 a0_1,.int .i64 a0_2,.int .i64 a0_3,.int .i64 a0_4,.slice A0_5 l0_5.length c0_5] 29 (0,0)) (blk_mv BK249.out) hb);have n2_:=Az.mk (bwT (by repeat (with_reducible first | exact bmv HB.out | refine bwS ?_ GE249.out)) hb);clear BK249;clear HB;have HO257:=n0_;have BK249:=n1_;have HB:=n2_;clear n0_ n1_ n2_;(try clear hb);(try clear hb2);(try clear hk);(try clear hi);(try clear ho0);obtain ⟨Ao6,co6,eo6⟩:=Kd.R_slice HO257.out;subst eo6) | ((with_reducible refine gate_dst (N:=5) rfl ?_);refine Kd.N_lit k29 _ 29 ?hg (N':=5) ?hd (xs:=([(⟨t250,t251,t252,t253,t254,t255⟩ : S29)] : List (S29))) (inner:=[.bool t250,.int .i64 t251,.int .i64 t252,.int .i64 t253,.int .i64 t254,.slice Ao6 t255.length co6]) (ok:=(fun k_=>(w.heap.size≤k_)∧k_≠gb249)) (okp:=(fun k_=>(w.heap.size≤k_)∧k_≠gb249)) ?hr ?hp (fun _ hk=>hk) ((show ∀ k_,w5.heap.size≤k_→(fun k_=>(w.heap.size≤k_)∧k_≠gb249) k_ from fun k_ hk=>⟨(Nat.le_trans (bwZ (by repeat (with_reducible first | exact bmv HB.out | refine bwS ?_ GE249.out))) hk),Kd.freshB (g:=gb249) (o:=.cells #[.bool a0_0,.int .i64 a0_1,.int .i64 a0_2,.int .i64 a0_3,.int .i64 a0_4,.slice A0_5 l0_5.length c0_5] 29 (0,0)) (blk_mv BK249.out) k_ hk⟩) _ (Nat.le_refl _)) (Below.refl _ _) (Nat.le_refl _) (by simp) ?_;(case hd=>rfl);(case hg=>rfl);(case hr=>first | (go_simp;done) | (go_simp;rfl));(case hp=>exact (Reps.c6 (show Kd.FK k29 _ _ (⟨t250,t251,t252,t253,t254,t255⟩ : S29) [.bool t250,.int .i64 t251,.int .i64 t252,.int .i64 t253,.int .i64 t254,.slice Ao6 t255.length co6] from (k29_mkF _ _ (⟨t250,t251,t252,t253,t254,t255⟩ : S29) (Kd.R_reads' (Kd.R_mono (ok':=(fun k_=>(w.heap.size≤k_)∧k_≠gb249)) (Kd.R_types (HO257.out) BK249.out (by decide)) (fun k_ hk=>⟨hk.1.1,hk.2⟩))).2.1 (Kd.R_F (Kd.R_mono (ok':=(fun k_=>(w.heap.size≤k_)∧k_≠gb249)) (Kd.R_types (HO257.out) BK249.out (by decide)) (fun k_ hk=>⟨hk.1.1,hk.2⟩))))) (Reps.none _ _)));intro v259 w7 ho8 hb hg_ hnew_;clear hg_ hnew_;(first | rw [← Ny258.out] at ho8 | (simp only [Int.reduceToNat] at ho8;rw [← Ny258.out] at ho8));have n0_:=Az.mk (Kd.N_lower ho8 (bwZ (by repeat (with_reducible first | exact bmv HB.out | refine bwS ?_ GE249.out))));have n1_:=Az.mk (kB (g:=gb249) (o:=.cells #[.bool a0_0,.int .i64 a0_1,.int .i64 a0_2,.int .i64 a0_3,.int .i64 a0_4,.slice A0_5 l0_5.length c0_5] 29 (0,0)) (blk_mv BK249.out) hb);have n2_:=Az.mk (bwT (by repeat (with_reducible first | exact bmv HB.out | refine bwS ?_ GE249.out)) hb);clear BK249;clear HB;clear HO257;have HO260:=n0_;have BK249:=n1_;have HB:=n2_;clear n0_ n1_ n2_;clear hb ho8))
 go_ret
 exact ⟨_,by first | rfl | (simp [errW_none,errW_some] <;> rfl) | (simp [*,errW_none,errW_some] <;> rfl),N_mv (Kd.N_mono HO260.out (fun _ hk=>hk.1)),by repeat (with_reducible first | exact bmv HB.out | refine bwS ?_ GE249.out)⟩
def r1Ints.l0 : Nat→List Int→List Int→Int→Option (Bool)
 | 0,_,_,_=>none
 | k + 1,x0,x1,x5=>if x5 < (x0.length : Int) then (if 0≤x5 then (if x5 < (x1.length : Int) then (if (rd x0 x5) = (rd x1 x5) then (r1Ints.l0 k x0 x1 (wrap64 (x5 + 1))) else (some false)) else (none)) else (none)) else (some true)
def r1Ints.f (k : Nat) (l0 : List Int) (l1 : List Int) : Option (Bool):=if (l0.length : Int) = (l1.length : Int) then (r1Ints.l0 k l0 l1 0) else (some false)
theorem r1Ints.mono_l : ∀ k,(∀ y0 y1 y2,LeO (r1Ints.l0 k y0 y1 y2) (r1Ints.l0 (k + 1) y0 y1 y2))
 | 0=>fun _ _ _ r h=>by simp [r1Ints.l0] at h
 | k + 1=>by
  have ih0:=r1Ints.mono_l k
  · intro y0 y1 y2
    unfold r1Ints.l0
    repeat' first
    | (with_reducible exact ih0 _ _ _)
    | (with_reducible exact LeO.refl _)
    | (with_reducible exact LeO.none _)
    | (with_reducible refine LeO.ite ?_ ?_)
    | (with_reducible refine LeO.bind ?_ (fun _=>?_))
    | exact ih0 _ _ _
    | exact LeO.none _
    | refine LeO.ite ?_ ?_
    | refine LeO.bind ?_ (fun _=>?_)
theorem r1Ints.mono : ∀ a0 a1 k,LeO (r1Ints.f k a0 a1) (r1Ints.f (k + 1) a0 a1):=by
 intro a0 a1 k
 have ih0:=r1Ints.mono_l k
 unfold r1Ints.f
 repeat' first
  | (with_reducible exact ih0 _ _ _)
  | (with_reducible exact LeO.refl _)
  | (with_reducible exact LeO.none _)
  | (with_reducible refine LeO.ite ?_ ?_)
  | (with_reducible refine LeO.bind ?_ (fun _=>?_))
  | exact ih0 _ _ _
  | exact LeO.none _
  | refine LeO.ite ?_ ?_
  | refine LeO.bind ?_ (fun _=>?_)
set_option maxHeartbeats 8000000 in
set_option maxRecDepth 100000 in
theorem r1Ints.calls (k : Nat) (A0 : Option Addr) (c0 : Nat) (l0 : List Int) (A1 : Option Addr) (c1 : Nat) (l1 : List Int) (r : Bool) (w : World) (hr0 : Kd.C (Kd.int .i64) w A0 l0.length l0) (hc0 : l0.length≤c0) (hr1 : Kd.C (Kd.int .i64) w A1 l1.length l1) (hc1 : l1.length≤c1) (h : r1Ints.f k l0 l1 = some r) :
 Calls Tryd.prog 34 #[.slice A0 l0.length c0,.slice A1 l1.length c1] w fun e w'=>e = .returned (.bool r)∧Drawn0 w w':=by
 have HR0:=Az.mk hr0
 have HC0:=Az.mk hc0
 clear hr0 hc0
 have HR1:=Az.mk hr1
 have HC1:=Az.mk hc1
 clear hr1 hc1
 have H : (if (l0.length : Int) = (l1.length : Int) then (r1Ints.l0 k l0 l1 0) else (some false)) = some r:=h
 clear h
 by_cases c3 : (l0.length : Int) = (l1.length : Int)
 · rw [if_pos c3] at H
   have c3b0 : ((l0.length : Int) == (l1.length : Int)) = true:=beq_iff_eq.mpr c3
   have c3b1 : ((l0.length : Int) != (l1.length : Int)) = false:=bne_eq_false_iff_eq.mpr c3
   have c3b2 : (l0.length == l1.length) = true:=by first | simpa using c3 | (simp at c3 ⊢;omega)
   clear c3
   have H':=Az.mk H
   clear H
   go_enter Tryd.func34,Tryd.ntmps34
   go_wp2
   repeat (go_quiet (fail);try go_wp2)
   go_loopg [5] k (fun kq v5 w'=>∃ (x5_1 : Int),v5 = .int .i64 x5_1∧Az (r1Ints.l0 kq l0 l1 x5_1 = some r)∧Az (kq≤k)∧Drawn0 w w')
   case atStart=>exact ⟨(0),(by first | rfl | (simp;done) | (simp [*];done)),H',⟨Nat.le_refl _⟩,by repeat (first | exact Drawn0.refl _ | apply Drawn0.step)⟩
   case round=>
    clear H'
    try clear c1
    try clear c3
    try clear c3b0
    try clear c3b1
    try clear c3b2
    obtain ⟨x5_1,rfl,HA,HK1,⟨m1,rfl⟩⟩:=hrel
    cases gk with
    | zero=>exact absurd HA.out (by simp [r1Ints.l0])
    | succ k1=>
     have H:=HA.out
     clear HA
     simp only [r1Ints.l0] at H
     by_cases c4 : x5_1 < (l0.length : Int)
     · rw [if_pos c4] at H
       have c4b0 : decide (x5_1 < (l0.length : Int)) = true:=decide_eq_true c4
       clear c4
       by_cases c5 : 0≤x5_1
       · rw [if_pos c5] at H
         have c5b0 : decide (0≤x5_1) = true:=decide_eq_true c5
         clear c5
         by_cases c6 : x5_1 < (l1.length : Int)
         · rw [if_pos c6] at H
           have c6b0 : decide (x5_1 < (l1.length : Int)) = true:=decide_eq_true c6
           clear c6
           by_cases c7 : (rd l0 x5_1) = (rd l1 x5_1)
           · rw [if_pos c7] at H
             have c7b0 : ((rd l0 x5_1) == (rd l1 x5_1)) = true:=beq_iff_eq.mpr c7
             have c7b1 : ((rd l0 x5_1) != (rd l1 x5_1)) = false:=bne_eq_false_iff_eq.mpr c7
             clear c7
             have H':=Az.mk H
             clear H
             have p261 : 0≤(x5_1 : Int):=of_decide_eq_true (by first | (with_reducible assumption) | assumption)
             have q261 : x5_1 < (l0.length : Int):=of_decide_eq_true (by first | (with_reducible assumption) | assumption)
             obtain ⟨ad261,e261,hx261_0⟩:=Kd.at_int HR0.out x5_1 p261 q261
             cases e261
             replace p261:=eq_true p261
             replace q261:=eq_true q261
             have p262 : 0≤(x5_1 : Int):=of_decide_eq_true (by first | (with_reducible assumption) | assumption)
             have q262 : x5_1 < (l1.length : Int):=of_decide_eq_true (by first | (with_reducible assumption) | assumption)
             obtain ⟨ad262,e262,hx262_0⟩:=Kd.at_int HR1.out x5_1 p262 q262
             cases e262
             replace p262:=eq_true p262
             replace q262:=eq_true q262
             go_wp2
             repeat (go_quiet (fail);try go_wp2)
             go_roundg k1
             case measure=>have:=HK1.out;omega
             case rel=>exact ⟨(wrap64 (x5_1 + 1)),(by first | rfl | (simp;done) | (simp [*];done)),H',⟨by have:=HK1.out;omega⟩,by repeat (first | exact Drawn0.refl _ | apply Drawn0.step)⟩
           · rw [if_neg c7] at H
             have c7b0 : ((rd l0 x5_1) == (rd l1 x5_1)) = false:=beq_eq_false_iff_ne.mpr c7
             have c7b1 : ((rd l0 x5_1) != (rd l1 x5_1)) = true:=bne_iff_ne.mpr c7
             obtain rfl:=Option.some.inj H
             have p261 : 0≤(x5_1 : Int):=of_decide_eq_true (by first | (with_reducible assumption) | assumption)
             have q261 : x5_1 < (l0.length : Int):=of_decide_eq_true (by first | (with_reducible assumption) | assumption)
             obtain ⟨ad261,e261,hx261_0⟩:=Kd.at_int HR0.out x5_1 p261 q261
             cases e261
             replace p261:=eq_true p261
             replace q261:=eq_true q261
             have p262 : 0≤(x5_1 : Int):=of_decide_eq_true (by first | (with_reducible assumption) | assumption)
             have q262 : x5_1 < (l1.length : Int):=of_decide_eq_true (by first | (with_reducible assumption) | assumption)
             obtain ⟨ad262,e262,hx262_0⟩:=Kd.at_int HR1.out x5_1 p262 q262
             cases e262
             replace p262:=eq_true p262
             replace q262:=eq_true q262
             go_wp2
             repeat (go_quiet (fail);try go_wp2)
             go_ret
             exact ⟨by first | rfl | (simp;done) | (simp [*];done),by repeat (first | exact Drawn0.refl _ | apply Drawn0.step)⟩
         · rw [if_neg c6] at H
           exact absurd H (by simp)
       · rw [if_neg c5] at H
         exact absurd H (by simp)
     · rw [if_neg c4] at H
       have c4b0 : decide (x5_1 < (l0.length : Int)) = false:=decide_eq_false c4
       clear c4
       obtain rfl:=Option.some.inj H
       go_wp2
       repeat (go_quiet (fail);try go_wp2)
       go_ret
       exact ⟨by first | rfl | (simp;done) | (simp [*];done),by repeat (first | exact Drawn0.refl _ | apply Drawn0.step)⟩
 · rw [if_neg c3] at H
   have c3b0 : ((l0.length : Int) == (l1.length : Int)) = false:=beq_eq_false_iff_ne.mpr c3
   have c3b1 : ((l0.length : Int) != (l1.length : Int)) = true:=bne_iff_ne.mpr c3
   have c3b2 : (l0.length == l1.length) = false:=by first | simpa using c3 | (simp at c3 ⊢;omega)
   obtain rfl:=Option.some.inj H
   go_enter Tryd.func34,Tryd.ntmps34
   go_wp2
   repeat (go_quiet (fail);try go_wp2)
   go_ret
   exact ⟨by first | rfl | (simp;done) | (simp [*];done),by repeat (first | exact Drawn0.refl _ | apply Drawn0.step)⟩
def aL1 : List (S29):=(tree_New.f false 5 1 0 0 []).getD []
def aL2 : List (S29):=((tree_Add.f 60 aL1 false 6 2 0 0 []).getD ([],0,0)).1
theorem an1 : tree_New.f false 5 1 0 0 [] = some aL1:=by kernel_rfl
set_option maxRecDepth 100000 in
theorem an2 : tree_Add.f 60 aL1 false 6 2 0 0 [] = some (aL2,1,0):=by kernel_rfl
set_option maxRecDepth 100000 in
theorem an3 : aL1.length = 1∧aL2.length = 3:=by decide +kernel
set_option maxRecDepth 100000 in
theorem an4 : tree_Filtered.f 60 aL2 0 = some ([1],[2]):=by decide +kernel
theorem an5 : r1Ints.f 60 [1] [1] = some true:=by decide +kernel
theorem an6 : r1Ints.f 60 [2] [2] = some true:=by decide +kernel
set_option maxRecDepth 100000 in
theorem an7 : tree_Check.f 60 aL2 = some true:=by decide +kernel
set_option maxRecDepth 100000 in
theorem an8 : (rd_T29 aL2 0).f0 = true∧(rd_T29 aL2 0).f1 = 5∧(rd_T29 aL2 1).f0 = false∧(rd_T29 aL2 2).f1 = 6:=by decide +kernel
set_option maxHeartbeats 8000000 in
set_option maxRecDepth 100000 in
theorem hanchor (w : World) (hrG : TabG w) : Calls Tryd.prog 13 #[] w fun e w'=>e = .returned (.bool true)∧Below w.heap.size w w':=by
 have HG:=Az.mk hrG
 clear hrG
 go_enter Tryd.func13,Tryd.ntmps13
 go_upto_region 2 with (first
  | (go_at_call 28;refine (tree_New.calls false 5 1 0 0 none 0 [] aL1 _ (Kd.C_nil _ _) (Nat.le_refl _) an1).mono ?_;rintro e w1 ⟨v1,rfl,hN1,hb1⟩;obtain ⟨A1,c1,rfl⟩:=Kd.N_slice hN1;have R1:=Az.mk (Kd.N_reads' hN1);have G1:=Az.mk (TabG.below HG.out hb1);have B1:=Az.mk hb1;clear hN1 hb1)
  | (go_at_call 19;refine (tree_Add.calls 60 A1 c1 aL1 false 6 2 0 0 (fun _=>False) none 0 [] aL2 1 0 _ G1.out R1.out.2.2 R1.out.2.1 (Kd.V_nil _ _ _ _ _) an2).mono ?_;rintro e w2 ⟨v2,rfl,hS2,hb2⟩;have N2:=Az.mk (Kd.S_N hS2);have G2:=Az.mk (TabG.below G1.out hb2);have B2:=Az.mk hb2;clear hS2 hb2))
 obtain ⟨A2,c2,rfl⟩:=Kd.N_slice N2.out
 have hR2:=Kd.N_reads' N2.out
 have hF:=tree_Filtered.calls 60 A2 c2 aL2 0 [1] [2] w2 G2.out hR2.2.2 hR2.2.1 an4
 have hC2:=hR2.2.2
 have hcap : 3≤c2:=by have:=hR2.2.1;rw [an3.2] at this;exact this
 rw [an3.2] at hF hC2 ⊢
 have HF:=Az.mk hF
 have HC2:=Az.mk hC2
 have HCAP:=Az.mk hcap
 clear hF hC2 hR2 hcap N2 R1
 go_upto_region 5 with (go_at_call 23;refine HF.out.mono ?_;rintro e w3 ⟨v4,v5,rfl,ho0,ho1,hb3⟩)
 have hC3:=Kd.C_below HC2.out hb3
 have G3:=Az.mk (TabG.below G2.out hb3)
 have B3:=Az.mk hb3
 obtain ⟨A4,c4,rfl⟩:=Kd.R_slice ho0
 obtain ⟨A5,c5,rfl⟩:=Kd.R_slice ho1
 have P4:=Az.mk (Kd.R_reads' ho0)
 have P5:=Az.mk (Kd.R_reads' ho1)
 obtain ⟨ad,_,_,eA,x0,x1,_⟩:=at_T29 hC3 0 (by omega) (by omega)
 obtain ⟨ad',_,_,eA',y0,_⟩:=at_T29 hC3 1 (by omega) (by omega)
 have e1:=Option.some.inj (eA.symm.trans eA')
 subst e1
 obtain ⟨ad',_,_,eA',z0,z1,_⟩:=at_T29 hC3 2 (by omega) (by omega)
 have e1:=Option.some.inj (eA.symm.trans eA')
 subst e1
 subst eA
 rw [an8.1] at x0
 rw [an8.2.1] at x1
 rw [an8.2.2.1] at y0
 rw [an8.2.2.2] at z1
 have HC3:=Az.mk hC3
 clear eA' z0 hC3 HF HC2 ho0 ho1 hb3
 simp only [show Int.toNat 0 * 6 = 0 from rfl,show Int.toNat 1 * 6 = 6 from rfl,show Int.toNat 2 * 6 = 12 from rfl,Addr.add_zero'] at x0 x1 y0 z1
 have q6 : ad.add 6 = ⟨ad.block,ad.off + 6,none⟩:=by unfold Addr.add;rw [if_neg (by decide)]
 have q12 : ad.add 12 = ⟨ad.block,ad.off + 12,none⟩:=by unfold Addr.add;rw [if_neg (by decide)]
 rw [q6] at y0
 rw [q12] at z1
 dsimp only at z1
 clear q6 q12
 go_wp2_with (first
  | ((with_reducible refine gate_dst (N:=57) rfl ?_);(try (refine gate_guard (by rfl) ?_;dsimp only));refine Kd.R_lit (Kd.int .i64) _ 3 ?hg (N:=57) ?hd (xs:=([1] : List Int)) (inner:=[.int .i64 1]) (ok:=fun _=>True) (okp:=fun _=>True) ?hr ?hp (fun _ hk=>hk) trivial (Below.refl _ _) (Nat.le_refl _) (by simp) ?_;(case hd=>rfl);(case hg=>rfl);(case hr=>first | (go_simp;done) | (go_simp;rfl));(case hp=>exact (Reps.one (show Kd.M (Kd.int .i64) _ _ _ 1 [.int .i64 1] from rfl) (Reps.none _ _)));intro v6 w5 ho6 hb6 hg_ hnew_;clear hg_ hnew_;obtain ⟨A6,c6,rfl⟩:=Kd.R_slice ho6;have P6:=Az.mk (Kd.R_reads' ho6);clear ho6)
  | (go_at_call 34;have hI:=r1Ints.calls 60 A4 c4 [1] A6 c6 [1] true w5 (Kd.C_below P4.out.2.2 hb6) P4.out.2.1 P6.out.2.2 P6.out.2.1 an5;simp only [List.length_cons,List.length_nil,Nat.zero_add] at hI;with_reducible refine hI.mono ?_;clear hI;rintro e w6 ⟨rfl,⟨nd1,rfl⟩⟩)
  | ((with_reducible refine gate_dst (N:=62) rfl ?_);(try (refine gate_guard (by rfl) ?_;dsimp only));refine Kd.R_lit (Kd.int .i64) _ 3 ?hg (N:=62) ?hd (xs:=([2] : List Int)) (inner:=[.int .i64 2]) (ok:=fun _=>True) (okp:=fun _=>True) ?hr ?hp (fun _ hk=>hk) trivial (Below.refl _ _) (Nat.le_refl _) (by simp) ?_;(case hd=>rfl);(case hg=>rfl);(case hr=>first | (go_simp;done) | (go_simp;rfl));(case hp=>exact (Reps.one (show Kd.M (Kd.int .i64) _ _ _ 2 [.int .i64 2] from rfl) (Reps.none _ _)));intro v7 w7 ho7 hb7 hg_ hnew_;clear hg_ hnew_;obtain ⟨A7,c7,rfl⟩:=Kd.R_slice ho7;have P7:=Az.mk (Kd.R_reads' ho7);clear ho7)
  | (go_at_call 34;have hI:=r1Ints.calls 60 A5 c5 [2] A7 c7 [2] true w7 (Kd.C_below (Kd.C_drewN (Kd.C_below P5.out.2.2 hb6) nd1) hb7) P5.out.2.1 P7.out.2.2 P7.out.2.1 an6;simp only [List.length_cons,List.length_nil,Nat.zero_add] at hI;with_reducible refine hI.mono ?_;clear hI;rintro e w8 ⟨rfl,⟨nd2,rfl⟩⟩)
  | (go_at_call 15;have b6:=bwN (bwT (bwN (bwT (bwT (bwT B1.out B2.out) B3.out) hb6) nd1) hb7) nd2;have hK:=tree_Check.calls 60 (some ad) c2 aL2 true _ (TabG.below HG.out b6) (by rw [an3.2];exact Kd.C_drewN (Kd.C_below (Kd.C_drewN (Kd.C_below HC3.out hb6) nd1) hb7) nd2) (by rw [an3.2];exact HCAP.out) an7;rw [an3.2] at hK;with_reducible refine hK.mono ?_;clear hK;rintro e w9 ⟨rfl,hb9⟩;have BF:=Az.mk (bwT b6 hb9);clear b6 hb9))
 go_ret
 exact ⟨rfl,BF.out⟩
def w4anchor.f (_k : Nat)  : Option (Bool):=some true
theorem w4anchor.mono : ∀ k,LeO (w4anchor.f k ) (w4anchor.f (k + 1) ):=fun _=>LeO.refl _
theorem w4anchor.calls (k : Nat)  (r : Bool) (w : World) (hrG : TabG w) (h : w4anchor.f k  = some r) :
 Calls Tryd.prog 13 #[] w fun e w'=>e = .returned (.bool r)∧Below w.heap.size w w':=by
  obtain rfl : r = true:=(Option.some.inj h).symm
  exact hanchor w hrG
def r4Copy.l0 : Nat→List (S29)→List (S29)→Int→Option ((List (S29)))
 | 0,_,_,_=>none
 | k + 1,x0,x3,x4=>if x4 < (x0.length : Int) then (if 0≤x4 then ((some (([] : List Int) : List Int)).bind fun y292=>(if y292.length + ((rd_T29 x0 x4).f5).length < 17592186044416 then (if x3.length < 2199023255552 then (r4Copy.l0 k x0 (x3 ++ [(⟨(rd_T29 x0 x4).f0,(rd_T29 x0 x4).f1,(rd_T29 x0 x4).f2,(rd_T29 x0 x4).f3,(rd_T29 x0 x4).f4,(y292 ++ ((rd_T29 x0 x4).f5))⟩ : S29)]) (wrap64 (x4 + 1))) else (none)) else (none))) else (none)) else (some x3)
def r4Copy.f (k : Nat) (l0 : List (S29)) : Option ((List (S29))):=r4Copy.l0 k l0 ([] : List (S29)) 0
theorem r4Copy.mono_l : ∀ k,(∀ y0 y1 y2,LeO (r4Copy.l0 k y0 y1 y2) (r4Copy.l0 (k + 1) y0 y1 y2))
 | 0=>fun _ _ _ r h=>by simp [r4Copy.l0] at h
 | k + 1=>by
  have ih0:=r4Copy.mono_l k
  · intro y0 y1 y2
    unfold r4Copy.l0
    repeat' first
    | (with_reducible exact ih0 _ _ _)
    | (with_reducible exact LeO.refl _)
    | (with_reducible exact LeO.none _)
    | (with_reducible refine LeO.ite ?_ ?_)
    | (with_reducible refine LeO.bind ?_ (fun _=>?_))
    | exact ih0 _ _ _
    | exact LeO.none _
    | refine LeO.ite ?_ ?_
    | refine LeO.bind ?_ (fun _=>?_)
theorem r4Copy.mono : ∀ a0 k,LeO (r4Copy.f k a0) (r4Copy.f (k + 1) a0):=by
 intro a0 k
 have ih0:=r4Copy.mono_l k
 unfold r4Copy.f
 repeat' first
  | (with_reducible exact ih0 _ _ _)
  | (with_reducible exact LeO.refl _)
  | (with_reducible exact LeO.none _)
  | (with_reducible refine LeO.ite ?_ ?_)
  | (with_reducible refine LeO.bind ?_ (fun _=>?_))
  | exact ih0 _ _ _
  | exact LeO.none _
  | refine LeO.ite ?_ ?_
  | refine LeO.bind ?_ (fun _=>?_)
set_option maxHeartbeats 8000000 in
set_option maxRecDepth 100000 in
theorem r4Copy.calls (k : Nat) (A0 : Option Addr) (c0 : Nat) (l0 : List (S29)) (r : List (S29)) (w : World) (hr0 : Kd.C k29 w A0 l0.length l0) (hc0 : l0.length≤c0) (h : r4Copy.f k l0 = some r) :
 Calls Tryd.prog 14 #[.slice A0 l0.length c0] w fun e w'=>∃ v0_ : Value,e = .returned (v0_)∧Kd.S k29 29 w' w.heap.size (fun _=>True) v0_ r∧Below w.heap.size w w':=by
 have hu29:=Tryd.underlying29
 have HR0:=Az.mk hr0
 have HC0:=Az.mk hc0
 clear hr0 hc0
 have HB:=Az.mk (Below.refl w.heap.size w)
 have H : (r4Copy.l0 k l0 ([] : List (S29)) 0) = some r:=h
 clear h
 have H':=Az.mk H
 clear H
 go_enter Tryd.func14,Tryd.ntmps14
 go_wp2
 go_loopg [3,4] k (fun kq v3 v4 w'=>∃ (x3_1 : List (S29)) (x4_1 : Int),v4 = .int .i64 x4_1∧Az (r4Copy.l0 kq l0 x3_1 x4_1 = some r)∧Az (kq≤k)∧Az (Kd.S k29 29 w' w.heap.size (fun _=>True) v3 x3_1)∧Az (Below w.heap.size w w'))
 case atStart=>exact ⟨(([] : List (S29))),(0),(by first | rfl | (simp;done) | (simp [*];done)),H',⟨Nat.le_refl _⟩,⟨by first | exact Kd.S_nil _ _ _ _ _ | exact Kd.N_nil _ _ _ _ _ | exact Kd.V_nil _ _ _ _ _ | exact Kd.Q_nil _ _ _ _ _ | exact Kd.R_nil _ _ _ _ _⟩,⟨bmv HB.out⟩⟩
 case round=>
  clear H'
  obtain ⟨x3_1,x4_1,rfl,HA,HK1,HO_3,HB⟩:=hrel
  cases gk with
  | zero=>exact absurd HA.out (by simp [r4Copy.l0])
  | succ k1=>
   have H:=HA.out
   clear HA
   simp only [r4Copy.l0] at H
   by_cases c2 : x4_1 < (l0.length : Int)
   · rw [if_pos c2] at H
     have c2b0 : decide (x4_1 < (l0.length : Int)) = true:=decide_eq_true c2
     clear c2
     by_cases c3 : 0≤x4_1
     · rw [if_pos c3] at H
       have c3b0 : decide (0≤x4_1) = true:=decide_eq_true c3
       clear c3
       obtain ⟨y292,hy292⟩ : ∃ y_ : List Int,y_ = (([] : List Int)):=⟨_,rfl⟩
       replace H : (if y292.length + ((rd_T29 l0 x4_1).f5).length < 17592186044416 then (if x3_1.length < 2199023255552 then (r4Copy.l0 k1 l0 (x3_1 ++ [(⟨(rd_T29 l0 x4_1).f0,(rd_T29 l0 x4_1).f1,(rd_T29 l0 x4_1).f2,(rd_T29 l0 x4_1).f3,(rd_T29 l0 x4_1).f4,(y292 ++ ((rd_T29 l0 x4_1).f5))⟩ : S29)]) (wrap64 (x4_1 + 1))) else (none)) else (none)) = some r:=by first | (rw [hy292];with_reducible exact H) | (have H2_:=(Option.bind_some _ _).symm.trans H;rw [hy292];with_reducible exact H2_) | (have H2_:=(Option.bind_some _ _).symm.trans H;with_reducible exact H2_) | with_reducible exact H | (rw [hy292];exact H) | exact H
       have Ny292:=Az.mk hy292
       clear hy292
       by_cases c4 : y292.length + ((rd_T29 l0 x4_1).f5).length < 17592186044416
       · rw [if_pos c4] at H
         have LMc4:=Az.mk c4
         clear c4
         obtain ⟨y296,hy296⟩ : ∃ y_ : List Int,y_ = (y292 ++ ((rd_T29 l0 x4_1).f5)):=⟨_,rfl⟩
         replace H : (if x3_1.length < 2199023255552 then (r4Copy.l0 k1 l0 (x3_1 ++ [(⟨(rd_T29 l0 x4_1).f0,(rd_T29 l0 x4_1).f1,(rd_T29 l0 x4_1).f2,(rd_T29 l0 x4_1).f3,(rd_T29 l0 x4_1).f4,y296⟩ : S29)]) (wrap64 (x4_1 + 1))) else (none)) = some r:=by first | (rw [hy296];with_reducible exact H) | (have H2_:=(Option.bind_some _ _).symm.trans H;rw [hy296];with_reducible exact H2_) | (have H2_:=(Option.bind_some _ _).symm.trans H;with_reducible exact H2_) | with_reducible exact H | (rw [hy296];exact H) | exact H
         have Ny296:=Az.mk hy296
         clear hy296
         by_cases c5 : x3_1.length < 2199023255552
         · rw [if_pos c5] at H
           have LMc5:=Az.mk c5
           clear c5
           obtain ⟨y299,hy299⟩ : ∃ y_ : List (S29),y_ = (x3_1 ++ [(⟨(rd_T29 l0 x4_1).f0,(rd_T29 l0 x4_1).f1,(rd_T29 l0 x4_1).f2,(rd_T29 l0 x4_1).f3,(rd_T29 l0 x4_1).f4,y296⟩ : S29)]):=⟨_,rfl⟩
           replace H : (r4Copy.l0 k1 l0 y299 (wrap64 (x4_1 + 1))) = some r:=by first | (rw [hy299];with_reducible exact H) | (have H2_:=(Option.bind_some _ _).symm.trans H;rw [hy299];with_reducible exact H2_) | (have H2_:=(Option.bind_some _ _).symm.trans H;with_reducible exact H2_) | with_reducible exact H | (rw [hy299];exact H) | exact H
           have Ny299:=Az.mk hy299
           clear hy299
           have H':=Az.mk H
           clear H
           have p290 : 0≤(x4_1 : Int):=of_decide_eq_true (by first | (with_reducible assumption) | assumption)
           have q290 : x4_1 < (l0.length : Int):=of_decide_eq_true (by first | (with_reducible assumption) | assumption)
           obtain ⟨ad290,A290_5,c290_5,e290,hx290_0,hx290_1,hx290_2,hx290_3,hx290_4,hx290_5,hl290_5,hi290_5⟩:=at_T29 HR0.out x4_1 p290 q290
           cases e290
           replace hx290_0:=(HB.out.cell (World.block_lt_of_cell? w _ hx290_0)).trans hx290_0
           replace hx290_1:=(HB.out.cell (World.block_lt_of_cell? w _ hx290_1)).trans hx290_1
           replace hx290_2:=(HB.out.cell (World.block_lt_of_cell? w _ hx290_2)).trans hx290_2
           replace hx290_3:=(HB.out.cell (World.block_lt_of_cell? w _ hx290_3)).trans hx290_3
           replace hx290_4:=(HB.out.cell (World.block_lt_of_cell? w _ hx290_4)).trans hx290_4
           replace hx290_5:=(HB.out.cell (World.block_lt_of_cell? w _ hx290_5)).trans hx290_5
           have HR290_5:=Az.mk hi290_5
           have HC290_5:=Az.mk hl290_5
           clear hi290_5 hl290_5
           replace p290:=eq_true p290
           replace q290:=eq_true q290
           go_wp2_with (first | ((with_reducible refine gate_dst (N:=5) rfl ?_);refine box_event ?hg (N:=5) ?hd (cs:=#[.bool false,.int .i64 0,.int .i64 0,.int .i64 0,.int .i64 0,.slice none 0 0]) (t:=29) ?hr ?_;(case hd=>rfl);(case hg=>rfl);(case hr=>first | (go_simp;done) | (go_simp;rfl));intro gb291 hg w6 hbox hb;have n0_:=Az.mk (Kd.S_below (Kd.S_elderB (S_mv HO_3.out) gb291 (Nat.le_of_eq hg.symm)) hb);have n1_:=Az.mk (bwT (bmv HB.out) hb);have n2_:=Az.mk (hbox);have n3_:=Az.mk ((by rw [hg];exact (bwZ (bmv HB.out)) : w.heap.size≤gb291));have n4_:=Az.mk ((by rw [hg];exact (bwZ (bmv HB.out)) : w.heap.size≤gb291));clear HO_3;clear HB;have HO_3:=n0_;have HB:=n1_;have BK291:=n2_;have GW291:=n3_;have GE291:=n4_;clear n0_ n1_ n2_ n3_ n4_;clear hb hbox hg;obtain ⟨⟨hcz7_0,hcz7_1,hcz7_2,hcz7_3,hcz7_4,hcz7_5⟩,hfz7_0,hfz7_1,hfz7_2,hfz7_3,hfz7_4,hfz7_5⟩:=cells6 BK291.out) | ((with_reducible refine gate_dst (N:=16) rfl ?_);refine Kd.R_lit (Kd.int .i64) _ 3 ?hg (N:=16) ?hd (xs:=([] : List Int)) (inner:=[]) (ok:=fun _=>True) (okp:=fun _=>True) ?hr ?hp (fun _ hk=>hk) trivial (Below.refl _ _) (Nat.le_refl _) (by simp) ?_;(case hd=>rfl);(case hg=>rfl);(case hr=>first | (go_simp;done) | (go_simp;rfl));(case hp=>exact (Reps.none _ _));intro v293 w8 ho9 hb hg_ hnew_;clear hg_ hnew_;(first | rw [← Ny292.out] at ho9 | (simp only [Int.reduceToNat] at ho9;rw [← Ny292.out] at ho9));have n0_:=Az.mk (Kd.S_elder' (S_mv ((Kd.S_mono (Kd.S_far (p:=⟨gb291,5,none⟩) (Kd.S_far (p:=⟨gb291,4,none⟩) (Kd.S_far (p:=⟨gb291,3,none⟩) (Kd.S_far (p:=⟨gb291,2,none⟩) (Kd.S_far (p:=⟨gb291,1,none⟩) (Kd.S_far (p:=⟨gb291,0,none⟩) (Kd.S_mono HO_3.out (fun k_ hk=>(⟨hk,hk.2⟩ : _∧k_≠gb291))) (fun _ hk=>hk.2) (.bool ((rd_T29 l0 x4_1).f0))) (fun _ hk=>hk.2) (.int .i64 ((rd_T29 l0 x4_1).f1))) (fun _ hk=>hk.2) (.int .i64 ((rd_T29 l0 x4_1).f2))) (fun _ hk=>hk.2) (.int .i64 ((rd_T29 l0 x4_1).f3))) (fun _ hk=>hk.2) (.int .i64 ((rd_T29 l0 x4_1).f4))) (fun _ hk=>hk.2) (.slice A290_5 ((rd_T29 l0 x4_1).f5).length c290_5)) (fun _ h_=>h_.1)))) (Kd.R_base ho9) hb);have n1_:=Az.mk (Kd.R_lower ho9 (bwZ (by repeat (with_reducible first | exact bmv HB.out | refine bwS ?_ GE291.out))));have n2_:=Az.mk (kB (g:=gb291) (o:=.cells #[.bool ((rd_T29 l0 x4_1).f0),.int .i64 ((rd_T29 l0 x4_1).f1),.int .i64 ((rd_T29 l0 x4_1).f2),.int .i64 ((rd_T29 l0 x4_1).f3),.int .i64 ((rd_T29 l0 x4_1).f4),.slice A290_5 ((rd_T29 l0 x4_1).f5).length c290_5] 29 (0,0)) (by (with_reducible repeat (first | refine kN ?_ _ | refine kD ?_ | refine kA ?_ _));refine blk_put (cs:=#[.bool ((rd_T29 l0 x4_1).f0),.int .i64 ((rd_T29 l0 x4_1).f1),.int .i64 ((rd_T29 l0 x4_1).f2),.int .i64 ((rd_T29 l0 x4_1).f3),.int .i64 ((rd_T29 l0 x4_1).f4),.slice none 0 0]) ?_ 5 _ rfl;(with_reducible repeat (first | refine kN ?_ _ | refine kD ?_ | refine kA ?_ _));refine blk_put (cs:=#[.bool ((rd_T29 l0 x4_1).f0),.int .i64 ((rd_T29 l0 x4_1).f1),.int .i64 ((rd_T29 l0 x4_1).f2),.int .i64 ((rd_T29 l0 x4_1).f3),.int .i64 0,.slice none 0 0]) ?_ 4 _ rfl;(with_reducible repeat (first | refine kN ?_ _ | refine kD ?_ | refine kA ?_ _));refine blk_put (cs:=#[.bool ((rd_T29 l0 x4_1).f0),.int .i64 ((rd_T29 l0 x4_1).f1),.int .i64 ((rd_T29 l0 x4_1).f2),.int .i64 0,.int .i64 0,.slice none 0 0]) ?_ 3 _ rfl;(with_reducible repeat (first | refine kN ?_ _ | refine kD ?_ | refine kA ?_ _));refine blk_put (cs:=#[.bool ((rd_T29 l0 x4_1).f0),.int .i64 ((rd_T29 l0 x4_1).f1),.int .i64 0,.int .i64 0,.int .i64 0,.slice none 0 0]) ?_ 2 _ rfl;(with_reducible repeat (first | refine kN ?_ _ | refine kD ?_ | refine kA ?_ _));refine blk_put (cs:=#[.bool ((rd_T29 l0 x4_1).f0),.int .i64 0,.int .i64 0,.int .i64 0,.int .i64 0,.slice none 0 0]) ?_ 1 _ rfl;(with_reducible repeat (first | refine kN ?_ _ | refine kD ?_ | refine kA ?_ _));refine blk_put (cs:=#[.bool false,.int .i64 0,.int .i64 0,.int .i64 0,.int .i64 0,.slice none 0 0]) ?_ 0 _ rfl;(with_reducible repeat (first | refine kN ?_ _ | refine kD ?_ | refine kA ?_ _));exact BK291.out) hb);have n3_:=Az.mk (bwT (by repeat (with_reducible first | exact bmv HB.out | refine bwS ?_ GE291.out)) hb);clear HO_3;clear BK291;clear HB;have HO_3:=n0_;have HO294:=n1_;have BK291:=n2_;have HB:=n3_;clear n0_ n1_ n2_ n3_;clear hb ho9;have p295 : 0≤(x4_1 : Int):=of_decide_eq_true (by first | (with_reducible assumption) | assumption);have q295 : x4_1 < (l0.length : Int):=of_decide_eq_true (by first | (with_reducible assumption) | assumption);obtain ⟨ad295,A295_5,c295_5,e295,hx295_0,hx295_1,hx295_2,hx295_3,hx295_4,hx295_5,hl295_5,hi295_5⟩:=at_T29 HR0.out x4_1 p295 q295;obtain rfl : ad290 = ad295:=(by injection e295);replace hx295_0:=(HB.out.cell (World.block_lt_of_cell? w _ hx295_0)).trans hx295_0;replace hx295_1:=(HB.out.cell (World.block_lt_of_cell? w _ hx295_1)).trans hx295_1;replace hx295_2:=(HB.out.cell (World.block_lt_of_cell? w _ hx295_2)).trans hx295_2;replace hx295_3:=(HB.out.cell (World.block_lt_of_cell? w _ hx295_3)).trans hx295_3;replace hx295_4:=(HB.out.cell (World.block_lt_of_cell? w _ hx295_4)).trans hx295_4;replace hx295_5:=(HB.out.cell (World.block_lt_of_cell? w _ hx295_5)).trans hx295_5;have HR295_5:=Az.mk hi295_5;have HC295_5:=Az.mk hl295_5;clear hi295_5 hl295_5;replace p295:=eq_true p295;replace q295:=eq_true q295) | ((with_reducible refine gate_builtin (b:=.append) (xs:=#[.tmp 16,.tmp 21]) rfl ?_);at_builtin;refine Kd.R_append_rows (Kd.int .i64) (w0:=w) w.heap.size rfl (.tmp 16) (.tmp 21) 27 3 (.int .i64 0) 8 rfl Tryd.underlying27 info3 rfl (by decide) (by omega) v293 y292 ((rd_T29 l0 x4_1).f5) _ _ _ (fun _=>True) (fun _=>False) rfl rfl ?aO ?aR (fun _ _ h=>h) (fun _ h=>h.elim) ?aF ?aB ?aS ?aL ?_;(case aR=>repeat (first | exact (Kd.C_below HR295_5.out HB.out) | (with_reducible refine Kd.C_alloc ?_ _) | (with_reducible refine Kd.C_drewN ?_ _) | (with_reducible refine Kd.C_drew ?_)));(case aB=>exact (by repeat (with_reducible first | exact bmv HB.out | refine bwS ?_ GE291.out)));(case aF=>exact (fun _ _=>trivial));(case aO=>exact (R_mv HO294.out));(case aS=>exact (bwZ (by repeat (with_reducible first | exact bmv HB.out | refine bwS ?_ GE291.out))));(case aL=>have:=LMc4.out;omega);intro v297 w10 ho hb hg hat;rw [← Ny296.out] at ho;have n0_:=Az.mk (Kd.S_after (ok:=(fun k_=>k_≠gb291)) (S_mv (Kd.S_mono HO_3.out (fun _ hk=>⟨hk.1.2,hk.2⟩))) hg hat);have n1_:=Az.mk (blk_grown (g:=gb291) (o:=.cells #[.bool ((rd_T29 l0 x4_1).f0),.int .i64 ((rd_T29 l0 x4_1).f1),.int .i64 ((rd_T29 l0 x4_1).f2),.int .i64 ((rd_T29 l0 x4_1).f3),.int .i64 ((rd_T29 l0 x4_1).f4),.slice A290_5 ((rd_T29 l0 x4_1).f5).length c290_5] 29 (0,0)) (blk_mv BK291.out) hg (Kd.R_ne HO294.out BK291.out (by decide)));have n2_:=Az.mk (hb);have n3_:=Az.mk (ho);clear HO_3;clear BK291;clear HB;clear HO294;have HO_3:=n0_;have BK291:=n1_;have HB:=n2_;have HO298:=n3_;clear n0_ n1_ n2_ n3_;clear ho hb hg hat;obtain ⟨Ao11,co11,eo11⟩:=Kd.R_slice HO298.out;subst eo11;obtain ⟨⟨hcz12_0,hcz12_1,hcz12_2,hcz12_3,hcz12_4,hcz12_5⟩,hfz12_0,hfz12_1,hfz12_2,hfz12_3,hfz12_4,hfz12_5⟩:=cells6 BK291.out) | ((with_reducible refine gate_store (t:=27) (p:=23) rfl ?_);refine store_event (t:=27) (p:=23) (v:=?vo_w13) (w1:=(w10.setCell ⟨gb291,5,none⟩ (.slice Ao11 y296.length co11))) ?hg ?ho ?hn ?hr ?_;(case ho=>rfl);(case hg=>rfl);(case hn=>rfl);(case hr=>first | (go_simp;done) | (go_simp;rfl));intro w13 hw;have n0_ : Az (Kd.S k29 29 w13 w.heap.size (fun k_=>some k_≠(.slice Ao11 y296.length co11 : Value).ownBlock∧k_≠gb291) u3 x3_1):=⟨(by rw [hw];exact (S_mv (Kd.S_mono (Kd.S_far (p:=⟨gb291,5,none⟩) (Kd.S_mono HO_3.out (fun k_ hk=>(⟨hk,hk.1⟩ : _∧k_≠gb291))) (fun _ hk=>hk.2) (.slice Ao11 y296.length co11)) (fun _ hk=>⟨hk.1.2,hk.1.1⟩))))⟩;have n1_ : Az (Kd.R (Kd.int .i64) 3 w13 w.heap.size (fun _=>True) (.slice Ao11 y296.length co11) y296):=⟨(by rw [hw];exact (R_mv (Kd.R_mono (Kd.R_far (p:=⟨gb291,5,none⟩) (Kd.R_types HO298.out BK291.out (by decide)) (fun _ hk=>hk.2) (.slice Ao11 y296.length co11)) (fun _ hk=>trivial))))⟩;have n2_ : Az (w13.heap[gb291]? = some (.cells #[.bool ((rd_T29 l0 x4_1).f0),.int .i64 ((rd_T29 l0 x4_1).f1),.int .i64 ((rd_T29 l0 x4_1).f2),.int .i64 ((rd_T29 l0 x4_1).f3),.int .i64 ((rd_T29 l0 x4_1).f4),.slice Ao11 y296.length co11] 29 (0,0))):=⟨(by rw [hw];exact (by (with_reducible repeat (first | refine kN ?_ _ | refine kD ?_ | refine kA ?_ _));refine blk_put (cs:=#[.bool ((rd_T29 l0 x4_1).f0),.int .i64 ((rd_T29 l0 x4_1).f1),.int .i64 ((rd_T29 l0 x4_1).f2),.int .i64 ((rd_T29 l0 x4_1).f3),.int .i64 ((rd_T29 l0 x4_1).f4),.slice A290_5 ((rd_T29 l0 x4_1).f5).length c290_5]) ?_ 5 _ rfl;(with_reducible repeat (first | refine kN ?_ _ | refine kD ?_ | refine kA ?_ _));exact BK291.out))⟩;have n3_ : Az (Below w.heap.size w w13):=⟨(by rw [hw];exact (by repeat (with_reducible first | exact bmv HB.out | refine bwS ?_ GE291.out)))⟩;clear hw;clear HO_3;clear HO298;clear BK291;clear HB;have HO_3:=n0_;have HO298:=n1_;have BK291:=n2_;have HB:=n3_;clear n0_ n1_ n2_ n3_;obtain ⟨⟨hcz14_0,hcz14_1,hcz14_2,hcz14_3,hcz14_4,hcz14_5⟩,hfz14_0,hfz14_1,hfz14_2,hfz14_3,hfz14_4,hfz14_5⟩:=cells6 BK291.out) | ((with_reducible refine gate_builtin (b:=.append) (xs:=#[.tmp 24,.tmp 26]) rfl ?_);at_builtin;refine Kd.S_append k29 (w0:=w) w.heap.size rfl (.tmp 24) (.tmp 26) 22 29 (.agg #[(.bool false),(.int .i64 0),(.int .i64 0),(.int .i64 0),(.int .i64 0),(.slice none 0 0)]) 64 rfl Tryd.underlying22 info29 rfl (by decide) (by omega) u3 x3_1 (⟨(rd_T29 l0 x4_1).f0,(rd_T29 l0 x4_1).f1,(rd_T29 l0 x4_1).f2,(rd_T29 l0 x4_1).f3,(rd_T29 l0 x4_1).f4,y296⟩ : S29) [.bool ((rd_T29 l0 x4_1).f0),.int .i64 ((rd_T29 l0 x4_1).f1),.int .i64 ((rd_T29 l0 x4_1).f2),.int .i64 ((rd_T29 l0 x4_1).f3),.int .i64 ((rd_T29 l0 x4_1).f4),.slice Ao11 y296.length co11] (fun k_=>k_≠gb291) (fun k_=>some k_ = (.slice Ao11 y296.length co11 : Value).ownBlock) rfl rfl ?aP (fun k_ hk_=>((Kd.R_mono (ok':=fun k_=>((fun k_=>k_≠gb291)) k_∧some k_≠(u3 : Value).ownBlock) (Kd.R_types (Kd.R_apart' (HO298.out) (Kd.S_typed HO_3.out) (by decide)) BK291.out (by decide)) (fun k_ hk=>⟨hk.2,hk.1.2⟩))).1 k_ hk_.symm) ?aF ?aO ?aB ?aS ?aL ?_;(case aP=>exact k29_mkM _ _ _ (⟨(rd_T29 l0 x4_1).f0,(rd_T29 l0 x4_1).f1,(rd_T29 l0 x4_1).f2,(rd_T29 l0 x4_1).f3,(rd_T29 l0 x4_1).f4,y296⟩ : S29) (Kd.R_mono (Kd.R_tight rfl (Kd.R_mono (ok':=fun k_=>((fun k_=>k_≠gb291)) k_∧some k_≠(u3 : Value).ownBlock) (Kd.R_types (Kd.R_apart' (HO298.out) (Kd.S_typed HO_3.out) (by decide)) BK291.out (by decide)) (fun k_ hk=>⟨hk.2,hk.1.2⟩))) (fun _ h_=>h_)));(case aB=>exact (by repeat (with_reducible first | exact bmv HB.out | refine bwS ?_ GE291.out)));(case aF=>exact (fun k_ hk=>Kd.freshB (g:=gb291) (o:=.cells #[.bool ((rd_T29 l0 x4_1).f0),.int .i64 ((rd_T29 l0 x4_1).f1),.int .i64 ((rd_T29 l0 x4_1).f2),.int .i64 ((rd_T29 l0 x4_1).f3),.int .i64 ((rd_T29 l0 x4_1).f4),.slice Ao11 y296.length co11] 29 (0,0)) (blk_mv BK291.out) k_ hk));(case aO=>exact (S_mv (Kd.S_mono HO_3.out (fun k_ hk=>⟨hk.2,fun e_=>hk.1 e_⟩))));(case aS=>exact (bwZ (by repeat (with_reducible first | exact bmv HB.out | refine bwS ?_ GE291.out))));(case aL=>have:=LMc5.out;omega);intro v300 w15 ho hb hg hat;rw [← Ny299.out] at ho;have n0_:=Az.mk (blk_grown (g:=gb291) (o:=.cells #[.bool ((rd_T29 l0 x4_1).f0),.int .i64 ((rd_T29 l0 x4_1).f1),.int .i64 ((rd_T29 l0 x4_1).f2),.int .i64 ((rd_T29 l0 x4_1).f3),.int .i64 ((rd_T29 l0 x4_1).f4),.slice Ao11 y296.length co11] 29 (0,0)) (blk_mv BK291.out) hg (Kd.S_away HO_3.out (fun _ hk=>hk.2)));have n1_:=Az.mk (hb);have n2_:=Az.mk (ho);clear BK291;clear HB;clear HO_3;clear HO298;have BK291:=n0_;have HB:=n1_;have HO301:=n2_;clear n0_ n1_ n2_;clear ho hb hg hat))
           go_roundg k1
           case measure=>have:=HK1.out;omega
           case rel=>exact ⟨(y299),(wrap64 (x4_1 + 1)),(by first | rfl | (simp;done) | (simp [*];done)),H',⟨by have:=HK1.out;omega⟩,⟨S_mv (Kd.S_mono HO301.out (fun _ hk=>trivial))⟩,⟨by repeat (with_reducible first | exact bmv HB.out | refine bwS ?_ GE291.out)⟩⟩
         · rw [if_neg c5] at H
           exact absurd H (by simp)
       · rw [if_neg c4] at H
         exact absurd H (by simp)
     · rw [if_neg c3] at H
       exact absurd H (by simp)
   · rw [if_neg c2] at H
     have c2b0 : decide (x4_1 < (l0.length : Int)) = false:=decide_eq_false c2
     clear c2
     obtain rfl:=Option.some.inj H
     go_wp2
     go_ret
     exact ⟨_,by first | rfl | (simp [errW_none,errW_some] <;> rfl) | (simp [*,errW_none,errW_some] <;> rfl),S_mv HO_3.out,bmv HB.out⟩
def r4Leaves.f (l0 : List (S29)) : Option (Int):=some (wrap64 (Int.tdiv (wrap64 ((l0.length : Int) + 1)) 2))
set_option maxHeartbeats 8000000 in
set_option maxRecDepth 100000 in
theorem r4Leaves.calls (A0 : Option Addr) (c0 : Nat) (l0 : List (S29)) (r : Int) (w : World) (hr0 : Kd.C k29 w A0 l0.length l0) (hc0 : l0.length≤c0) (h : r4Leaves.f l0 = some r) :
 Calls Tryd.prog 21 #[.slice A0 l0.length c0] w fun e w'=>e = .returned (.int .i64 r)∧Drawn0 w w':=by
 have HR0:=Az.mk hr0
 have HC0:=Az.mk hc0
 clear hr0 hc0
 have H : (some (wrap64 (Int.tdiv (wrap64 ((l0.length : Int) + 1)) 2))) = some r:=h
 clear h
 obtain rfl:=Option.some.inj H
 go_enter Tryd.func21,Tryd.ntmps21
 go_wp2
 go_ret
 exact ⟨by first | rfl | (simp;done) | (simp [*];done),by repeat (first | exact Drawn0.refl _ | apply Drawn0.step)⟩
end Go.Proofs.YtbblomnhobodkaaDoor.PTw
