/- What this claim reaches of longer texts of this session. -/
import Derived.Test.YtbblomnhobodkaaDoorPTwx0
import Derived.Test.YtbblomnhobodkaaDoorPTwx1
import Derived.Test.YtbblomnhobodkaaDoorPTwx8
import Derived.Test.YtbblomnhobodkaaDoorPTwx16
namespace Go.Proofs.YtbblomnhobodkaaDoor.PTw
open Go.RowKit Go.Proofs.YtbblomnhobodkaaDoorW.PW Go.Proofs.YtbblomnhobodkaaDoorW.PL Go.Proofs.YtbblomnhobodkaaDoorW.PM
attribute [local go_sem] max2_int min2_int max_two min_two max_three min_three max_four min_four   -- for this text's walks alone
set_option linter.unusedVariables false
set_option linter.unusedSimpArgs false
mutual
def w4keys.j0 : Nat→Int→Bool→Int→Int→Bool→Int→Int→Int→Int→List Int→Int→Option (List Int)
 | 0,_,_,_,_,_,_,_,_,_,_,_=>none
 | k + 1,x7,x26,x440000,x440001,x440002,x440003,x440004,x440005,x440006,x440007,x440008=>if x26 = true then (w4keys.j1 k (wrap64 (x7 + x440008)) x440000 x440001 x440002 x440003 x440004 x440005 x440006 x440007 x440008) else (w4keys.j1 k x7 x440000 x440001 x440002 x440003 x440004 x440005 x440006 x440007 x440008)
def w4keys.j1 : Nat→Int→Int→Int→Bool→Int→Int→Int→Int→List Int→Int→Option (List Int)
 | 0,_,_,_,_,_,_,_,_,_,_=>none
 | k + 1,x7,x440000,x440001,x440002,x440003,x440004,x440005,x440006,x440007,x440008=>w4keys.l0 k x7 ([] : List Int) 0 x440000 x440001 x440002 x440003 x440004 x440005 x440006 x440007 x440008
def w4keys.l0 : Nat→Int→List Int→Int→Int→Int→Bool→Int→Int→Int→Int→List Int→Int→Option (List Int)
 | 0,_,_,_,_,_,_,_,_,_,_,_,_=>none
 | k + 1,x7,x8,x9,x440000,x440001,x440002,x440003,x440004,x440005,x440006,x440007,x440008=>if x9 < x7 then (if x8.length < 17592186044416 then (w4keys.l0 k x7 (x8 ++ [x440003]) (wrap64 (x9 + 1)) x440000 x440001 x440002 x440003 x440004 x440005 x440006 x440007 x440008) else (none)) else (some x8)
end
def w4keys.f (k : Nat) (l0 : List (S29)) (a1_0 : Int) (a1_1 : Int) (a1_2 : Bool) (a1_3 : Int) (a1_4 : Int) (a1_5 : Int) (a1_6 : Int) (l1_7 : List Int) (a1_8 : Int) : Option (List Int):=(r4Filtered.f k l0 a1_1).bind fun bt440=>(if a1_8≥(-40) then (w4keys.j0 k (bt440.1.length : Int) (decide (a1_8≤40)) a1_0 a1_1 a1_2 a1_3 a1_4 a1_5 a1_6 l1_7 a1_8) else (w4keys.j0 k (bt440.1.length : Int) false a1_0 a1_1 a1_2 a1_3 a1_4 a1_5 a1_6 l1_7 a1_8))
theorem w4keys.mono_l : ∀ k,(∀ y0 y1 y2 y3 y4 y5 y6 y7 y8 y9 y10,LeO (w4keys.j0 k y0 y1 y2 y3 y4 y5 y6 y7 y8 y9 y10) (w4keys.j0 (k + 1) y0 y1 y2 y3 y4 y5 y6 y7 y8 y9 y10))∧(∀ y0 y1 y2 y3 y4 y5 y6 y7 y8 y9,LeO (w4keys.j1 k y0 y1 y2 y3 y4 y5 y6 y7 y8 y9) (w4keys.j1 (k + 1) y0 y1 y2 y3 y4 y5 y6 y7 y8 y9))∧(∀ y0 y1 y2 y3 y4 y5 y6 y7 y8 y9 y10 y11,LeO (w4keys.l0 k y0 y1 y2 y3 y4 y5 y6 y7 y8 y9 y10 y11) (w4keys.l0 (k + 1) y0 y1 y2 y3 y4 y5 y6 y7 y8 y9 y10 y11))
 | 0=>⟨fun _ _ _ _ _ _ _ _ _ _ _ r h=>by simp [w4keys.j0] at h,fun _ _ _ _ _ _ _ _ _ _ r h=>by simp [w4keys.j1] at h,fun _ _ _ _ _ _ _ _ _ _ _ _ r h=>by simp [w4keys.l0] at h⟩
 | k + 1=>by
  obtain ⟨ih0,ih1,ih2⟩:=w4keys.mono_l k;refine ⟨?_,?_,?_⟩;intro y0 y1 y2 y3 y4 y5 y6 y7 y8 y9 y10;unfold w4keys.j0;rotate_left;intro y0 y1 y2 y3 y4 y5 y6 y7 y8 y9;unfold w4keys.j1;rotate_left;intro y0 y1 y2 y3 y4 y5 y6 y7 y8 y9 y10 y11;unfold w4keys.l0;rotate_left
  repeat' first
   | (with_reducible exact ih0 _ _ _ _ _ _ _ _ _ _ _)
   | (with_reducible exact ih1 _ _ _ _ _ _ _ _ _ _)
   | (with_reducible exact ih2 _ _ _ _ _ _ _ _ _ _ _ _)
   | (with_reducible exact r4Filtered.mono _ _ _)
   | (with_reducible exact LeO.refl _)
   | (with_reducible exact LeO.none _)
   | (with_reducible refine LeO.ite ?_ ?_)
   | (with_reducible refine LeO.bind ?_ (fun _=>?_))
   | exact ih0 _ _ _ _ _ _ _ _ _ _ _
   | exact ih1 _ _ _ _ _ _ _ _ _ _
   | exact ih2 _ _ _ _ _ _ _ _ _ _ _ _
   | exact r4Filtered.mono _ _ _
   | exact LeO.none _
   | refine LeO.ite ?_ ?_
   | refine LeO.bind ?_ (fun _=>?_)
theorem w4keys.mono : ∀ a0 a1 a2 a3 a4 a5 a6 a7 a8 a9 k,LeO (w4keys.f k a0 a1 a2 a3 a4 a5 a6 a7 a8 a9) (w4keys.f (k + 1) a0 a1 a2 a3 a4 a5 a6 a7 a8 a9):=by
 intro a0 a1 a2 a3 a4 a5 a6 a7 a8 a9 k;obtain ⟨ih0,ih1,ih2⟩:=w4keys.mono_l k;unfold w4keys.f
 repeat' first
  | (with_reducible exact ih0 _ _ _ _ _ _ _ _ _ _ _)
  | (with_reducible exact ih1 _ _ _ _ _ _ _ _ _ _)
  | (with_reducible exact ih2 _ _ _ _ _ _ _ _ _ _ _ _)
  | (with_reducible exact r4Filtered.mono _ _ _)
  | (with_reducible exact LeO.refl _)
  | (with_reducible exact LeO.none _)
  | (with_reducible refine LeO.ite ?_ ?_)
  | (with_reducible refine LeO.bind ?_ (fun _=>?_))
  | exact ih0 _ _ _ _ _ _ _ _ _ _ _
  | exact ih1 _ _ _ _ _ _ _ _ _ _
  | exact ih2 _ _ _ _ _ _ _ _ _ _ _ _
  | exact r4Filtered.mono _ _ _
  | exact LeO.none _
  | refine LeO.ite ?_ ?_
  | refine LeO.bind ?_ (fun _=>?_)
set_option maxHeartbeats 8000000 in
set_option maxRecDepth 100000 in
theorem w4keys.calls (k : Nat) (A0 : Option Addr) (c0 : Nat) (l0 : List (S29)) (a1_0 : Int) (a1_1 : Int) (a1_2 : Bool) (a1_3 : Int) (a1_4 : Int) (a1_5 : Int) (a1_6 : Int) (A1_7 : Option Addr) (c1_7 : Nat) (l1_7 : List Int) (a1_8 : Int) (r : List Int) (w : World) (hr0 : Kd.C k29 w A0 l0.length l0) (hc0 : l0.length≤c0) (hr1_7 : Kd.C (Kd.int .i64) w A1_7 l1_7.length l1_7) (hc1_7 : l1_7.length≤c1_7) (h : w4keys.f k l0 a1_0 a1_1 a1_2 a1_3 a1_4 a1_5 a1_6 l1_7 a1_8 = some r) :
 Calls Tryd.prog 39 #[.slice A0 l0.length c0,.agg #[.int .i64 a1_0,.int .i64 a1_1,.bool a1_2,.int .i64 a1_3,.int .i64 a1_4,.int .i64 a1_5,.int .i64 a1_6,.slice A1_7 l1_7.length c1_7,.int .i64 a1_8]] w fun e w'=>∃ v0_ : Value,e = .returned (v0_)∧Kd.R (Kd.int .i64) 3 w' w.heap.size (fun _=>True) v0_ r∧Below w.heap.size w w':=by
 have hu32:=Tryd.underlying32;have HR0:=Az.mk hr0;have HC0:=Az.mk hc0;clear hr0 hc0;have HR1_7:=Az.mk hr1_7;have HC1_7:=Az.mk hc1_7;clear hr1_7 hc1_7;have HB:=Az.mk (Below.refl w.heap.size w);have H : ((r4Filtered.f k l0 a1_1).bind fun bt440=>(if a1_8≥(-40) then (w4keys.j0 k (bt440.1.length : Int) (decide (a1_8≤40)) a1_0 a1_1 a1_2 a1_3 a1_4 a1_5 a1_6 l1_7 a1_8) else (w4keys.j0 k (bt440.1.length : Int) false a1_0 a1_1 a1_2 a1_3 a1_4 a1_5 a1_6 l1_7 a1_8))) = some r:=h;clear h;replace H:=Option.bind_eq_some_iff.mp H;obtain ⟨⟨t440,t441⟩,A30,H⟩:=H;(try dsimp only at H);have A3:=Az.mk A30;clear A30;have HC4:=Az.mk H;clear H
 go_enter Tryd.func39,Tryd.ntmps39
 go_upto_region 3 with (first | ((with_reducible refine gate_dst (N:=3) rfl ?_);refine box_event ?hg (N:=3) ?hd (cs:=#[.int .i64 a1_0,.int .i64 a1_1,.bool a1_2,.int .i64 a1_3,.int .i64 a1_4,.int .i64 a1_5,.int .i64 a1_6,.slice A1_7 l1_7.length c1_7,.int .i64 a1_8]) (t:=32) ?hr ?_;(case hd=>rfl);(case hg=>rfl);(case hr=>exact gr_);intro gb439 hg w5 hbox hb;have BK439:=Az.mk (hbox);have GW439:=Az.mk ((by rw [hg];exact (bwZ (bmv HB.out)) : w.heap.size≤gb439));have GE439:=Az.mk ((by rw [hg];exact (bwZ (bmv HB.out)) : w.heap.size≤gb439));replace HB:=Az.mk (bwT (bmv HB.out) hb);clear hb hbox hg;obtain ⟨⟨hcz6_0,hcz6_1,hcz6_2,hcz6_3,hcz6_4,hcz6_5,hcz6_6,hcz6_7,hcz6_8⟩,hfz6_0,hfz6_1,hfz6_2,hfz6_3,hfz6_4,hfz6_5,hfz6_6,hfz6_7,hfz6_8⟩:=cells9 BK439.out) | ((with_reducible refine gate_callee (f:=37) rfl ?_);refine goesL_ (some 14) rfl rfl Tryd.func37 (by kernel_rfl) rfl #[.slice A0 l0.length c0,.int .i64 a1_1] rfl tl_ ?_;(with_reducible refine (r4Filtered.calls k _ _ l0 a1_1 t440 t441 _ ?side1 ?side2 A3.out).mono ?_);(case side1=>exact C_mv ((Kd.C_below HR0.out HB.out)));(case side2=>exact HC0.out);rintro e w7 ⟨v442,v444,rfl,ho0,ho1,hb⟩;refine ⟨_,rfl,?_⟩;have HO443:=Az.mk (Kd.R_lower ho0 (bwZ (by repeat (with_reducible first | exact bmv HB.out | refine bwS ?_ GE439.out))));have HO445:=Az.mk (Kd.R_lower ho1 (bwZ (by repeat (with_reducible first | exact bmv HB.out | refine bwS ?_ GE439.out))));replace BK439:=Az.mk (kB (blk_mv BK439.out) hb);replace HB:=Az.mk (bwT (by repeat (with_reducible first | exact bmv HB.out | refine bwS ?_ GE439.out)) hb);(try clear hb);(try clear hb2);(try clear hk);(try clear hi);(try clear ho0);(try clear ho1);obtain ⟨Ao8,co8,eo8⟩:=Kd.R_slice HO443.out;subst eo8))
 (try simp only [Act.put,List.setIfInBounds_toArray,List.set_cons_zero,List.set_cons_succ])
 go_cut [26] (fun v26 wc=>∃ (kq : Nat) (x26_3 : Bool),v26 = .bool x26_3∧Az (w4keys.j0 kq (t440.length : Int) x26_3 a1_0 a1_1 a1_2 a1_3 a1_4 a1_5 a1_6 l1_7 a1_8 = some r)∧Az (kq≤k)∧Az (wc.heap[gb439]? = some (.cells #[.int .i64 a1_0,.int .i64 a1_1,.bool a1_2,.int .i64 a1_3,.int .i64 a1_4,.int .i64 a1_5,.int .i64 a1_6,(.slice A1_7 l1_7.length c1_7),.int .i64 a1_8] 32 (0,0)))∧Az (Below w.heap.size w wc))
 case first=>
  have H:=HC4.out;clear HC4
  by_cases c9 : a1_8≥(-40)
  · rw [if_pos c9] at H
    have c9b0 : decide ((-40)≤a1_8) = true:=decide_eq_true c9;clear c9
    (first | rw [c9b0] | (simp only [i64_w,i32_w];rw [c9b0]) | skip)
    have H':=Az.mk H;clear H;have hcz10_0 : w7.cell? ⟨gb439,0,none⟩ = some (.int .i64 a1_0):=(kC BK439.out 0).trans rfl;have hcz10_1 : w7.cell? ⟨gb439,1,none⟩ = some (.int .i64 a1_1):=(kC BK439.out 1).trans rfl;have hcz10_2 : w7.cell? ⟨gb439,2,none⟩ = some (.bool a1_2):=(kC BK439.out 2).trans rfl;have hcz10_3 : w7.cell? ⟨gb439,3,none⟩ = some (.int .i64 a1_3):=(kC BK439.out 3).trans rfl;have hcz10_4 : w7.cell? ⟨gb439,4,none⟩ = some (.int .i64 a1_4):=(kC BK439.out 4).trans rfl;have hcz10_5 : w7.cell? ⟨gb439,5,none⟩ = some (.int .i64 a1_5):=(kC BK439.out 5).trans rfl;have hcz10_6 : w7.cell? ⟨gb439,6,none⟩ = some (.int .i64 a1_6):=(kC BK439.out 6).trans rfl;have hcz10_7 : w7.cell? ⟨gb439,7,none⟩ = some (.slice A1_7 l1_7.length c1_7):=(kC BK439.out 7).trans rfl;have hcz10_8 : w7.cell? ⟨gb439,8,none⟩ = some (.int .i64 a1_8):=(kC BK439.out 8).trans rfl;have hfz10_0:=kF BK439.out 0;have hfz10_1:=kF BK439.out 1;have hfz10_2:=kF BK439.out 2;have hfz10_3:=kF BK439.out 3;have hfz10_4:=kF BK439.out 4;have hfz10_5:=kF BK439.out 5;have hfz10_6:=kF BK439.out 6;have hfz10_7:=kF BK439.out 7;have hfz10_8:=kF BK439.out 8
    go_wp2
    go_meet
    case rel=>exact ⟨_,(decide (a1_8≤40)),rs_,H',⟨by first | omega | exact Nat.le_refl _⟩,⟨blk_mv BK439.out⟩,⟨by repeat (with_reducible first | exact bmv HB.out | refine bwS ?_ GE439.out)⟩⟩
  · rw [if_neg c9] at H
    have c9b0 : decide ((-40)≤a1_8) = false:=decide_eq_false c9;clear c9
    (first | rw [c9b0] | (simp only [i64_w,i32_w];rw [c9b0]) | skip)
    have H':=Az.mk H;clear H;have hcz11_0 : w7.cell? ⟨gb439,0,none⟩ = some (.int .i64 a1_0):=(kC BK439.out 0).trans rfl;have hcz11_1 : w7.cell? ⟨gb439,1,none⟩ = some (.int .i64 a1_1):=(kC BK439.out 1).trans rfl;have hcz11_2 : w7.cell? ⟨gb439,2,none⟩ = some (.bool a1_2):=(kC BK439.out 2).trans rfl;have hcz11_3 : w7.cell? ⟨gb439,3,none⟩ = some (.int .i64 a1_3):=(kC BK439.out 3).trans rfl;have hcz11_4 : w7.cell? ⟨gb439,4,none⟩ = some (.int .i64 a1_4):=(kC BK439.out 4).trans rfl;have hcz11_5 : w7.cell? ⟨gb439,5,none⟩ = some (.int .i64 a1_5):=(kC BK439.out 5).trans rfl;have hcz11_6 : w7.cell? ⟨gb439,6,none⟩ = some (.int .i64 a1_6):=(kC BK439.out 6).trans rfl;have hcz11_7 : w7.cell? ⟨gb439,7,none⟩ = some (.slice A1_7 l1_7.length c1_7):=(kC BK439.out 7).trans rfl;have hcz11_8 : w7.cell? ⟨gb439,8,none⟩ = some (.int .i64 a1_8):=(kC BK439.out 8).trans rfl;have hfz11_0:=kF BK439.out 0;have hfz11_1:=kF BK439.out 1;have hfz11_2:=kF BK439.out 2;have hfz11_3:=kF BK439.out 3;have hfz11_4:=kF BK439.out 4;have hfz11_5:=kF BK439.out 5;have hfz11_6:=kF BK439.out 6;have hfz11_7:=kF BK439.out 7;have hfz11_8:=kF BK439.out 8
    go_wp2
    go_meet
    case rel=>exact ⟨_,(false),rs_,H',⟨by first | omega | exact Nat.le_refl _⟩,⟨blk_mv BK439.out⟩,⟨by repeat (with_reducible first | exact bmv HB.out | refine bwS ?_ GE439.out)⟩⟩
 case rest=>
  clear HC4;(try clear c9);(try clear c9b0);(try clear hcz10_0);(try clear hcz10_1);(try clear hcz10_2);(try clear hcz10_3);(try clear hcz10_4);(try clear hcz10_5);(try clear hcz10_6);(try clear hcz10_7);(try clear hcz10_8);(try clear hcz11_0);(try clear hcz11_1);(try clear hcz11_2);(try clear hcz11_3);(try clear hcz11_4);(try clear hcz11_5);(try clear hcz11_6);(try clear hcz11_7);(try clear hcz11_8);(try clear hcz6_0);(try clear hcz6_1);(try clear hcz6_2);(try clear hcz6_3);(try clear hcz6_4);(try clear hcz6_5);(try clear hcz6_6);(try clear hcz6_7);(try clear hcz6_8);(try clear hfz10_0);(try clear hfz10_1);(try clear hfz10_2);(try clear hfz10_3);(try clear hfz10_4);(try clear hfz10_5);(try clear hfz10_6);(try clear hfz10_7);(try clear hfz10_8);(try clear hfz11_0);(try clear hfz11_1);(try clear hfz11_2);(try clear hfz11_3);(try clear hfz11_4);(try clear hfz11_5);(try clear hfz11_6);(try clear hfz11_7);(try clear hfz11_8);(try clear hfz6_0);(try clear hfz6_1);(try clear hfz6_2);(try clear hfz6_3);(try clear hfz6_4);(try clear hfz6_5);(try clear hfz6_6);(try clear hfz6_7);(try clear hfz6_8);obtain ⟨kq,x26_3,rfl,HA,HJ3,BK439,HB⟩:=hcut
  cases kq with
  | zero=>exact absurd HA.out (by simp [w4keys.j0])
  | succ kj3=>
   have H:=HA.out;clear HA;simp only [w4keys.j0] at H;have HC12:=Az.mk H;clear H
   go_upto_if 26 with (fail)
   go_cut [7] (fun v7 wc=>∃ (kq : Nat) (x7_11 : Int),v7 = .int .i64 x7_11∧Az (w4keys.j1 kq x7_11 a1_0 a1_1 a1_2 a1_3 a1_4 a1_5 a1_6 l1_7 a1_8 = some r)∧Az (kq≤kj3)∧Az (wc.heap[gb439]? = some (.cells #[.int .i64 a1_0,.int .i64 a1_1,.bool a1_2,.int .i64 a1_3,.int .i64 a1_4,.int .i64 a1_5,.int .i64 a1_6,(.slice A1_7 l1_7.length c1_7),.int .i64 a1_8] 32 (0,0)))∧Az (Below w.heap.size w wc))
   case first=>
    have H:=HC12.out;clear HC12
    by_cases c13 : x26_3 = true
    · subst c13
      rw [if_pos rfl] at H;have H':=Az.mk H;clear H;have hcz14_0 : wc.cell? ⟨gb439,0,none⟩ = some (.int .i64 a1_0):=(kC BK439.out 0).trans rfl;have hcz14_1 : wc.cell? ⟨gb439,1,none⟩ = some (.int .i64 a1_1):=(kC BK439.out 1).trans rfl;have hcz14_2 : wc.cell? ⟨gb439,2,none⟩ = some (.bool a1_2):=(kC BK439.out 2).trans rfl;have hcz14_3 : wc.cell? ⟨gb439,3,none⟩ = some (.int .i64 a1_3):=(kC BK439.out 3).trans rfl;have hcz14_4 : wc.cell? ⟨gb439,4,none⟩ = some (.int .i64 a1_4):=(kC BK439.out 4).trans rfl;have hcz14_5 : wc.cell? ⟨gb439,5,none⟩ = some (.int .i64 a1_5):=(kC BK439.out 5).trans rfl;have hcz14_6 : wc.cell? ⟨gb439,6,none⟩ = some (.int .i64 a1_6):=(kC BK439.out 6).trans rfl;have hcz14_7 : wc.cell? ⟨gb439,7,none⟩ = some (.slice A1_7 l1_7.length c1_7):=(kC BK439.out 7).trans rfl;have hcz14_8 : wc.cell? ⟨gb439,8,none⟩ = some (.int .i64 a1_8):=(kC BK439.out 8).trans rfl;have hfz14_0:=kF BK439.out 0;have hfz14_1:=kF BK439.out 1;have hfz14_2:=kF BK439.out 2;have hfz14_3:=kF BK439.out 3;have hfz14_4:=kF BK439.out 4;have hfz14_5:=kF BK439.out 5;have hfz14_6:=kF BK439.out 6;have hfz14_7:=kF BK439.out 7;have hfz14_8:=kF BK439.out 8
      go_wp2
      go_meet
      case rel=>exact ⟨_,(wrap64 ((t440.length : Int) + a1_8)),rs_,H',⟨by have:=HJ3.out;first | omega | exact Nat.le_refl _⟩,⟨blk_mv BK439.out⟩,⟨by repeat (with_reducible first | exact bmv HB.out | refine bwS ?_ GE439.out)⟩⟩
    · replace c13:=Bool.eq_false_iff.mpr c13
      subst c13;rw [if_neg (show ¬ (false = true) by decide)] at H;have H':=Az.mk H;clear H
      go_wp2
      go_meet
      case rel=>exact ⟨_,((t440.length : Int)),rs_,H',⟨by have:=HJ3.out;first | omega | exact Nat.le_refl _⟩,⟨blk_mv BK439.out⟩,⟨by repeat (with_reducible first | exact bmv HB.out | refine bwS ?_ GE439.out)⟩⟩
   case rest=>
    clear HC12;(try clear c9);(try clear c9b0);(try clear c13);(try clear hcz10_0);(try clear hcz10_1);(try clear hcz10_2);(try clear hcz10_3);(try clear hcz10_4);(try clear hcz10_5);(try clear hcz10_6);(try clear hcz10_7);(try clear hcz10_8);(try clear hcz11_0);(try clear hcz11_1);(try clear hcz11_2);(try clear hcz11_3);(try clear hcz11_4);(try clear hcz11_5);(try clear hcz11_6);(try clear hcz11_7);(try clear hcz11_8);(try clear hcz14_0);(try clear hcz14_1);(try clear hcz14_2);(try clear hcz14_3);(try clear hcz14_4);(try clear hcz14_5);(try clear hcz14_6);(try clear hcz14_7);(try clear hcz14_8);(try clear hcz6_0);(try clear hcz6_1);(try clear hcz6_2);(try clear hcz6_3);(try clear hcz6_4);(try clear hcz6_5);(try clear hcz6_6);(try clear hcz6_7);(try clear hcz6_8);(try clear hfz10_0);(try clear hfz10_1);(try clear hfz10_2);(try clear hfz10_3);(try clear hfz10_4);(try clear hfz10_5);(try clear hfz10_6);(try clear hfz10_7);(try clear hfz10_8);(try clear hfz11_0);(try clear hfz11_1);(try clear hfz11_2);(try clear hfz11_3);(try clear hfz11_4);(try clear hfz11_5);(try clear hfz11_6);(try clear hfz11_7);(try clear hfz11_8);(try clear hfz14_0);(try clear hfz14_1);(try clear hfz14_2);(try clear hfz14_3);(try clear hfz14_4);(try clear hfz14_5);(try clear hfz14_6);(try clear hfz14_7);(try clear hfz14_8);(try clear hfz6_0);(try clear hfz6_1);(try clear hfz6_2);(try clear hfz6_3);(try clear hfz6_4);(try clear hfz6_5);(try clear hfz6_6);(try clear hfz6_7);(try clear hfz6_8);obtain ⟨kq,x7_11,rfl,HA,HJ11,BK439,HB⟩:=hcut
    cases kq with
    | zero=>exact absurd HA.out (by simp [w4keys.j1])
    | succ kj11=>
     have H:=HA.out;clear HA;simp only [w4keys.j1] at H;have H':=Az.mk H;clear H
     go_wp2
     go_loopg [8,9] kj11 (fun kq v8 v9 w'=>∃ (x8_3 : List Int) (x9_3 : Int),v9 = .int .i64 x9_3∧Az (w4keys.l0 kq x7_11 x8_3 x9_3 a1_0 a1_1 a1_2 a1_3 a1_4 a1_5 a1_6 l1_7 a1_8 = some r)∧Az (kq≤kj11)∧Az (Kd.R (Kd.int .i64) 3 w' w.heap.size (fun _=>True) v8 x8_3)∧Az (w'.heap[gb439]? = some (.cells #[.int .i64 a1_0,.int .i64 a1_1,.bool a1_2,.int .i64 a1_3,.int .i64 a1_4,.int .i64 a1_5,.int .i64 a1_6,(.slice A1_7 l1_7.length c1_7),.int .i64 a1_8] 32 (0,0)))∧Az (Below w.heap.size w w'))
     case atStart=>exact ⟨(([] : List Int)),(0),rs_,H',⟨Nat.le_refl _⟩,⟨by first | exact Kd.R_nil _ _ _ _ _ | exact Kd.N_nil _ _ _ _ _ | exact Kd.V_nil _ _ _ _ _ | exact Kd.Q_nil _ _ _ _ _ | exact Kd.S_nil _ _ _ _ _⟩,⟨blk_mv BK439.out⟩,⟨by repeat (with_reducible first | exact bmv HB.out | refine bwS ?_ GE439.out)⟩⟩
     case round=>
      clear H';(try clear c9);(try clear c9b0);(try clear c13);(try clear hcz10_0);(try clear hcz10_1);(try clear hcz10_2);(try clear hcz10_3);(try clear hcz10_4);(try clear hcz10_5);(try clear hcz10_6);(try clear hcz10_7);(try clear hcz10_8);(try clear hcz11_0);(try clear hcz11_1);(try clear hcz11_2);(try clear hcz11_3);(try clear hcz11_4);(try clear hcz11_5);(try clear hcz11_6);(try clear hcz11_7);(try clear hcz11_8);(try clear hcz14_0);(try clear hcz14_1);(try clear hcz14_2);(try clear hcz14_3);(try clear hcz14_4);(try clear hcz14_5);(try clear hcz14_6);(try clear hcz14_7);(try clear hcz14_8);(try clear hcz6_0);(try clear hcz6_1);(try clear hcz6_2);(try clear hcz6_3);(try clear hcz6_4);(try clear hcz6_5);(try clear hcz6_6);(try clear hcz6_7);(try clear hcz6_8);(try clear hfz10_0);(try clear hfz10_1);(try clear hfz10_2);(try clear hfz10_3);(try clear hfz10_4);(try clear hfz10_5);(try clear hfz10_6);(try clear hfz10_7);(try clear hfz10_8);(try clear hfz11_0);(try clear hfz11_1);(try clear hfz11_2);(try clear hfz11_3);(try clear hfz11_4);(try clear hfz11_5);(try clear hfz11_6);(try clear hfz11_7);(try clear hfz11_8);(try clear hfz14_0);(try clear hfz14_1);(try clear hfz14_2);(try clear hfz14_3);(try clear hfz14_4);(try clear hfz14_5);(try clear hfz14_6);(try clear hfz14_7);(try clear hfz14_8);(try clear hfz6_0);(try clear hfz6_1);(try clear hfz6_2);(try clear hfz6_3);(try clear hfz6_4);(try clear hfz6_5);(try clear hfz6_6);(try clear hfz6_7);(try clear hfz6_8);obtain ⟨x8_3,x9_3,rfl,HA,HK3,HO_8,BK439,HB⟩:=hrel
      cases gk with
      | zero=>exact absurd HA.out (by simp [w4keys.l0])
      | succ k3=>
       have H:=HA.out;clear HA;simp only [w4keys.l0] at H
       by_cases c15 : x9_3 < x7_11
       · rw [if_pos c15] at H
         have c15b0 : decide (x9_3 < x7_11) = true:=decide_eq_true c15;clear c15
         by_cases c16 : x8_3.length < 17592186044416
         · rw [if_pos c16] at H
           have LMc16:=Az.mk c16;clear c16
           obtain ⟨y446,hy446⟩ : ∃ y_ : List Int,y_ = (x8_3 ++ [a1_3]):=⟨_,rfl⟩
           replace H : (w4keys.l0 k3 x7_11 y446 (wrap64 (x9_3 + 1)) a1_0 a1_1 a1_2 a1_3 a1_4 a1_5 a1_6 l1_7 a1_8) = some r:=by first | (rw [hy446];with_reducible exact H) | (have H2_:=(Option.bind_some _ _).symm.trans H;rw [hy446];with_reducible exact H2_) | (have H2_:=(Option.bind_some _ _).symm.trans H;with_reducible exact H2_) | with_reducible exact H | (rw [hy446];exact H) | exact H
           have Ny446:=Az.mk hy446;clear hy446;have H':=Az.mk H;clear H;have hcz17_0 : wr.cell? ⟨gb439,0,none⟩ = some (.int .i64 a1_0):=(kC BK439.out 0).trans rfl;have hcz17_1 : wr.cell? ⟨gb439,1,none⟩ = some (.int .i64 a1_1):=(kC BK439.out 1).trans rfl;have hcz17_2 : wr.cell? ⟨gb439,2,none⟩ = some (.bool a1_2):=(kC BK439.out 2).trans rfl;have hcz17_3 : wr.cell? ⟨gb439,3,none⟩ = some (.int .i64 a1_3):=(kC BK439.out 3).trans rfl;have hcz17_4 : wr.cell? ⟨gb439,4,none⟩ = some (.int .i64 a1_4):=(kC BK439.out 4).trans rfl;have hcz17_5 : wr.cell? ⟨gb439,5,none⟩ = some (.int .i64 a1_5):=(kC BK439.out 5).trans rfl;have hcz17_6 : wr.cell? ⟨gb439,6,none⟩ = some (.int .i64 a1_6):=(kC BK439.out 6).trans rfl;have hcz17_7 : wr.cell? ⟨gb439,7,none⟩ = some (.slice A1_7 l1_7.length c1_7):=(kC BK439.out 7).trans rfl;have hcz17_8 : wr.cell? ⟨gb439,8,none⟩ = some (.int .i64 a1_8):=(kC BK439.out 8).trans rfl;have hfz17_0:=kF BK439.out 0;have hfz17_1:=kF BK439.out 1;have hfz17_2:=kF BK439.out 2;have hfz17_3:=kF BK439.out 3;have hfz17_4:=kF BK439.out 4;have hfz17_5:=kF BK439.out 5;have hfz17_6:=kF BK439.out 6;have hfz17_7:=kF BK439.out 7;have hfz17_8:=kF BK439.out 8
           go_wp2_with (first | ((with_reducible refine gate_builtin (b:=.append) (xs:=#[.tmp 36,.tmp 40]) rfl ?_);at_builtin;refine Kd.R_append (Kd.int .i64) (w0:=w) w.heap.size rfl (.tmp 36) (.tmp 40) 27 3 (.int .i64 0) 8 rfl Tryd.underlying27 info3 rfl (by decide) (by omega) u8 x8_3 a1_3 [.int .i64 a1_3] (fun _=>True) (fun _=>False) rfl rfl ?aP (fun _ hk=>hk.elim) ?aF ?aO ?aB ?aS ?aL ?_;(case aP=>exact rfl);(case aB=>exact (by repeat (with_reducible first | exact bmv HB.out | refine bwS ?_ GE439.out)));(case aF=>exact (fun _ _=>trivial));(case aO=>exact (R_mv HO_8.out));(case aS=>exact (bwZ (by repeat (with_reducible first | exact bmv HB.out | refine bwS ?_ GE439.out))));(case aL=>have:=LMc16.out;omega);intro v447 w18 ho hb hg hat;rw [← Ny446.out] at ho;have HO448:=Az.mk (ho);replace BK439:=Az.mk (blk_grown (g:=gb439) (o:=.cells #[.int .i64 a1_0,.int .i64 a1_1,.bool a1_2,.int .i64 a1_3,.int .i64 a1_4,.int .i64 a1_5,.int .i64 a1_6,.slice A1_7 l1_7.length c1_7,.int .i64 a1_8] 32 (0,0)) (blk_mv BK439.out) hg (Kd.R_ne HO_8.out BK439.out (by decide)));replace HB:=Az.mk (hb);clear HO_8;clear ho hb hg hat))
           go_roundg k3
           case measure=>have:=HJ3.out;have:=HJ11.out;have:=HK3.out;omega
           case rel=>exact ⟨(y446),(wrap64 (x9_3 + 1)),rs_,H',⟨by have:=HJ3.out;have:=HJ11.out;have:=HK3.out;omega⟩,⟨R_mv HO448.out⟩,⟨blk_mv BK439.out⟩,⟨by repeat (with_reducible first | exact bmv HB.out | refine bwS ?_ GE439.out)⟩⟩
         · rw [if_neg c16] at H
           exact absurd H (by simp)
       · rw [if_neg c15] at H
         have c15b0 : decide (x9_3 < x7_11) = false:=decide_eq_false c15;clear c15;obtain rfl:=Option.some.inj H
         go_wp2
         go_ret
         exact ⟨_,by first | rfl | (simp [errW_none,errW_some] <;> rfl) | (simp [*,errW_none,errW_some] <;> rfl),R_mv HO_8.out,by repeat (with_reducible first | exact bmv HB.out | refine bwS ?_ GE439.out)⟩
def r4above.l0 : Nat→Int→List (S29)→Int→Int→Option ((List (S29)))
 | 0,_,_,_,_=>none
 | k + 1,x1,x5,x6,x7=>if x7 < (x5.length : Int) then (if x7 = (wrap64 (2 * x1)) then (r4above.l0 k x1 x5 x6 (wrap64 (x7 + 1))) else ((r3Under.f k (wrap64 (2 * x1)) x7 x6).bind fun t453=>(if t453 = true then (if 0≤x7 then (r4above.l0 k x1 (x5.set (x7 : Int).toNat (⟨false,0,0,0,0,([] : List Int)⟩ : S29)) x6 (wrap64 (x7 + 1))) else (none)) else (r4above.l0 k x1 x5 x6 (wrap64 (x7 + 1)))))) else (some x5)
def r4above.f (k : Nat) (l0 : List (S29)) (a1 : Int) : Option ((List (S29))):=(r4Copy.f k l0).bind fun t449=>((r4Leaves.f l0).bind fun t452=>(r4above.l0 k a1 t449 t452 0))
theorem r4above.mono_l : ∀ k,(∀ y0 y1 y2 y3,LeO (r4above.l0 k y0 y1 y2 y3) (r4above.l0 (k + 1) y0 y1 y2 y3))
 | 0=>fun _ _ _ _ r h=>by simp [r4above.l0] at h
 | k + 1=>by
  have ih0:=r4above.mono_l k
  · intro y0 y1 y2 y3
    unfold r4above.l0
    repeat' first
    | (with_reducible exact ih0 _ _ _ _)
    | (with_reducible exact r3Under.mono _ _ _ _)
    | (with_reducible exact r4Copy.mono _ _)
    | (with_reducible exact LeO.refl _)
    | (with_reducible exact LeO.none _)
    | (with_reducible refine LeO.ite ?_ ?_)
    | (with_reducible refine LeO.bind ?_ (fun _=>?_))
    | exact ih0 _ _ _ _
    | exact r3Under.mono _ _ _ _
    | exact r4Copy.mono _ _
    | exact LeO.none _
    | refine LeO.ite ?_ ?_
    | refine LeO.bind ?_ (fun _=>?_)
theorem r4above.mono : ∀ a0 a1 k,LeO (r4above.f k a0 a1) (r4above.f (k + 1) a0 a1):=by
 intro a0 a1 k;have ih0:=r4above.mono_l k;unfold r4above.f
 repeat' first
  | (with_reducible exact ih0 _ _ _ _)
  | (with_reducible exact r3Under.mono _ _ _ _)
  | (with_reducible exact r4Copy.mono _ _)
  | (with_reducible exact LeO.refl _)
  | (with_reducible exact LeO.none _)
  | (with_reducible refine LeO.ite ?_ ?_)
  | (with_reducible refine LeO.bind ?_ (fun _=>?_))
  | exact ih0 _ _ _ _
  | exact r3Under.mono _ _ _ _
  | exact r4Copy.mono _ _
  | exact LeO.none _
  | refine LeO.ite ?_ ?_
  | refine LeO.bind ?_ (fun _=>?_)
set_option maxHeartbeats 8000000 in
set_option maxRecDepth 100000 in
theorem r4above.calls (k : Nat) (A0 : Option Addr) (c0 : Nat) (l0 : List (S29)) (a1 : Int) (r : List (S29)) (w : World) (hr0 : Kd.C k29 w A0 l0.length l0) (hc0 : l0.length≤c0) (h : r4above.f k l0 a1 = some r) :
 Calls Tryd.prog 67 #[.slice A0 l0.length c0,.int .i64 a1] w fun e w'=>∃ v0_ : Value,e = .returned (v0_)∧Kd.S k29 29 w' w.heap.size (fun _=>True) v0_ r∧Below w.heap.size w w':=by
 have hu29:=Tryd.underlying29;have HR0:=Az.mk hr0;have HC0:=Az.mk hc0;clear hr0 hc0;have HB:=Az.mk (Below.refl w.heap.size w);have H : ((r4Copy.f k l0).bind fun t449=>((r4Leaves.f l0).bind fun t452=>(r4above.l0 k a1 t449 t452 0))) = some r:=h;clear h;replace H:=Option.bind_eq_some_iff.mp H;obtain ⟨t449,A30,H⟩:=H;(try dsimp only at H);have A3:=Az.mk A30;clear A30;replace H:=Option.bind_eq_some_iff.mp H;obtain ⟨t452,A40,H⟩:=H;(try dsimp only at H);have A4:=Az.mk A40;clear A40;have H':=Az.mk H;clear H
 go_enter Tryd.func67,Tryd.ntmps67
 go_wp2_with (first | ((with_reducible refine gate_callee (f:=14) rfl ?_);refine goesL_ (some 9) rfl rfl Tryd.func14 (by kernel_rfl) rfl #[.slice A0 l0.length c0] rfl tl_ ?_;(with_reducible refine (r4Copy.calls k _ _ l0 t449 _ ?side1 ?side2 A3.out).mono ?_);(case side1=>exact C_mv (HR0.out));(case side2=>exact HC0.out);rintro e w5 ⟨v450,rfl,ho0,hb⟩;refine ⟨_,rfl,?_⟩;have HO451:=Az.mk (Kd.S_lower ho0 (bwZ (bmv HB.out)));replace HB:=Az.mk (bwT (bmv HB.out) hb);(try clear hb);(try clear hb2);(try clear hk);(try clear hi);(try clear ho0)) | ((with_reducible refine gate_callee (f:=21) rfl ?_);refine goesL_ (some 11) rfl rfl Tryd.func21 (by kernel_rfl) rfl #[.slice A0 l0.length c0] rfl tl_ ?_;(with_reducible refine (r4Leaves.calls _ _ l0 t452 _ ?side1 ?side2 A4.out).mono ?_);(case side1=>exact C_mv ((Kd.C_below HR0.out HB.out)));(case side2=>exact HC0.out);rintro e w' ⟨rfl,⟨nd,rfl⟩⟩;refine ⟨_,rfl,?_⟩))
 go_loopg [7] k (fun kq v7 w'=>∃ (x5_1 : List (S29)) (x7_1 : Int),v7 = .int .i64 x7_1∧Az (r4above.l0 kq a1 x5_1 t452 x7_1 = some r)∧Az (kq≤k)∧Az (Kd.S k29 29 w' w.heap.size (fun _=>True) v450 x5_1)∧Az (Below w.heap.size w w'))
 case atStart=>exact ⟨(t449),(0),rs_,H',⟨Nat.le_refl _⟩,⟨S_mv HO451.out⟩,⟨bmv HB.out⟩⟩
 case round=>
  clear H';obtain ⟨x5_1,x7_1,rfl,HA,HK1,HO_5,HB⟩:=hrel
  cases gk with
  | zero=>exact absurd HA.out (by simp [r4above.l0])
  | succ k1=>
   have H:=HA.out;clear HA;simp only [r4above.l0] at H
   by_cases c6 : x7_1 < (x5_1.length : Int)
   · rw [if_pos c6] at H
     have c6b0 : decide (x7_1 < (x5_1.length : Int)) = true:=decide_eq_true c6;clear c6
     by_cases c7 : x7_1 = (wrap64 (2 * a1))
     · rw [if_pos c7] at H
       have c7b0 : (x7_1 == (wrap64 (2 * a1))) = true:=beq_iff_eq.mpr c7;have c7b1 : (x7_1 != (wrap64 (2 * a1))) = false:=bne_eq_false_iff_eq.mpr c7;clear c7;have H':=Az.mk H;clear H;obtain ⟨Ao8,co8,eo8⟩:=Kd.S_slice HO_5.out;subst eo8
       go_wp2
       go_roundg k1
       case measure=>have:=HK1.out;omega
       case rel=>exact ⟨(x5_1),(wrap64 (x7_1 + 1)),rs_,H',⟨by have:=HK1.out;omega⟩,⟨S_mv HO_5.out⟩,⟨bmv HB.out⟩⟩
     · rw [if_neg c7] at H
       have c7b0 : (x7_1 == (wrap64 (2 * a1))) = false:=beq_eq_false_iff_ne.mpr c7;have c7b1 : (x7_1 != (wrap64 (2 * a1))) = true:=bne_iff_ne.mpr c7;replace H:=Option.bind_eq_some_iff.mp H;obtain ⟨t453,A90,H⟩:=H;(try dsimp only at H);have A9:=Az.mk A90;clear A90
       by_cases c10 : t453 = true
       · subst c10
         rw [if_pos rfl] at H
         by_cases c11 : 0≤x7_1
         · rw [if_pos c11] at H
           have c11b0 : decide (0≤x7_1) = true:=decide_eq_true c11;clear c11
           obtain ⟨y454,hy454⟩ : ∃ y_ : List (S29),y_ = (x5_1.set (x7_1 : Int).toNat (⟨false,0,0,0,0,([] : List Int)⟩ : S29)):=⟨_,rfl⟩
           replace H : (r4above.l0 k1 a1 y454 t452 (wrap64 (x7_1 + 1))) = some r:=by first | (rw [hy454];with_reducible exact H) | (have H2_:=(Option.bind_some _ _).symm.trans H;rw [hy454];with_reducible exact H2_) | (have H2_:=(Option.bind_some _ _).symm.trans H;with_reducible exact H2_) | with_reducible exact H | (rw [hy454];exact H) | exact H
           have Ny454:=Az.mk hy454;clear hy454;have H':=Az.mk H;clear H;obtain ⟨Ao13,co13,eo13⟩:=Kd.S_slice HO_5.out;subst eo13
           go_wp2_with (first | (go_at_call 26;(with_reducible refine (r3Under.calls k1 (wrap64 (2 * a1)) x7_1 t452 true _ A9.out).mono ?_);rintro e w' ⟨rfl,⟨nd,rfl⟩⟩;(try (rw [drewN_self wr];generalize hq_ : World.drewN wr _ = wr;have n0_ : Az (Kd.S k29 29 wr w.heap.size (fun _=>True) (.slice Ao13 x5_1.length co13) x5_1):=⟨by rw [← hq_];exact (S_mv HO_5.out)⟩;have n1_ : Az (Below w.heap.size w wr):=⟨by rw [← hq_];exact (bmv HB.out)⟩;clear HO_5 HB hq_;have HO_5:=n0_;have HB:=n1_;clear n0_ n1_));have p12 : 0≤(x7_1 : Int):=dt_;have q12 : (x7_1 : Int) < ((x5_1.length : Int) : Int):=dt_;obtain ⟨go12,co12,eo12,gb12,gl12,cl12,HG12⟩:=Kd.S_form HO_5.out (by omega);(first | cases eo12 | (injection eo12 with ea_ en_ ec_;(first | subst ea_ | (injection ea_ with ea_;subst ea_));subst ec_;clear en_));have GB12:=Az.mk gb12;have GG12:=Az.mk HG12;clear gb12 gl12 HG12;obtain ⟨_,ce12,hcl12,hM12,hcc12,hfr12,_,_⟩:=Kd.S_elem HO_5.out z29 (x7_1 : Int) p12 q12;obtain ⟨ve12_5,rfl,ge12_5⟩:=k29_openM hM12;have hx12_0 : wr.cell? ⟨go12,(x7_1 : Int).toNat * 6,none⟩ = some (.bool ((rd_T29 x5_1 x7_1).f0)):=hcc12 0 _ rfl;have hx12_1 : wr.cell? ⟨go12,(x7_1 : Int).toNat * 6 + 1,none⟩ = some (.int .i64 ((rd_T29 x5_1 x7_1).f1)):=hcc12 1 _ rfl;have hx12_2 : wr.cell? ⟨go12,(x7_1 : Int).toNat * 6 + 2,none⟩ = some (.int .i64 ((rd_T29 x5_1 x7_1).f2)):=hcc12 2 _ rfl;have hx12_3 : wr.cell? ⟨go12,(x7_1 : Int).toNat * 6 + 3,none⟩ = some (.int .i64 ((rd_T29 x5_1 x7_1).f3)):=hcc12 3 _ rfl;have hx12_4 : wr.cell? ⟨go12,(x7_1 : Int).toNat * 6 + 4,none⟩ = some (.int .i64 ((rd_T29 x5_1 x7_1).f4)):=hcc12 4 _ rfl;have hx12_5 : wr.cell? ⟨go12,(x7_1 : Int).toNat * 6 + 5,none⟩ = some (ve12_5):=hcc12 5 _ rfl;have hf12_0 : wr.frozen? ⟨go12,(x7_1 : Int).toNat * 6,none⟩ = false:=hfr12 0;have hf12_1 : wr.frozen? ⟨go12,(x7_1 : Int).toNat * 6 + 1,none⟩ = false:=hfr12 1;have hf12_2 : wr.frozen? ⟨go12,(x7_1 : Int).toNat * 6 + 2,none⟩ = false:=hfr12 2;have hf12_3 : wr.frozen? ⟨go12,(x7_1 : Int).toNat * 6 + 3,none⟩ = false:=hfr12 3;have hf12_4 : wr.frozen? ⟨go12,(x7_1 : Int).toNat * 6 + 4,none⟩ = false:=hfr12 4;have hf12_5 : wr.frozen? ⟨go12,(x7_1 : Int).toNat * 6 + 5,none⟩ = false:=hfr12 5;clear hcl12 hcc12 hfr12 hM12;replace p12:=eq_true p12;replace q12:=eq_true q12;have HX14:=Az.mk (show Kd.S k29 29 wr w.heap.size (fun k_=>((fun _=>True)) k_∧¬ ((fun _=>False)) k_) (.slice (some ⟨go12,0,none⟩) x5_1.length co13) x5_1 from (S_mv (Kd.S_mono HO_5.out (fun k_ hk=>⟨trivial,fun e_=>e_⟩))));obtain ⟨oki14,ce14,hcl14,hM14,hcc14,hfr14,hoki14,hH14⟩:=Kd.S_elem HX14.out z29 (x7_1 : Int) (dt_) (by have h_ : (x7_1 : Int) < ((x5_1.length : Int) : Int):=dt_;first | exact h_ | (have e_:=(Kd.S_reads' HO_5.out).1;omega) | simpa using h_);obtain ⟨ve14_5,rfl,ge14_5⟩:=k29_openM hM14;have HP14:=Kd.S_seg hH14 (dt_) (by have h_ : (x7_1 : Int) < ((x5_1.length : Int) : Int):=dt_;first | exact h_ | (have e_:=(Kd.S_reads' HO_5.out).1;omega) | simpa using h_) (seg:=[.bool false,.int .i64 0,.int .i64 0,.int .i64 0,.int .i64 0,.slice none 0 0]) (j:=0) (show 6≤6 from by decide) (x':=(⟨false,0,0,0,0,([] : List Int)⟩ : S29)) (k29_mkM _ _ _ (⟨false,0,0,0,0,([] : List Int)⟩ : S29) (Kd.R_nil _ _ _ _ _)) (fun _ hk=>hk) (fun k_ hk_=>hk_.elim);have hx14_0:=hcc14 0 _ rfl;(try simp only [show (k29).sz = 6 from rfl,Nat.mul_one,Nat.add_zero] at hx14_0);have hf14_0:=hfr14 0;(try simp only [show (k29).sz = 6 from rfl,Nat.mul_one,Nat.add_zero] at hf14_0);have hx14_1:=hcc14 1 _ rfl;(try simp only [show (k29).sz = 6 from rfl,Nat.mul_one,Nat.add_zero] at hx14_1);have hf14_1:=hfr14 1;(try simp only [show (k29).sz = 6 from rfl,Nat.mul_one,Nat.add_zero] at hf14_1);have hx14_2:=hcc14 2 _ rfl;(try simp only [show (k29).sz = 6 from rfl,Nat.mul_one,Nat.add_zero] at hx14_2);have hf14_2:=hfr14 2;(try simp only [show (k29).sz = 6 from rfl,Nat.mul_one,Nat.add_zero] at hf14_2);have hx14_3:=hcc14 3 _ rfl;(try simp only [show (k29).sz = 6 from rfl,Nat.mul_one,Nat.add_zero] at hx14_3);have hf14_3:=hfr14 3;(try simp only [show (k29).sz = 6 from rfl,Nat.mul_one,Nat.add_zero] at hf14_3);have hx14_4:=hcc14 4 _ rfl;(try simp only [show (k29).sz = 6 from rfl,Nat.mul_one,Nat.add_zero] at hx14_4);have hf14_4:=hfr14 4;(try simp only [show (k29).sz = 6 from rfl,Nat.mul_one,Nat.add_zero] at hf14_4);have hx14_5:=hcc14 5 _ rfl;(try simp only [show (k29).sz = 6 from rfl,Nat.mul_one,Nat.add_zero] at hx14_5);have hf14_5:=hfr14 5;(try simp only [show (k29).sz = 6 from rfl,Nat.mul_one,Nat.add_zero] at hf14_5);clear hcl14 hcc14 hfr14 hM14 hoki14 hH14) | ((with_reducible refine gate_store (t:=29) (p:=32) rfl ?_);refine store_event (t:=29) (p:=32) (v:=?vo_w15) (w1:=((((((wr.setCell ⟨go12,(x7_1 : Int).toNat * 6,none⟩ (.bool false)).setCell ⟨go12,(x7_1 : Int).toNat * 6 + 1,none⟩ (.int .i64 0)).setCell ⟨go12,(x7_1 : Int).toNat * 6 + 2,none⟩ (.int .i64 0)).setCell ⟨go12,(x7_1 : Int).toNat * 6 + 3,none⟩ (.int .i64 0)).setCell ⟨go12,(x7_1 : Int).toNat * 6 + 4,none⟩ (.int .i64 0)).setCell ⟨go12,(x7_1 : Int).toNat * 6 + 5,none⟩ (.slice none 0 0))) ?hg ?ho ?hn ?hr ?_;(case ho=>rfl);(case hg=>rfl);(case hn=>rfl);(case hr=>first | (go_simp;done) | (go_simp;rfl));intro w15 hw;have hg : wr.grownBy w15 (some go12):=(by rw [hw];exact HP14.2);have hp_ : Kd.S k29 29 w15 w.heap.size (fun _=>True) (.slice (some ⟨go12,0,none⟩) x5_1.length co13) y454:=(by rw [hw,Ny454.out];exact HP14.1);clear HP14;replace HO_5:=Az.mk (hp_);replace HB:=Az.mk ((by rw [hw];exact bwS (bwS (bwS (bwS (bwS (bwS (HB.out) GB12.out) GB12.out) GB12.out) GB12.out) GB12.out) GB12.out : Below w.heap.size w w15));clear hg hw hp_))
           go_roundg k1
           case measure=>have:=HK1.out;omega
           case rel=>exact ⟨(y454),(wrap64 (x7_1 + 1)),rs_,H',⟨by have:=HK1.out;omega⟩,⟨S_mv HO_5.out⟩,⟨bmv HB.out⟩⟩
         · rw [if_neg c11] at H
           exact absurd H (by simp)
       · replace c10:=Bool.eq_false_iff.mpr c10
         subst c10;rw [if_neg (show ¬ (false = true) by decide)] at H;have H':=Az.mk H;clear H;obtain ⟨Ao16,co16,eo16⟩:=Kd.S_slice HO_5.out;subst eo16
         go_wp2_with (first | (go_at_call 26;(with_reducible refine (r3Under.calls k1 (wrap64 (2 * a1)) x7_1 t452 false _ A9.out).mono ?_);rintro e w' ⟨rfl,⟨nd,rfl⟩⟩))
         go_roundg k1
         case measure=>have:=HK1.out;omega
         case rel=>exact ⟨(x5_1),(wrap64 (x7_1 + 1)),rs_,H',⟨by have:=HK1.out;omega⟩,⟨S_mv HO_5.out⟩,⟨bmv HB.out⟩⟩
   · rw [if_neg c6] at H
     have c6b0 : decide (x7_1 < (x5_1.length : Int)) = false:=decide_eq_false c6;clear c6;obtain rfl:=Option.some.inj H;obtain ⟨Ao17,co17,eo17⟩:=Kd.S_slice HO_5.out;subst eo17
     go_wp2
     go_ret
     exact ⟨_,by first | rfl | (simp [errW_none,errW_some] <;> rfl) | (simp [*,errW_none,errW_some] <;> rfl),S_mv HO_5.out,bmv HB.out⟩
end Go.Proofs.YtbblomnhobodkaaDoor.PTw
