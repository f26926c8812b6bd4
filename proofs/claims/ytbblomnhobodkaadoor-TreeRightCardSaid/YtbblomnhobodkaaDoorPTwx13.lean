/- What this claim reaches of longer texts of this session. -/
import Derived.Test.YtbblomnhobodkaaDoorPTwx0
import Derived.Test.YtbblomnhobodkaaDoorPTwx1
import Derived.Test.YtbblomnhobodkaaDoorPTwx8
namespace Go.Proofs.YtbblomnhobodkaaDoor.PTw
open Go.RowKit Go.Proofs.YtbblomnhobodkaaDoorW.PW Go.Proofs.YtbblomnhobodkaaDoorW.PL Go.Proofs.YtbblomnhobodkaaDoorW.PM
attribute [local go_sem] max2_int min2_int max_two min_two max_three min_three max_four min_four   -- for this text's walks alone
set_option linter.unusedVariables false
set_option linter.unusedSimpArgs false
def r4vertex.l0 : Nat→List (S29)→Int→Int→Int→Bool→Int→Int→Int→Int→List Int→Option (Bool)
 | 0,_,_,_,_,_,_,_,_,_,_=>none
 | k + 1,x0,x1,x6,x7,x313000,x313001,x313002,x313003,x313004,x313005=>if x7 < (x313005.length : Int) then (if 0≤x7 then (if (rd x313005 x7)≤x6 then (some false) else (if (rd x313005 x7)≥64 then (some false) else ((r4Full.f x0 (rd x313005 x7)).bind fun t314=>(if t314 = true then ((r4Leaves.f x0).bind fun t315=>((r3Under.f k (wrap64 (2 * (rd x313005 x7))) x1 t315).bind fun t316=>(if t316 = true then (r4vertex.l0 k x0 x1 (rd x313005 x7) (wrap64 (x7 + 1)) x313000 x313001 x313002 x313003 x313004 x313005) else (some false)))) else (some false))))) else (none)) else (if x313002 = 0 then (some (x313003 == 0)) else (some false))
def r4vertex.f (k : Nat) (l0 : List (S29)) (a1 : Int) : Option (Bool):=if 0≤a1 then (if a1 < (l0.length : Int) then (if ((rd_T29 l0 a1).f0 = true) then (if (Int.tmod a1 2) = 0 then (some ((((rd_T29 l0 a1).f5).length : Int) == 0)) else (r4vertex.l0 k l0 a1 (-1) 0 ((rd_T29 l0 a1).f0) ((rd_T29 l0 a1).f1) ((rd_T29 l0 a1).f2) ((rd_T29 l0 a1).f3) ((rd_T29 l0 a1).f4) ((rd_T29 l0 a1).f5))) else (if ((rd_T29 l0 a1).f1) = 0 then (if ((rd_T29 l0 a1).f2) = 0 then (if ((rd_T29 l0 a1).f3) = 0 then (if ((rd_T29 l0 a1).f4) = 0 then (some ((((rd_T29 l0 a1).f5).length : Int) == 0)) else (some false)) else (some false)) else (some false)) else (some false))) else (none)) else (none)
theorem r4vertex.mono_l : ∀ k,(∀ y0 y1 y2 y3 y4 y5 y6 y7 y8 y9,LeO (r4vertex.l0 k y0 y1 y2 y3 y4 y5 y6 y7 y8 y9) (r4vertex.l0 (k + 1) y0 y1 y2 y3 y4 y5 y6 y7 y8 y9))
 | 0=>fun _ _ _ _ _ _ _ _ _ _ r h=>by simp [r4vertex.l0] at h
 | k + 1=>by
  have ih0:=r4vertex.mono_l k
  · intro y0 y1 y2 y3 y4 y5 y6 y7 y8 y9
    unfold r4vertex.l0
    repeat' first
    | (with_reducible exact ih0 _ _ _ _ _ _ _ _ _ _)
    | (with_reducible exact r3Under.mono _ _ _ _)
    | (with_reducible exact LeO.refl _)
    | (with_reducible exact LeO.none _)
    | (with_reducible refine LeO.ite ?_ ?_)
    | (with_reducible refine LeO.bind ?_ (fun _=>?_))
    | exact ih0 _ _ _ _ _ _ _ _ _ _
    | exact r3Under.mono _ _ _ _
    | exact LeO.none _
    | refine LeO.ite ?_ ?_
    | refine LeO.bind ?_ (fun _=>?_)
theorem r4vertex.mono : ∀ a0 a1 k,LeO (r4vertex.f k a0 a1) (r4vertex.f (k + 1) a0 a1):=by
 intro a0 a1 k;have ih0:=r4vertex.mono_l k;unfold r4vertex.f
 repeat' first
  | (with_reducible exact ih0 _ _ _ _ _ _ _ _ _ _)
  | (with_reducible exact r3Under.mono _ _ _ _)
  | (with_reducible exact LeO.refl _)
  | (with_reducible exact LeO.none _)
  | (with_reducible refine LeO.ite ?_ ?_)
  | (with_reducible refine LeO.bind ?_ (fun _=>?_))
  | exact ih0 _ _ _ _ _ _ _ _ _ _
  | exact r3Under.mono _ _ _ _
  | exact LeO.none _
  | refine LeO.ite ?_ ?_
  | refine LeO.bind ?_ (fun _=>?_)
set_option maxHeartbeats 8000000 in
set_option maxRecDepth 100000 in
theorem r4vertex.calls (k : Nat) (A0 : Option Addr) (c0 : Nat) (l0 : List (S29)) (a1 : Int) (r : Bool) (w : World) (hr0 : Kd.C k29 w A0 l0.length l0) (hc0 : l0.length≤c0) (h : r4vertex.f k l0 a1 = some r) :
 Calls Tryd.prog 46 #[.slice A0 l0.length c0,.int .i64 a1] w fun e w'=>e = .returned (.bool r)∧Below w.heap.size w w':=by
 have hu29:=Tryd.underlying29;have HR0:=Az.mk hr0;have HC0:=Az.mk hc0;clear hr0 hc0;have HB:=Az.mk (Below.refl w.heap.size w);have H : (if 0≤a1 then (if a1 < (l0.length : Int) then (if ((rd_T29 l0 a1).f0 = true) then (if (Int.tmod a1 2) = 0 then (some ((((rd_T29 l0 a1).f5).length : Int) == 0)) else (r4vertex.l0 k l0 a1 (-1) 0 ((rd_T29 l0 a1).f0) ((rd_T29 l0 a1).f1) ((rd_T29 l0 a1).f2) ((rd_T29 l0 a1).f3) ((rd_T29 l0 a1).f4) ((rd_T29 l0 a1).f5))) else (if ((rd_T29 l0 a1).f1) = 0 then (if ((rd_T29 l0 a1).f2) = 0 then (if ((rd_T29 l0 a1).f3) = 0 then (if ((rd_T29 l0 a1).f4) = 0 then (some ((((rd_T29 l0 a1).f5).length : Int) == 0)) else (some false)) else (some false)) else (some false)) else (some false))) else (none)) else (none)) = some r:=h;clear h
 by_cases c3 : 0≤a1
 · rw [if_pos c3] at H
   have c3b0 : decide (0≤a1) = true:=decide_eq_true c3;clear c3
   by_cases c4 : a1 < (l0.length : Int)
   · rw [if_pos c4] at H
     have c4b0 : decide (a1 < (l0.length : Int)) = true:=decide_eq_true c4;clear c4
     obtain ⟨bq5,hbq5⟩ : ∃ b_ : Bool,b_ = ((rd_T29 l0 a1).f0):=⟨_,rfl⟩
     replace H : (if (bq5 = true) then (if (Int.tmod a1 2) = 0 then (some ((((rd_T29 l0 a1).f5).length : Int) == 0)) else (r4vertex.l0 k l0 a1 (-1) 0 bq5 ((rd_T29 l0 a1).f1) ((rd_T29 l0 a1).f2) ((rd_T29 l0 a1).f3) ((rd_T29 l0 a1).f4) ((rd_T29 l0 a1).f5))) else (if ((rd_T29 l0 a1).f1) = 0 then (if ((rd_T29 l0 a1).f2) = 0 then (if ((rd_T29 l0 a1).f3) = 0 then (if ((rd_T29 l0 a1).f4) = 0 then (some ((((rd_T29 l0 a1).f5).length : Int) == 0)) else (some false)) else (some false)) else (some false)) else (some false))) = some r:=by rw [← hbq5] at H;exact H
     have Nbq5:=Az.mk hbq5;clear hbq5
     by_cases c6 : (bq5 = true)
     · subst c6
       rw [if_pos rfl] at H
       by_cases c7 : (Int.tmod a1 2) = 0
       · rw [if_pos c7] at H
         have c7b0 : ((Int.tmod a1 2) == 0) = true:=beq_iff_eq.mpr c7;have c7b1 : ((Int.tmod a1 2) != 0) = false:=bne_eq_false_iff_eq.mpr c7;clear c7;obtain rfl:=Option.some.inj H;have p311 : 0≤(a1 : Int):=dt_;have q311 : a1 < (l0.length : Int):=dt_;obtain ⟨ad311,A311_5,c311_5,e311,hx311_0,hx311_1,hx311_2,hx311_3,hx311_4,hx311_5,hl311_5,hi311_5⟩:=at_T29 HR0.out a1 p311 q311
         (try rw [← Nbq5.out] at hx311_0)
         cases e311;have HR311_5:=Az.mk hi311_5;have HC311_5:=Az.mk hl311_5;clear hi311_5 hl311_5;replace p311:=eq_true p311;replace q311:=eq_true q311
         go_enter Tryd.func46,Tryd.ntmps46
         go_wp2_with (first | ((with_reducible refine gate_dst (N:=5) rfl ?_);(try (refine gate_guard (by rfl) ?_;dsimp only));refine box_event ?hg (N:=5) ?hd (cs:=#[.bool false,.int .i64 0,.int .i64 0,.int .i64 0,.int .i64 0,.slice none 0 0]) (t:=29) ?hr ?_;(case hd=>rfl);(case hg=>rfl);(case hr=>exact gr_);intro gb312 hg w8 hbox hb;have BK312:=Az.mk (hbox);have GW312:=Az.mk ((by rw [hg];exact (bwZ (bmv HB.out)) : w.heap.size≤gb312));have GE312:=Az.mk ((by rw [hg];exact (bwZ (bmv HB.out)) : w.heap.size≤gb312));replace HB:=Az.mk (bwT (bmv HB.out) hb);clear hb hbox hg;obtain ⟨⟨hcz9_0,hcz9_1,hcz9_2,hcz9_3,hcz9_4,hcz9_5⟩,hfz9_0,hfz9_1,hfz9_2,hfz9_3,hfz9_4,hfz9_5⟩:=cells6 BK312.out))
         go_ret
         exact ⟨by first | rfl | (simp [errW_none,errW_some] <;> rfl) | (simp [*,errW_none,errW_some] <;> rfl),by repeat (with_reducible first | exact bmv HB.out | refine bwS ?_ GE312.out)⟩
       · rw [if_neg c7] at H
         have c7b0 : ((Int.tmod a1 2) == 0) = false:=beq_eq_false_iff_ne.mpr c7;have c7b1 : ((Int.tmod a1 2) != 0) = true:=bne_iff_ne.mpr c7;have H':=Az.mk H;clear H;have p311 : 0≤(a1 : Int):=dt_;have q311 : a1 < (l0.length : Int):=dt_;obtain ⟨ad311,A311_5,c311_5,e311,hx311_0,hx311_1,hx311_2,hx311_3,hx311_4,hx311_5,hl311_5,hi311_5⟩:=at_T29 HR0.out a1 p311 q311
         (try rw [← Nbq5.out] at hx311_0)
         cases e311;have HR311_5:=Az.mk hi311_5;have HC311_5:=Az.mk hl311_5;clear hi311_5 hl311_5;replace p311:=eq_true p311;replace q311:=eq_true q311
         go_enter Tryd.func46,Tryd.ntmps46
         go_wp2_with (first | ((with_reducible refine gate_dst (N:=5) rfl ?_);(try (refine gate_guard (by rfl) ?_;dsimp only));refine box_event ?hg (N:=5) ?hd (cs:=#[.bool false,.int .i64 0,.int .i64 0,.int .i64 0,.int .i64 0,.slice none 0 0]) (t:=29) ?hr ?_;(case hd=>rfl);(case hg=>rfl);(case hr=>exact gr_);intro gb312 hg w10 hbox hb;have BK312:=Az.mk (hbox);have GW312:=Az.mk ((by rw [hg];exact (bwZ (bmv HB.out)) : w.heap.size≤gb312));have GE312:=Az.mk ((by rw [hg];exact (bwZ (bmv HB.out)) : w.heap.size≤gb312));replace HB:=Az.mk (bwT (bmv HB.out) hb);clear hb hbox hg;obtain ⟨⟨hcz11_0,hcz11_1,hcz11_2,hcz11_3,hcz11_4,hcz11_5⟩,hfz11_0,hfz11_1,hfz11_2,hfz11_3,hfz11_4,hfz11_5⟩:=cells6 BK312.out))
         go_loopg [6,7] k (fun kq v6 v7 w'=>∃ (x6_1 : Int) (x7_1 : Int),v6 = .int .i64 x6_1∧v7 = .int .i64 x7_1∧Az (r4vertex.l0 kq l0 a1 x6_1 x7_1 true ((rd_T29 l0 a1).f1) ((rd_T29 l0 a1).f2) ((rd_T29 l0 a1).f3) ((rd_T29 l0 a1).f4) ((rd_T29 l0 a1).f5) = some r)∧Az (kq≤k)∧Az (w'.heap[gb312]? = some (.cells #[.bool true,.int .i64 ((rd_T29 l0 a1).f1),.int .i64 ((rd_T29 l0 a1).f2),.int .i64 ((rd_T29 l0 a1).f3),.int .i64 ((rd_T29 l0 a1).f4),(.slice A311_5 ((rd_T29 l0 a1).f5).length c311_5)] 29 (0,0)))∧Az (Below w.heap.size w w'))
         case atStart=>exact ⟨((-1)),(0),rs_,rs_,H',⟨Nat.le_refl _⟩,⟨by (with_reducible repeat (first | refine kN ?_ _ | refine kD ?_ | refine kA ?_ _));refine blk_put (cs:=#[.bool true,.int .i64 ((rd_T29 l0 a1).f1),.int .i64 ((rd_T29 l0 a1).f2),.int .i64 ((rd_T29 l0 a1).f3),.int .i64 ((rd_T29 l0 a1).f4),.slice none 0 0]) ?_ 5 _ rfl;(with_reducible repeat (first | refine kN ?_ _ | refine kD ?_ | refine kA ?_ _));refine blk_put (cs:=#[.bool true,.int .i64 ((rd_T29 l0 a1).f1),.int .i64 ((rd_T29 l0 a1).f2),.int .i64 ((rd_T29 l0 a1).f3),.int .i64 0,.slice none 0 0]) ?_ 4 _ rfl;(with_reducible repeat (first | refine kN ?_ _ | refine kD ?_ | refine kA ?_ _));refine blk_put (cs:=#[.bool true,.int .i64 ((rd_T29 l0 a1).f1),.int .i64 ((rd_T29 l0 a1).f2),.int .i64 0,.int .i64 0,.slice none 0 0]) ?_ 3 _ rfl;(with_reducible repeat (first | refine kN ?_ _ | refine kD ?_ | refine kA ?_ _));refine blk_put (cs:=#[.bool true,.int .i64 ((rd_T29 l0 a1).f1),.int .i64 0,.int .i64 0,.int .i64 0,.slice none 0 0]) ?_ 2 _ rfl;(with_reducible repeat (first | refine kN ?_ _ | refine kD ?_ | refine kA ?_ _));refine blk_put (cs:=#[.bool true,.int .i64 0,.int .i64 0,.int .i64 0,.int .i64 0,.slice none 0 0]) ?_ 1 _ rfl;(with_reducible repeat (first | refine kN ?_ _ | refine kD ?_ | refine kA ?_ _));refine blk_put (cs:=#[.bool false,.int .i64 0,.int .i64 0,.int .i64 0,.int .i64 0,.slice none 0 0]) ?_ 0 _ rfl;(with_reducible repeat (first | refine kN ?_ _ | refine kD ?_ | refine kA ?_ _));exact BK312.out⟩,⟨by repeat (with_reducible first | exact bmv HB.out | refine bwS ?_ GE312.out)⟩⟩
         case round=>
          clear H';(try clear c3);(try clear c3b0);(try clear c4);(try clear c4b0);(try clear c6);(try clear c7);(try clear c7b0);(try clear c7b1);(try clear hcz11_0);(try clear hcz11_1);(try clear hcz11_2);(try clear hcz11_3);(try clear hcz11_4);(try clear hcz11_5);(try clear hcz9_0);(try clear hcz9_1);(try clear hcz9_2);(try clear hcz9_3);(try clear hcz9_4);(try clear hcz9_5);(try clear hfz11_0);(try clear hfz11_1);(try clear hfz11_2);(try clear hfz11_3);(try clear hfz11_4);(try clear hfz11_5);(try clear hfz9_0);(try clear hfz9_1);(try clear hfz9_2);(try clear hfz9_3);(try clear hfz9_4);(try clear hfz9_5);(try clear hx311_0);(try clear hx311_1);(try clear hx311_2);(try clear hx311_3);(try clear hx311_4);(try clear hx311_5);(try clear p311);(try clear q311);obtain ⟨x6_1,x7_1,rfl,rfl,HA,HK1,BK312,HB⟩:=hrel
          cases gk with
          | zero=>exact absurd HA.out (by simp [r4vertex.l0])
          | succ k1=>
           have H:=HA.out;clear HA;simp only [r4vertex.l0] at H
           by_cases c12 : x7_1 < (((rd_T29 l0 a1).f5).length : Int)
           · rw [if_pos c12] at H
             have c12b0 : decide (x7_1 < (((rd_T29 l0 a1).f5).length : Int)) = true:=decide_eq_true c12;clear c12
             by_cases c13 : 0≤x7_1
             · rw [if_pos c13] at H
               have c13b0 : decide (0≤x7_1) = true:=decide_eq_true c13;clear c13
               by_cases c14 : (rd ((rd_T29 l0 a1).f5) x7_1)≤x6_1
               · rw [if_pos c14] at H
                 have c14b0 : decide ((rd ((rd_T29 l0 a1).f5) x7_1)≤x6_1) = true:=decide_eq_true c14;clear c14;obtain rfl:=Option.some.inj H;have hcz15_0 : wr.cell? ⟨gb312,0,none⟩ = some (.bool true):=(kC BK312.out 0).trans rfl;have hcz15_1 : wr.cell? ⟨gb312,1,none⟩ = some (.int .i64 ((rd_T29 l0 a1).f1)):=(kC BK312.out 1).trans rfl;have hcz15_2 : wr.cell? ⟨gb312,2,none⟩ = some (.int .i64 ((rd_T29 l0 a1).f2)):=(kC BK312.out 2).trans rfl;have hcz15_3 : wr.cell? ⟨gb312,3,none⟩ = some (.int .i64 ((rd_T29 l0 a1).f3)):=(kC BK312.out 3).trans rfl;have hcz15_4 : wr.cell? ⟨gb312,4,none⟩ = some (.int .i64 ((rd_T29 l0 a1).f4)):=(kC BK312.out 4).trans rfl;have hcz15_5 : wr.cell? ⟨gb312,5,none⟩ = some (.slice A311_5 ((rd_T29 l0 a1).f5).length c311_5):=(kC BK312.out 5).trans rfl;have hfz15_0:=kF BK312.out 0;have hfz15_1:=kF BK312.out 1;have hfz15_2:=kF BK312.out 2;have hfz15_3:=kF BK312.out 3;have hfz15_4:=kF BK312.out 4;have hfz15_5:=kF BK312.out 5;have p313 : 0≤(x7_1 : Int):=dt_;have q313 : x7_1 < (((rd_T29 l0 a1).f5).length : Int):=dt_;obtain ⟨ad313,e313,hx313_0⟩:=Kd.at_int HR311_5.out x7_1 p313 q313;cases e313;replace hx313_0:=hbc HB.out hx313_0;replace p313:=eq_true p313;replace q313:=eq_true q313
                 go_wp2
                 go_ret
                 exact ⟨by first | rfl | (simp [errW_none,errW_some] <;> rfl) | (simp [*,errW_none,errW_some] <;> rfl),by repeat (with_reducible first | exact bmv HB.out | refine bwS ?_ GE312.out)⟩
               · rw [if_neg c14] at H
                 have c14b0 : decide ((rd ((rd_T29 l0 a1).f5) x7_1)≤x6_1) = false:=decide_eq_false c14;clear c14
                 by_cases c16 : (rd ((rd_T29 l0 a1).f5) x7_1)≥64
                 · rw [if_pos c16] at H
                   have c16b0 : decide (64≤(rd ((rd_T29 l0 a1).f5) x7_1)) = true:=decide_eq_true c16;clear c16;obtain rfl:=Option.some.inj H;have hcz17_0 : wr.cell? ⟨gb312,0,none⟩ = some (.bool true):=(kC BK312.out 0).trans rfl;have hcz17_1 : wr.cell? ⟨gb312,1,none⟩ = some (.int .i64 ((rd_T29 l0 a1).f1)):=(kC BK312.out 1).trans rfl;have hcz17_2 : wr.cell? ⟨gb312,2,none⟩ = some (.int .i64 ((rd_T29 l0 a1).f2)):=(kC BK312.out 2).trans rfl;have hcz17_3 : wr.cell? ⟨gb312,3,none⟩ = some (.int .i64 ((rd_T29 l0 a1).f3)):=(kC BK312.out 3).trans rfl;have hcz17_4 : wr.cell? ⟨gb312,4,none⟩ = some (.int .i64 ((rd_T29 l0 a1).f4)):=(kC BK312.out 4).trans rfl;have hcz17_5 : wr.cell? ⟨gb312,5,none⟩ = some (.slice A311_5 ((rd_T29 l0 a1).f5).length c311_5):=(kC BK312.out 5).trans rfl;have hfz17_0:=kF BK312.out 0;have hfz17_1:=kF BK312.out 1;have hfz17_2:=kF BK312.out 2;have hfz17_3:=kF BK312.out 3;have hfz17_4:=kF BK312.out 4;have hfz17_5:=kF BK312.out 5;have p313 : 0≤(x7_1 : Int):=dt_;have q313 : x7_1 < (((rd_T29 l0 a1).f5).length : Int):=dt_;obtain ⟨ad313,e313,hx313_0⟩:=Kd.at_int HR311_5.out x7_1 p313 q313;cases e313;replace hx313_0:=hbc HB.out hx313_0;replace p313:=eq_true p313;replace q313:=eq_true q313
                   go_wp2
                   go_ret
                   exact ⟨by first | rfl | (simp [errW_none,errW_some] <;> rfl) | (simp [*,errW_none,errW_some] <;> rfl),by repeat (with_reducible first | exact bmv HB.out | refine bwS ?_ GE312.out)⟩
                 · rw [if_neg c16] at H
                   have c16b0 : decide (64≤(rd ((rd_T29 l0 a1).f5) x7_1)) = false:=decide_eq_false c16;clear c16;replace H:=Option.bind_eq_some_iff.mp H;obtain ⟨t314,A180,H⟩:=H;(try dsimp only at H);have A18:=Az.mk A180;clear A180
                   by_cases c19 : t314 = true
                   · subst c19
                     rw [if_pos rfl] at H;replace H:=Option.bind_eq_some_iff.mp H;obtain ⟨t315,A200,H⟩:=H;(try dsimp only at H);have A20:=Az.mk A200;clear A200;replace H:=Option.bind_eq_some_iff.mp H;obtain ⟨t316,A210,H⟩:=H;(try dsimp only at H);have A21:=Az.mk A210;clear A210
                     by_cases c22 : t316 = true
                     · subst c22
                       rw [if_pos rfl] at H;have H':=Az.mk H;clear H;have hcz23_0 : wr.cell? ⟨gb312,0,none⟩ = some (.bool true):=(kC BK312.out 0).trans rfl;have hcz23_1 : wr.cell? ⟨gb312,1,none⟩ = some (.int .i64 ((rd_T29 l0 a1).f1)):=(kC BK312.out 1).trans rfl;have hcz23_2 : wr.cell? ⟨gb312,2,none⟩ = some (.int .i64 ((rd_T29 l0 a1).f2)):=(kC BK312.out 2).trans rfl;have hcz23_3 : wr.cell? ⟨gb312,3,none⟩ = some (.int .i64 ((rd_T29 l0 a1).f3)):=(kC BK312.out 3).trans rfl;have hcz23_4 : wr.cell? ⟨gb312,4,none⟩ = some (.int .i64 ((rd_T29 l0 a1).f4)):=(kC BK312.out 4).trans rfl;have hcz23_5 : wr.cell? ⟨gb312,5,none⟩ = some (.slice A311_5 ((rd_T29 l0 a1).f5).length c311_5):=(kC BK312.out 5).trans rfl;have hfz23_0:=kF BK312.out 0;have hfz23_1:=kF BK312.out 1;have hfz23_2:=kF BK312.out 2;have hfz23_3:=kF BK312.out 3;have hfz23_4:=kF BK312.out 4;have hfz23_5:=kF BK312.out 5;have p313 : 0≤(x7_1 : Int):=dt_;have q313 : x7_1 < (((rd_T29 l0 a1).f5).length : Int):=dt_;obtain ⟨ad313,e313,hx313_0⟩:=Kd.at_int HR311_5.out x7_1 p313 q313;cases e313;replace hx313_0:=hbc HB.out hx313_0;replace p313:=eq_true p313;replace q313:=eq_true q313
                       go_wp2_with (first | (go_at_call 22;(with_reducible refine (r4Full.calls _ _ l0 (rd ((rd_T29 l0 a1).f5) x7_1) true _ ?side1 ?side2 A18.out).mono ?_);(case side1=>exact C_mv ((Kd.C_below HR0.out HB.out)));(case side2=>exact HC0.out);rintro e w' ⟨rfl,⟨nd,rfl⟩⟩) | (go_at_call 21;(with_reducible refine (r4Leaves.calls _ _ l0 t315 _ ?side1 ?side2 A20.out).mono ?_);(case side1=>repeat (first | exact (Kd.C_below HR0.out (by repeat (with_reducible first | exact bmv HB.out | refine bwS ?_ GE312.out))) | (with_reducible refine Kd.C_alloc ?_ _) | (with_reducible refine Kd.C_drewN ?_ _) | (with_reducible refine Kd.C_drew ?_)));(case side2=>exact HC0.out);rintro e w' ⟨rfl,⟨nd,rfl⟩⟩) | (go_at_call 26;(with_reducible refine (r3Under.calls k1 (wrap64 (2 * (rd ((rd_T29 l0 a1).f5) x7_1))) a1 t315 true _ A21.out).mono ?_);rintro e w' ⟨rfl,⟨nd,rfl⟩⟩))
                       go_roundg k1
                       case measure=>have:=HK1.out;omega
                       case rel=>exact ⟨(rd ((rd_T29 l0 a1).f5) x7_1),(wrap64 (x7_1 + 1)),rs_,rs_,H',⟨by have:=HK1.out;omega⟩,⟨blk_mv BK312.out⟩,⟨by repeat (with_reducible first | exact bmv HB.out | refine bwS ?_ GE312.out)⟩⟩
                     · replace c22:=Bool.eq_false_iff.mpr c22
                       subst c22;rw [if_neg (show ¬ (false = true) by decide)] at H;obtain rfl:=Option.some.inj H;have hcz24_0 : wr.cell? ⟨gb312,0,none⟩ = some (.bool true):=(kC BK312.out 0).trans rfl;have hcz24_1 : wr.cell? ⟨gb312,1,none⟩ = some (.int .i64 ((rd_T29 l0 a1).f1)):=(kC BK312.out 1).trans rfl;have hcz24_2 : wr.cell? ⟨gb312,2,none⟩ = some (.int .i64 ((rd_T29 l0 a1).f2)):=(kC BK312.out 2).trans rfl;have hcz24_3 : wr.cell? ⟨gb312,3,none⟩ = some (.int .i64 ((rd_T29 l0 a1).f3)):=(kC BK312.out 3).trans rfl;have hcz24_4 : wr.cell? ⟨gb312,4,none⟩ = some (.int .i64 ((rd_T29 l0 a1).f4)):=(kC BK312.out 4).trans rfl;have hcz24_5 : wr.cell? ⟨gb312,5,none⟩ = some (.slice A311_5 ((rd_T29 l0 a1).f5).length c311_5):=(kC BK312.out 5).trans rfl;have hfz24_0:=kF BK312.out 0;have hfz24_1:=kF BK312.out 1;have hfz24_2:=kF BK312.out 2;have hfz24_3:=kF BK312.out 3;have hfz24_4:=kF BK312.out 4;have hfz24_5:=kF BK312.out 5;have p313 : 0≤(x7_1 : Int):=dt_;have q313 : x7_1 < (((rd_T29 l0 a1).f5).length : Int):=dt_;obtain ⟨ad313,e313,hx313_0⟩:=Kd.at_int HR311_5.out x7_1 p313 q313;cases e313;replace hx313_0:=hbc HB.out hx313_0;replace p313:=eq_true p313;replace q313:=eq_true q313
                       go_wp2_with (first | (go_at_call 22;(with_reducible refine (r4Full.calls _ _ l0 (rd ((rd_T29 l0 a1).f5) x7_1) true _ ?side1 ?side2 A18.out).mono ?_);(case side1=>exact C_mv ((Kd.C_below HR0.out HB.out)));(case side2=>exact HC0.out);rintro e w' ⟨rfl,⟨nd,rfl⟩⟩) | (go_at_call 21;(with_reducible refine (r4Leaves.calls _ _ l0 t315 _ ?side1 ?side2 A20.out).mono ?_);(case side1=>repeat (first | exact (Kd.C_below HR0.out (by repeat (with_reducible first | exact bmv HB.out | refine bwS ?_ GE312.out))) | (with_reducible refine Kd.C_alloc ?_ _) | (with_reducible refine Kd.C_drewN ?_ _) | (with_reducible refine Kd.C_drew ?_)));(case side2=>exact HC0.out);rintro e w' ⟨rfl,⟨nd,rfl⟩⟩) | (go_at_call 26;(with_reducible refine (r3Under.calls k1 (wrap64 (2 * (rd ((rd_T29 l0 a1).f5) x7_1))) a1 t315 false _ A21.out).mono ?_);rintro e w' ⟨rfl,⟨nd,rfl⟩⟩))
                       go_ret
                       exact ⟨by first | rfl | (simp [errW_none,errW_some] <;> rfl) | (simp [*,errW_none,errW_some] <;> rfl),by repeat (with_reducible first | exact bmv HB.out | refine bwS ?_ GE312.out)⟩
                   · replace c19:=Bool.eq_false_iff.mpr c19
                     subst c19;rw [if_neg (show ¬ (false = true) by decide)] at H;obtain rfl:=Option.some.inj H;have hcz25_0 : wr.cell? ⟨gb312,0,none⟩ = some (.bool true):=(kC BK312.out 0).trans rfl;have hcz25_1 : wr.cell? ⟨gb312,1,none⟩ = some (.int .i64 ((rd_T29 l0 a1).f1)):=(kC BK312.out 1).trans rfl;have hcz25_2 : wr.cell? ⟨gb312,2,none⟩ = some (.int .i64 ((rd_T29 l0 a1).f2)):=(kC BK312.out 2).trans rfl;have hcz25_3 : wr.cell? ⟨gb312,3,none⟩ = some (.int .i64 ((rd_T29 l0 a1).f3)):=(kC BK312.out 3).trans rfl;have hcz25_4 : wr.cell? ⟨gb312,4,none⟩ = some (.int .i64 ((rd_T29 l0 a1).f4)):=(kC BK312.out 4).trans rfl;have hcz25_5 : wr.cell? ⟨gb312,5,none⟩ = some (.slice A311_5 ((rd_T29 l0 a1).f5).length c311_5):=(kC BK312.out 5).trans rfl;have hfz25_0:=kF BK312.out 0;have hfz25_1:=kF BK312.out 1;have hfz25_2:=kF BK312.out 2;have hfz25_3:=kF BK312.out 3;have hfz25_4:=kF BK312.out 4;have hfz25_5:=kF BK312.out 5;have p313 : 0≤(x7_1 : Int):=dt_;have q313 : x7_1 < (((rd_T29 l0 a1).f5).length : Int):=dt_;obtain ⟨ad313,e313,hx313_0⟩:=Kd.at_int HR311_5.out x7_1 p313 q313;cases e313;replace hx313_0:=hbc HB.out hx313_0;replace p313:=eq_true p313;replace q313:=eq_true q313
                     go_wp2_with (first | (go_at_call 22;(with_reducible refine (r4Full.calls _ _ l0 (rd ((rd_T29 l0 a1).f5) x7_1) false _ ?side1 ?side2 A18.out).mono ?_);(case side1=>exact C_mv ((Kd.C_below HR0.out HB.out)));(case side2=>exact HC0.out);rintro e w' ⟨rfl,⟨nd,rfl⟩⟩))
                     go_ret
                     exact ⟨by first | rfl | (simp [errW_none,errW_some] <;> rfl) | (simp [*,errW_none,errW_some] <;> rfl),by repeat (with_reducible first | exact bmv HB.out | refine bwS ?_ GE312.out)⟩
             · rw [if_neg c13] at H
               exact absurd H (by simp)
           · rw [if_neg c12] at H
             have c12b0 : decide (x7_1 < (((rd_T29 l0 a1).f5).length : Int)) = false:=decide_eq_false c12;clear c12
             by_cases c26 : ((rd_T29 l0 a1).f2) = 0
             · rw [if_pos c26] at H
               have c26b0 : (((rd_T29 l0 a1).f2) == 0) = true:=beq_iff_eq.mpr c26;have c26b1 : (((rd_T29 l0 a1).f2) != 0) = false:=bne_eq_false_iff_eq.mpr c26;clear c26;obtain rfl:=Option.some.inj H;have hcz27_0 : wr.cell? ⟨gb312,0,none⟩ = some (.bool true):=(kC BK312.out 0).trans rfl;have hcz27_1 : wr.cell? ⟨gb312,1,none⟩ = some (.int .i64 ((rd_T29 l0 a1).f1)):=(kC BK312.out 1).trans rfl;have hcz27_2 : wr.cell? ⟨gb312,2,none⟩ = some (.int .i64 ((rd_T29 l0 a1).f2)):=(kC BK312.out 2).trans rfl;have hcz27_3 : wr.cell? ⟨gb312,3,none⟩ = some (.int .i64 ((rd_T29 l0 a1).f3)):=(kC BK312.out 3).trans rfl;have hcz27_4 : wr.cell? ⟨gb312,4,none⟩ = some (.int .i64 ((rd_T29 l0 a1).f4)):=(kC BK312.out 4).trans rfl;have hcz27_5 : wr.cell? ⟨gb312,5,none⟩ = some (.slice A311_5 ((rd_T29 l0 a1).f5).length c311_5):=(kC BK312.out 5).trans rfl;have hfz27_0:=kF BK312.out 0;have hfz27_1:=kF BK312.out 1;have hfz27_2:=kF BK312.out 2;have hfz27_3:=kF BK312.out 3;have hfz27_4:=kF BK312.out 4;have hfz27_5:=kF BK312.out 5
               go_wp2
               go_ret
               exact ⟨by first | rfl | (simp [errW_none,errW_some] <;> rfl) | (simp [*,errW_none,errW_some] <;> rfl),by repeat (with_reducible first | exact bmv HB.out | refine bwS ?_ GE312.out)⟩
             · rw [if_neg c26] at H
               have c26b0 : (((rd_T29 l0 a1).f2) == 0) = false:=beq_eq_false_iff_ne.mpr c26;have c26b1 : (((rd_T29 l0 a1).f2) != 0) = true:=bne_iff_ne.mpr c26;obtain rfl:=Option.some.inj H;have hcz28_0 : wr.cell? ⟨gb312,0,none⟩ = some (.bool true):=(kC BK312.out 0).trans rfl;have hcz28_1 : wr.cell? ⟨gb312,1,none⟩ = some (.int .i64 ((rd_T29 l0 a1).f1)):=(kC BK312.out 1).trans rfl;have hcz28_2 : wr.cell? ⟨gb312,2,none⟩ = some (.int .i64 ((rd_T29 l0 a1).f2)):=(kC BK312.out 2).trans rfl;have hcz28_3 : wr.cell? ⟨gb312,3,none⟩ = some (.int .i64 ((rd_T29 l0 a1).f3)):=(kC BK312.out 3).trans rfl;have hcz28_4 : wr.cell? ⟨gb312,4,none⟩ = some (.int .i64 ((rd_T29 l0 a1).f4)):=(kC BK312.out 4).trans rfl;have hcz28_5 : wr.cell? ⟨gb312,5,none⟩ = some (.slice A311_5 ((rd_T29 l0 a1).f5).length c311_5):=(kC BK312.out 5).trans rfl;have hfz28_0:=kF BK312.out 0;have hfz28_1:=kF BK312.out 1;have hfz28_2:=kF BK312.out 2;have hfz28_3:=kF BK312.out 3;have hfz28_4:=kF BK312.out 4;have hfz28_5:=kF BK312.out 5
               go_wp2
               go_ret
               exact ⟨by first | rfl | (simp [errW_none,errW_some] <;> rfl) | (simp [*,errW_none,errW_some] <;> rfl),by repeat (with_reducible first | exact bmv HB.out | refine bwS ?_ GE312.out)⟩
     · replace c6:=Bool.eq_false_iff.mpr c6
       subst c6;rw [if_neg (show ¬ (false = true) by decide)] at H
       by_cases c29 : ((rd_T29 l0 a1).f1) = 0
       · rw [if_pos c29] at H
         have c29b0 : (((rd_T29 l0 a1).f1) == 0) = true:=beq_iff_eq.mpr c29;have c29b1 : (((rd_T29 l0 a1).f1) != 0) = false:=bne_eq_false_iff_eq.mpr c29;clear c29
         by_cases c30 : ((rd_T29 l0 a1).f2) = 0
         · rw [if_pos c30] at H
           have c30b0 : (((rd_T29 l0 a1).f2) == 0) = true:=beq_iff_eq.mpr c30;have c30b1 : (((rd_T29 l0 a1).f2) != 0) = false:=bne_eq_false_iff_eq.mpr c30;clear c30
           by_cases c31 : ((rd_T29 l0 a1).f3) = 0
           · rw [if_pos c31] at H
             have c31b0 : (((rd_T29 l0 a1).f3) == 0) = true:=beq_iff_eq.mpr c31;have c31b1 : (((rd_T29 l0 a1).f3) != 0) = false:=bne_eq_false_iff_eq.mpr c31;clear c31
             by_cases c32 : ((rd_T29 l0 a1).f4) = 0
             · rw [if_pos c32] at H
               have c32b0 : (((rd_T29 l0 a1).f4) == 0) = true:=beq_iff_eq.mpr c32;have c32b1 : (((rd_T29 l0 a1).f4) != 0) = false:=bne_eq_false_iff_eq.mpr c32;clear c32;obtain rfl:=Option.some.inj H;have p311 : 0≤(a1 : Int):=dt_;have q311 : a1 < (l0.length : Int):=dt_;obtain ⟨ad311,A311_5,c311_5,e311,hx311_0,hx311_1,hx311_2,hx311_3,hx311_4,hx311_5,hl311_5,hi311_5⟩:=at_T29 HR0.out a1 p311 q311
               (try rw [← Nbq5.out] at hx311_0)
               cases e311;have HR311_5:=Az.mk hi311_5;have HC311_5:=Az.mk hl311_5;clear hi311_5 hl311_5;replace p311:=eq_true p311;replace q311:=eq_true q311
               go_enter Tryd.func46,Tryd.ntmps46
               go_wp2_with (first | ((with_reducible refine gate_dst (N:=5) rfl ?_);(try (refine gate_guard (by rfl) ?_;dsimp only));refine box_event ?hg (N:=5) ?hd (cs:=#[.bool false,.int .i64 0,.int .i64 0,.int .i64 0,.int .i64 0,.slice none 0 0]) (t:=29) ?hr ?_;(case hd=>rfl);(case hg=>rfl);(case hr=>exact gr_);intro gb312 hg w33 hbox hb;have BK312:=Az.mk (hbox);have GW312:=Az.mk ((by rw [hg];exact (bwZ (bmv HB.out)) : w.heap.size≤gb312));have GE312:=Az.mk ((by rw [hg];exact (bwZ (bmv HB.out)) : w.heap.size≤gb312));replace HB:=Az.mk (bwT (bmv HB.out) hb);clear hb hbox hg;obtain ⟨⟨hcz34_0,hcz34_1,hcz34_2,hcz34_3,hcz34_4,hcz34_5⟩,hfz34_0,hfz34_1,hfz34_2,hfz34_3,hfz34_4,hfz34_5⟩:=cells6 BK312.out))
               go_ret
               exact ⟨by first | rfl | (simp [errW_none,errW_some] <;> rfl) | (simp [*,errW_none,errW_some] <;> rfl),by repeat (with_reducible first | exact bmv HB.out | refine bwS ?_ GE312.out)⟩
             · rw [if_neg c32] at H
               have c32b0 : (((rd_T29 l0 a1).f4) == 0) = false:=beq_eq_false_iff_ne.mpr c32;have c32b1 : (((rd_T29 l0 a1).f4) != 0) = true:=bne_iff_ne.mpr c32;obtain rfl:=Option.some.inj H;have p311 : 0≤(a1 : Int):=dt_;have q311 : a1 < (l0.length : Int):=dt_;obtain ⟨ad311,A311_5,c311_5,e311,hx311_0,hx311_1,hx311_2,hx311_3,hx311_4,hx311_5,hl311_5,hi311_5⟩:=at_T29 HR0.out a1 p311 q311
               (try rw [← Nbq5.out] at hx311_0)
               cases e311;have HR311_5:=Az.mk hi311_5;have HC311_5:=Az.mk hl311_5;clear hi311_5 hl311_5;replace p311:=eq_true p311;replace q311:=eq_true q311
               go_enter Tryd.func46,Tryd.ntmps46
               go_wp2_with (first | ((with_reducible refine gate_dst (N:=5) rfl ?_);(try (refine gate_guard (by rfl) ?_;dsimp only));refine box_event ?hg (N:=5) ?hd (cs:=#[.bool false,.int .i64 0,.int .i64 0,.int .i64 0,.int .i64 0,.slice none 0 0]) (t:=29) ?hr ?_;(case hd=>rfl);(case hg=>rfl);(case hr=>exact gr_);intro gb312 hg w35 hbox hb;have BK312:=Az.mk (hbox);have GW312:=Az.mk ((by rw [hg];exact (bwZ (bmv HB.out)) : w.heap.size≤gb312));have GE312:=Az.mk ((by rw [hg];exact (bwZ (bmv HB.out)) : w.heap.size≤gb312));replace HB:=Az.mk (bwT (bmv HB.out) hb);clear hb hbox hg;obtain ⟨⟨hcz36_0,hcz36_1,hcz36_2,hcz36_3,hcz36_4,hcz36_5⟩,hfz36_0,hfz36_1,hfz36_2,hfz36_3,hfz36_4,hfz36_5⟩:=cells6 BK312.out))
               go_ret
               exact ⟨by first | rfl | (simp [errW_none,errW_some] <;> rfl) | (simp [*,errW_none,errW_some] <;> rfl),by repeat (with_reducible first | exact bmv HB.out | refine bwS ?_ GE312.out)⟩
           · rw [if_neg c31] at H
             have c31b0 : (((rd_T29 l0 a1).f3) == 0) = false:=beq_eq_false_iff_ne.mpr c31;have c31b1 : (((rd_T29 l0 a1).f3) != 0) = true:=bne_iff_ne.mpr c31;obtain rfl:=Option.some.inj H;have p311 : 0≤(a1 : Int):=dt_;have q311 : a1 < (l0.length : Int):=dt_;obtain ⟨ad311,A311_5,c311_5,e311,hx311_0,hx311_1,hx311_2,hx311_3,hx311_4,hx311_5,hl311_5,hi311_5⟩:=at_T29 HR0.out a1 p311 q311
             (try rw [← Nbq5.out] at hx311_0)
             cases e311;have HR311_5:=Az.mk hi311_5;have HC311_5:=Az.mk hl311_5;clear hi311_5 hl311_5;replace p311:=eq_true p311;replace q311:=eq_true q311
             go_enter Tryd.func46,Tryd.ntmps46
             go_wp2_with (first | ((with_reducible refine gate_dst (N:=5) rfl ?_);(try (refine gate_guard (by rfl) ?_;dsimp only));refine box_event ?hg (N:=5) ?hd (cs:=#[.bool false,.int .i64 0,.int .i64 0,.int .i64 0,.int .i64 0,.slice none 0 0]) (t:=29) ?hr ?_;(case hd=>rfl);(case hg=>rfl);(case hr=>exact gr_);intro gb312 hg w37 hbox hb;have BK312:=Az.mk (hbox);have GW312:=Az.mk ((by rw [hg];exact (bwZ (bmv HB.out)) : w.heap.size≤gb312));have GE312:=Az.mk ((by rw [hg];exact (bwZ (bmv HB.out)) : w.heap.size≤gb312));replace HB:=Az.mk (bwT (bmv HB.out) hb);clear hb hbox hg;obtain ⟨⟨hcz38_0,hcz38_1,hcz38_2,hcz38_3,hcz38_4,hcz38_5⟩,hfz38_0,hfz38_1,hfz38_2,hfz38_3,hfz38_4,hfz38_5⟩:=cells6 BK312.out))
             go_ret
             exact ⟨by first | rfl | (simp [errW_none,errW_some] <;> rfl) | (simp [*,errW_none,errW_some] <;> rfl),by repeat (with_reducible first | exact bmv HB.out | refine bwS ?_ GE312.out)⟩
         · rw [if_neg c30] at H
           have c30b0 : (((rd_T29 l0 a1).f2) == 0) = false:=beq_eq_false_iff_ne.mpr c30;have c30b1 : (((rd_T29 l0 a1).f2) != 0) = true:=bne_iff_ne.mpr c30;obtain rfl:=Option.some.inj H;have p311 : 0≤(a1 : Int):=dt_;have q311 : a1 < (l0.length : Int):=dt_;obtain ⟨ad311,A311_5,c311_5,e311,hx311_0,hx311_1,hx311_2,hx311_3,hx311_4,hx311_5,hl311_5,hi311_5⟩:=at_T29 HR0.out a1 p311 q311
           (try rw [← Nbq5.out] at hx311_0)
           cases e311;have HR311_5:=Az.mk hi311_5;have HC311_5:=Az.mk hl311_5;clear hi311_5 hl311_5;replace p311:=eq_true p311;replace q311:=eq_true q311
           go_enter Tryd.func46,Tryd.ntmps46
           go_wp2_with (first | ((with_reducible refine gate_dst (N:=5) rfl ?_);(try (refine gate_guard (by rfl) ?_;dsimp only));refine box_event ?hg (N:=5) ?hd (cs:=#[.bool false,.int .i64 0,.int .i64 0,.int .i64 0,.int .i64 0,.slice none 0 0]) (t:=29) ?hr ?_;(case hd=>rfl);(case hg=>rfl);(case hr=>exact gr_);intro gb312 hg w39 hbox hb;have BK312:=Az.mk (hbox);have GW312:=Az.mk ((by rw [hg];exact (bwZ (bmv HB.out)) : w.heap.size≤gb312));have GE312:=Az.mk ((by rw [hg];exact (bwZ (bmv HB.out)) : w.heap.size≤gb312));replace HB:=Az.mk (bwT (bmv HB.out) hb);clear hb hbox hg;obtain ⟨⟨hcz40_0,hcz40_1,hcz40_2,hcz40_3,hcz40_4,hcz40_5⟩,hfz40_0,hfz40_1,hfz40_2,hfz40_3,hfz40_4,hfz40_5⟩:=cells6 BK312.out))
           go_ret
           exact ⟨by first | rfl | (simp [errW_none,errW_some] <;> rfl) | (simp [*,errW_none,errW_some] <;> rfl),by repeat (with_reducible first | exact bmv HB.out | refine bwS ?_ GE312.out)⟩
       · rw [if_neg c29] at H
         have c29b0 : (((rd_T29 l0 a1).f1) == 0) = false:=beq_eq_false_iff_ne.mpr c29;have c29b1 : (((rd_T29 l0 a1).f1) != 0) = true:=bne_iff_ne.mpr c29;obtain rfl:=Option.some.inj H;have p311 : 0≤(a1 : Int):=dt_;have q311 : a1 < (l0.length : Int):=dt_;obtain ⟨ad311,A311_5,c311_5,e311,hx311_0,hx311_1,hx311_2,hx311_3,hx311_4,hx311_5,hl311_5,hi311_5⟩:=at_T29 HR0.out a1 p311 q311
         (try rw [← Nbq5.out] at hx311_0)
         cases e311;have HR311_5:=Az.mk hi311_5;have HC311_5:=Az.mk hl311_5;clear hi311_5 hl311_5;replace p311:=eq_true p311;replace q311:=eq_true q311
         go_enter Tryd.func46,Tryd.ntmps46
         go_wp2_with (first | ((with_reducible refine gate_dst (N:=5) rfl ?_);(try (refine gate_guard (by rfl) ?_;dsimp only));refine box_event ?hg (N:=5) ?hd (cs:=#[.bool false,.int .i64 0,.int .i64 0,.int .i64 0,.int .i64 0,.slice none 0 0]) (t:=29) ?hr ?_;(case hd=>rfl);(case hg=>rfl);(case hr=>exact gr_);intro gb312 hg w41 hbox hb;have BK312:=Az.mk (hbox);have GW312:=Az.mk ((by rw [hg];exact (bwZ (bmv HB.out)) : w.heap.size≤gb312));have GE312:=Az.mk ((by rw [hg];exact (bwZ (bmv HB.out)) : w.heap.size≤gb312));replace HB:=Az.mk (bwT (bmv HB.out) hb);clear hb hbox hg;obtain ⟨⟨hcz42_0,hcz42_1,hcz42_2,hcz42_3,hcz42_4,hcz42_5⟩,hfz42_0,hfz42_1,hfz42_2,hfz42_3,hfz42_4,hfz42_5⟩:=cells6 BK312.out))
         go_ret
         exact ⟨by first | rfl | (simp [errW_none,errW_some] <;> rfl) | (simp [*,errW_none,errW_some] <;> rfl),by repeat (with_reducible first | exact bmv HB.out | refine bwS ?_ GE312.out)⟩
   · rw [if_neg c4] at H
     exact absurd H (by simp)
 · rw [if_neg c3] at H
   exact absurd H (by simp)
end Go.Proofs.YtbblomnhobodkaaDoor.PTw
namespace Go.Proofs.YtbblomnhobodkaaDoor.PTw
open Go.RowKit Go.Proofs.YtbblomnhobodkaaDoorW.PW Go.Proofs.YtbblomnhobodkaaDoorW.PL Go.Proofs.YtbblomnhobodkaaDoorW.PM
attribute [local go_sem] max2_int min2_int max_two min_two max_three min_three max_four min_four   -- for this text's walks alone
set_option linter.unusedVariables false
set_option linter.unusedSimpArgs false
mutual
def r4Check.j0 : Nat→List (S29)→Bool→Option (Bool)
 | 0,_,_=>none
 | k + 1,x0,x18=>if x18 = true then (some false) else (r4Check.l0 k x0 0)
def r4Check.l0 : Nat→List (S29)→Int→Option (Bool)
 | 0,_,_=>none
 | k + 1,x0,x3=>if x3 < (x0.length : Int) then ((r4vertex.f k x0 x3).bind fun t320=>(if t320 = true then (r4Check.l0 k x0 (wrap64 (x3 + 1))) else (some false))) else (some true)
end
def r4Check.f (k : Nat) (l0 : List (S29)) : Option (Bool):=if ((l0.length : Int) % 2) = 0 then (r4Check.j0 k l0 true) else ((r4Leaves.f l0).bind fun t317=>((r3Right.f t317).bind fun t318=>(if t318 = true then ((r4Tight.f k l0).bind fun t319=>(r4Check.j0 k l0 (!t319))) else (r4Check.j0 k l0 true))))
theorem r4Check.mono_l : ∀ k,(∀ y0 y1,LeO (r4Check.j0 k y0 y1) (r4Check.j0 (k + 1) y0 y1))∧(∀ y0 y1,LeO (r4Check.l0 k y0 y1) (r4Check.l0 (k + 1) y0 y1))
 | 0=>⟨fun _ _ r h=>by simp [r4Check.j0] at h,fun _ _ r h=>by simp [r4Check.l0] at h⟩
 | k + 1=>by
  obtain ⟨ih0,ih1⟩:=r4Check.mono_l k;refine ⟨?_,?_⟩;intro y0 y1;unfold r4Check.j0;rotate_left;intro y0 y1;unfold r4Check.l0;rotate_left
  repeat' first
   | (with_reducible exact ih0 _ _)
   | (with_reducible exact ih1 _ _)
   | (with_reducible exact r4Tight.mono _ _)
   | (with_reducible exact r4vertex.mono _ _ _)
   | (with_reducible exact LeO.refl _)
   | (with_reducible exact LeO.none _)
   | (with_reducible refine LeO.ite ?_ ?_)
   | (with_reducible refine LeO.bind ?_ (fun _=>?_))
   | exact ih0 _ _
   | exact ih1 _ _
   | exact r4Tight.mono _ _
   | exact r4vertex.mono _ _ _
   | exact LeO.none _
   | refine LeO.ite ?_ ?_
   | refine LeO.bind ?_ (fun _=>?_)
theorem r4Check.mono : ∀ a0 k,LeO (r4Check.f k a0) (r4Check.f (k + 1) a0):=by
 intro a0 k;obtain ⟨ih0,ih1⟩:=r4Check.mono_l k;unfold r4Check.f
 repeat' first
  | (with_reducible exact ih0 _ _)
  | (with_reducible exact ih1 _ _)
  | (with_reducible exact r4Tight.mono _ _)
  | (with_reducible exact r4vertex.mono _ _ _)
  | (with_reducible exact LeO.refl _)
  | (with_reducible exact LeO.none _)
  | (with_reducible refine LeO.ite ?_ ?_)
  | (with_reducible refine LeO.bind ?_ (fun _=>?_))
  | exact ih0 _ _
  | exact ih1 _ _
  | exact r4Tight.mono _ _
  | exact r4vertex.mono _ _ _
  | exact LeO.none _
  | refine LeO.ite ?_ ?_
  | refine LeO.bind ?_ (fun _=>?_)
set_option maxHeartbeats 8000000 in
set_option maxRecDepth 100000 in
theorem r4Check.calls (k : Nat) (A0 : Option Addr) (c0 : Nat) (l0 : List (S29)) (r : Bool) (w : World) (hr0 : Kd.C k29 w A0 l0.length l0) (hc0 : l0.length≤c0) (h : r4Check.f k l0 = some r) :
 Calls Tryd.prog 16 #[.slice A0 l0.length c0] w fun e w'=>e = .returned (.bool r)∧Below w.heap.size w w':=by
 have HR0:=Az.mk hr0;have HC0:=Az.mk hc0;clear hr0 hc0;have HB:=Az.mk (Below.refl w.heap.size w);have H : (if ((l0.length : Int) % 2) = 0 then (r4Check.j0 k l0 true) else ((r4Leaves.f l0).bind fun t317=>((r3Right.f t317).bind fun t318=>(if t318 = true then ((r4Tight.f k l0).bind fun t319=>(r4Check.j0 k l0 (!t319))) else (r4Check.j0 k l0 true))))) = some r:=h;clear h;have HC2:=Az.mk H;clear H
 go_enter Tryd.func16,Tryd.ntmps16
 go_upto_region 1 with (fail)
 go_cut [18] (fun v18 wc=>∃ (kq : Nat) (x18_1 : Bool),v18 = .bool x18_1∧Az (r4Check.j0 kq l0 x18_1 = some r)∧Az (kq≤k)∧Az (Below w.heap.size w wc))
 case first=>
  have H:=HC2.out;clear HC2
  by_cases c3 : ((l0.length : Int) % 2) = 0
  · rw [if_pos c3] at H
    have c3b0 : (((l0.length : Int) % 2) == 0) = true:=beq_iff_eq.mpr c3;have c3b1 : (((l0.length : Int) % 2) != 0) = false:=bne_eq_false_iff_eq.mpr c3;clear c3
    (first | rw [c3b0] | (simp only [i64_w,i32_w];rw [c3b0]) | skip)
    have H':=Az.mk H;clear H
    go_wp2
    go_meet
    case rel=>exact ⟨_,(true),rs_,H',⟨by first | omega | exact Nat.le_refl _⟩,⟨bmv HB.out⟩⟩
  · rw [if_neg c3] at H
    have c3b0 : (((l0.length : Int) % 2) == 0) = false:=beq_eq_false_iff_ne.mpr c3;have c3b1 : (((l0.length : Int) % 2) != 0) = true:=bne_iff_ne.mpr c3
    (first | rw [c3b0] | (simp only [i64_w,i32_w];rw [c3b0]) | skip)
    replace H:=Option.bind_eq_some_iff.mp H;obtain ⟨t317,A40,H⟩:=H;(try dsimp only at H);have A4:=Az.mk A40;clear A40;replace H:=Option.bind_eq_some_iff.mp H;obtain ⟨t318,A50,H⟩:=H;(try dsimp only at H);have A5:=Az.mk A50;clear A50
    by_cases c6 : t318 = true
    · subst c6
      rw [if_pos rfl] at H;replace H:=Option.bind_eq_some_iff.mp H;obtain ⟨t319,A70,H⟩:=H;(try dsimp only at H);have A7:=Az.mk A70;clear A70;have H':=Az.mk H;clear H
      go_wp2_with (first | (go_at_call 21;(with_reducible refine (r4Leaves.calls _ _ l0 t317 _ ?side1 ?side2 A4.out).mono ?_);(case side1=>exact C_mv ((Kd.C_below HR0.out HB.out)));(case side2=>exact HC0.out);rintro e w' ⟨rfl,⟨nd,rfl⟩⟩) | (go_at_call 44;(with_reducible refine (r3Right.calls t317 true _ A5.out).mono ?_);rintro e w' ⟨rfl,⟨nd,rfl⟩⟩) | (go_at_call 45;(with_reducible refine (r4Tight.calls k _ _ l0 t319 _ ?side1 ?side2 A7.out).mono ?_);(case side1=>exact C_mv ((Kd.C_below HR0.out HB.out)));(case side2=>exact HC0.out);rintro e w' ⟨rfl,⟨nd,rfl⟩⟩))
      go_meet
      case rel=>exact ⟨_,(!t319),rs_,H',⟨by first | omega | exact Nat.le_refl _⟩,⟨bmv HB.out⟩⟩
    · replace c6:=Bool.eq_false_iff.mpr c6
      subst c6;rw [if_neg (show ¬ (false = true) by decide)] at H;have H':=Az.mk H;clear H
      go_wp2_with (first | (go_at_call 21;(with_reducible refine (r4Leaves.calls _ _ l0 t317 _ ?side1 ?side2 A4.out).mono ?_);(case side1=>exact C_mv ((Kd.C_below HR0.out HB.out)));(case side2=>exact HC0.out);rintro e w' ⟨rfl,⟨nd,rfl⟩⟩) | (go_at_call 44;(with_reducible refine (r3Right.calls t317 false _ A5.out).mono ?_);rintro e w' ⟨rfl,⟨nd,rfl⟩⟩))
      go_meet
      case rel=>exact ⟨_,(true),rs_,H',⟨by first | omega | exact Nat.le_refl _⟩,⟨bmv HB.out⟩⟩
 case rest=>
  clear HC2;(try clear c3);(try clear c3b0);(try clear c3b1);(try clear c6);obtain ⟨kq,x18_1,rfl,HA,HJ1,HB⟩:=hcut
  cases kq with
  | zero=>exact absurd HA.out (by simp [r4Check.j0])
  | succ kj1=>
   have H:=HA.out;clear HA;simp only [r4Check.j0] at H
   by_cases c8 : x18_1 = true
   · subst c8
     rw [if_pos rfl] at H;obtain rfl:=Option.some.inj H
     go_wp2
     go_ret
     exact ⟨by first | rfl | (simp [errW_none,errW_some] <;> rfl) | (simp [*,errW_none,errW_some] <;> rfl),bmv HB.out⟩
   · replace c8:=Bool.eq_false_iff.mpr c8
     subst c8;rw [if_neg (show ¬ (false = true) by decide)] at H;have H':=Az.mk H;clear H
     go_wp2
     go_loopg [3] kj1 (fun kq v3 w'=>∃ (x3_2 : Int),v3 = .int .i64 x3_2∧Az (r4Check.l0 kq l0 x3_2 = some r)∧Az (kq≤kj1)∧Az (Below w.heap.size w w'))
     case atStart=>exact ⟨(0),rs_,H',⟨Nat.le_refl _⟩,⟨bmv HB.out⟩⟩
     case round=>
      clear H';(try clear c3);(try clear c3b0);(try clear c3b1);(try clear c6);(try clear c8);obtain ⟨x3_2,rfl,HA,HK2,HB⟩:=hrel
      cases gk with
      | zero=>exact absurd HA.out (by simp [r4Check.l0])
      | succ k2=>
       have H:=HA.out;clear HA;simp only [r4Check.l0] at H
       by_cases c9 : x3_2 < (l0.length : Int)
       · rw [if_pos c9] at H
         have c9b0 : decide (x3_2 < (l0.length : Int)) = true:=decide_eq_true c9;clear c9;replace H:=Option.bind_eq_some_iff.mp H;obtain ⟨t320,A100,H⟩:=H;(try dsimp only at H);have A10:=Az.mk A100;clear A100
         by_cases c11 : t320 = true
         · subst c11
           rw [if_pos rfl] at H;have H':=Az.mk H;clear H
           go_wp2_with (first | ((with_reducible refine gate_callee (f:=46) rfl ?_);refine goesL_ (some 27) rfl rfl Tryd.func46 (by kernel_rfl) rfl #[.slice A0 l0.length c0,.int .i64 x3_2] rfl tl_ ?_;(with_reducible refine (r4vertex.calls k2 _ _ l0 x3_2 true _ ?side1 ?side2 A10.out).mono ?_);(case side1=>exact C_mv ((Kd.C_below HR0.out HB.out)));(case side2=>exact HC0.out);rintro e w12 ⟨rfl,hb⟩;refine ⟨_,rfl,?_⟩;replace HB:=Az.mk (bwT (bmv HB.out) hb);(try clear hb);(try clear hb2);(try clear hk);(try clear hi)))
           go_roundg k2
           case measure=>have:=HJ1.out;have:=HK2.out;omega
           case rel=>exact ⟨(wrap64 (x3_2 + 1)),rs_,H',⟨by have:=HJ1.out;have:=HK2.out;omega⟩,⟨bmv HB.out⟩⟩
         · replace c11:=Bool.eq_false_iff.mpr c11
           subst c11;rw [if_neg (show ¬ (false = true) by decide)] at H;obtain rfl:=Option.some.inj H
           go_wp2_with (first | ((with_reducible refine gate_callee (f:=46) rfl ?_);refine goesL_ (some 27) rfl rfl Tryd.func46 (by kernel_rfl) rfl #[.slice A0 l0.length c0,.int .i64 x3_2] rfl tl_ ?_;(with_reducible refine (r4vertex.calls k2 _ _ l0 x3_2 false _ ?side1 ?side2 A10.out).mono ?_);(case side1=>exact C_mv ((Kd.C_below HR0.out HB.out)));(case side2=>exact HC0.out);rintro e w13 ⟨rfl,hb⟩;refine ⟨_,rfl,?_⟩;replace HB:=Az.mk (bwT (bmv HB.out) hb);(try clear hb);(try clear hb2);(try clear hk);(try clear hi)))
           go_ret
           exact ⟨by first | rfl | (simp [errW_none,errW_some] <;> rfl) | (simp [*,errW_none,errW_some] <;> rfl),bmv HB.out⟩
       · rw [if_neg c9] at H
         have c9b0 : decide (x3_2 < (l0.length : Int)) = false:=decide_eq_false c9;clear c9;obtain rfl:=Option.some.inj H
         go_wp2
         go_ret
         exact ⟨by first | rfl | (simp [errW_none,errW_some] <;> rfl) | (simp [*,errW_none,errW_some] <;> rfl),bmv HB.out⟩
end Go.Proofs.YtbblomnhobodkaaDoor.PTw
namespace Go.Proofs.YtbblomnhobodkaaDoor.PTw
open Go.RowKit Go.Proofs.YtbblomnhobodkaaDoorW.PW Go.Proofs.YtbblomnhobodkaaDoorW.PL Go.Proofs.YtbblomnhobodkaaDoorW.PM
attribute [local go_sem] max2_int min2_int max_two min_two max_three min_three max_four min_four   -- for this text's walks alone
set_option linter.unusedVariables false
set_option linter.unusedSimpArgs false
def r4Members.l0 : Nat→List (S29)→List Int→Int→Option (List Int)
 | 0,_,_,_=>none
 | k + 1,x0,x3,x4=>(r4Leaves.f x0).bind fun t469=>(if x4 < t469 then ((r4Full.f x0 x4).bind fun t470=>(if t470 = true then (if x3.length < 17592186044416 then (r4Members.l0 k x0 (x3 ++ [x4]) (wrap64 (x4 + 1))) else (none)) else (r4Members.l0 k x0 x3 (wrap64 (x4 + 1))))) else (some x3))
def r4Members.f (k : Nat) (l0 : List (S29)) : Option (List Int):=r4Members.l0 k l0 ([] : List Int) 0
theorem r4Members.mono_l : ∀ k,(∀ y0 y1 y2,LeO (r4Members.l0 k y0 y1 y2) (r4Members.l0 (k + 1) y0 y1 y2))
 | 0=>fun _ _ _ r h=>by simp [r4Members.l0] at h
 | k + 1=>by
  have ih0:=r4Members.mono_l k
  · intro y0 y1 y2
    unfold r4Members.l0
    repeat' first
    | (with_reducible exact ih0 _ _ _)
    | (with_reducible exact LeO.refl _)
    | (with_reducible exact LeO.none _)
    | (with_reducible refine LeO.ite ?_ ?_)
    | (with_reducible refine LeO.bind ?_ (fun _=>?_))
    | exact ih0 _ _ _
    | exact LeO.none _
    | refine LeO.ite ?_ ?_
    | refine LeO.bind ?_ (fun _=>?_)
theorem r4Members.mono : ∀ a0 k,LeO (r4Members.f k a0) (r4Members.f (k + 1) a0):=by
 intro a0 k;have ih0:=r4Members.mono_l k;unfold r4Members.f
 repeat' first
  | (with_reducible exact ih0 _ _ _)
  | (with_reducible exact LeO.refl _)
  | (with_reducible exact LeO.none _)
  | (with_reducible refine LeO.ite ?_ ?_)
  | (with_reducible refine LeO.bind ?_ (fun _=>?_))
  | exact ih0 _ _ _
  | exact LeO.none _
  | refine LeO.ite ?_ ?_
  | refine LeO.bind ?_ (fun _=>?_)
set_option maxHeartbeats 8000000 in
set_option maxRecDepth 100000 in
theorem r4Members.calls (k : Nat) (A0 : Option Addr) (c0 : Nat) (l0 : List (S29)) (r : List Int) (w : World) (hr0 : Kd.C k29 w A0 l0.length l0) (hc0 : l0.length≤c0) (h : r4Members.f k l0 = some r) :
 Calls Tryd.prog 27 #[.slice A0 l0.length c0] w fun e w'=>∃ v0_ : Value,e = .returned (v0_)∧Kd.R (Kd.int .i64) 3 w' w.heap.size (fun _=>True) v0_ r∧Below w.heap.size w w':=by
 have HR0:=Az.mk hr0;have HC0:=Az.mk hc0;clear hr0 hc0;have HB:=Az.mk (Below.refl w.heap.size w);have H : (r4Members.l0 k l0 ([] : List Int) 0) = some r:=h;clear h;have H':=Az.mk H;clear H
 go_enter Tryd.func27,Tryd.ntmps27
 go_wp2
 go_loopg [3,4] k (fun kq v3 v4 w'=>∃ (x3_1 : List Int) (x4_1 : Int),v4 = .int .i64 x4_1∧Az (r4Members.l0 kq l0 x3_1 x4_1 = some r)∧Az (kq≤k)∧Az (Kd.R (Kd.int .i64) 3 w' w.heap.size (fun _=>True) v3 x3_1)∧Az (Below w.heap.size w w'))
 case atStart=>exact ⟨(([] : List Int)),(0),rs_,H',⟨Nat.le_refl _⟩,⟨by first | exact Kd.R_nil _ _ _ _ _ | exact Kd.N_nil _ _ _ _ _ | exact Kd.V_nil _ _ _ _ _ | exact Kd.Q_nil _ _ _ _ _ | exact Kd.S_nil _ _ _ _ _⟩,⟨bmv HB.out⟩⟩
 case round=>
  clear H';obtain ⟨x3_1,x4_1,rfl,HA,HK1,HO_3,HB⟩:=hrel
  cases gk with
  | zero=>exact absurd HA.out (by simp [r4Members.l0])
  | succ k1=>
   have H:=HA.out;clear HA;simp only [r4Members.l0] at H;replace H:=Option.bind_eq_some_iff.mp H;obtain ⟨t469,A20,H⟩:=H;(try dsimp only at H);have A2:=Az.mk A20;clear A20
   by_cases c3 : x4_1 < t469
   · rw [if_pos c3] at H
     have c3b0 : decide (x4_1 < t469) = true:=decide_eq_true c3;clear c3;replace H:=Option.bind_eq_some_iff.mp H;obtain ⟨t470,A40,H⟩:=H;(try dsimp only at H);have A4:=Az.mk A40;clear A40
     by_cases c5 : t470 = true
     · subst c5
       rw [if_pos rfl] at H
       by_cases c6 : x3_1.length < 17592186044416
       · rw [if_pos c6] at H
         have LMc6:=Az.mk c6;clear c6
         obtain ⟨y471,hy471⟩ : ∃ y_ : List Int,y_ = (x3_1 ++ [x4_1]):=⟨_,rfl⟩
         replace H : (r4Members.l0 k1 l0 y471 (wrap64 (x4_1 + 1))) = some r:=by first | (rw [hy471];with_reducible exact H) | (have H2_:=(Option.bind_some _ _).symm.trans H;rw [hy471];with_reducible exact H2_) | (have H2_:=(Option.bind_some _ _).symm.trans H;with_reducible exact H2_) | with_reducible exact H | (rw [hy471];exact H) | exact H
         have Ny471:=Az.mk hy471;clear hy471;have H':=Az.mk H;clear H
         go_wp2_with (first | ((with_reducible refine gate_callee (f:=21) rfl ?_);refine goesL_ (some 7) rfl rfl Tryd.func21 (by kernel_rfl) rfl #[.slice A0 l0.length c0] rfl tl_ ?_;(with_reducible refine (r4Leaves.calls _ _ l0 t469 _ ?side1 ?side2 A2.out).mono ?_);(case side1=>exact C_mv ((Kd.C_below HR0.out HB.out)));(case side2=>exact HC0.out);rintro e w' ⟨rfl,⟨nd,rfl⟩⟩;refine ⟨_,rfl,?_⟩) | ((with_reducible refine gate_callee (f:=22) rfl ?_);refine goesL_ (some 13) rfl rfl Tryd.func22 (by kernel_rfl) rfl #[.slice A0 l0.length c0,.int .i64 x4_1] rfl tl_ ?_;(with_reducible refine (r4Full.calls _ _ l0 x4_1 true _ ?side1 ?side2 A4.out).mono ?_);(case side1=>exact C_mv ((Kd.C_below HR0.out HB.out)));(case side2=>exact HC0.out);rintro e w' ⟨rfl,⟨nd,rfl⟩⟩;refine ⟨_,rfl,?_⟩) | ((with_reducible refine gate_builtin (b:=.append) (xs:=#[.tmp 14,.tmp 16]) rfl ?_);at_builtin;refine Kd.R_append (Kd.int .i64) (w0:=w) w.heap.size rfl (.tmp 14) (.tmp 16) 27 3 (.int .i64 0) 8 rfl Tryd.underlying27 info3 rfl (by decide) (by omega) u3 x3_1 x4_1 [.int .i64 x4_1] (fun _=>True) (fun _=>False) rfl rfl ?aP (fun _ hk=>hk.elim) ?aF ?aO ?aB ?aS ?aL ?_;(case aP=>exact rfl);(case aB=>exact (bmv HB.out));(case aF=>exact (fun _ _=>trivial));(case aO=>exact (R_mv HO_3.out));(case aS=>exact (bwZ (bmv HB.out)));(case aL=>have:=LMc6.out;omega);intro v472 w7 ho hb hg hat;rw [← Ny471.out] at ho;have HO473:=Az.mk (ho);replace HB:=Az.mk (hb);clear HO_3;clear ho hb hg hat))
         go_roundg k1
         case measure=>have:=HK1.out;omega
         case rel=>exact ⟨(y471),(wrap64 (x4_1 + 1)),rs_,H',⟨by have:=HK1.out;omega⟩,⟨R_mv HO473.out⟩,⟨bmv HB.out⟩⟩
       · rw [if_neg c6] at H
         exact absurd H (by simp)
     · replace c5:=Bool.eq_false_iff.mpr c5
       subst c5;rw [if_neg (show ¬ (false = true) by decide)] at H;have H':=Az.mk H;clear H
       go_wp2_with (first | ((with_reducible refine gate_callee (f:=21) rfl ?_);refine goesL_ (some 7) rfl rfl Tryd.func21 (by kernel_rfl) rfl #[.slice A0 l0.length c0] rfl tl_ ?_;(with_reducible refine (r4Leaves.calls _ _ l0 t469 _ ?side1 ?side2 A2.out).mono ?_);(case side1=>exact C_mv ((Kd.C_below HR0.out HB.out)));(case side2=>exact HC0.out);rintro e w' ⟨rfl,⟨nd,rfl⟩⟩;refine ⟨_,rfl,?_⟩) | ((with_reducible refine gate_callee (f:=22) rfl ?_);refine goesL_ (some 13) rfl rfl Tryd.func22 (by kernel_rfl) rfl #[.slice A0 l0.length c0,.int .i64 x4_1] rfl tl_ ?_;(with_reducible refine (r4Full.calls _ _ l0 x4_1 false _ ?side1 ?side2 A4.out).mono ?_);(case side1=>exact C_mv ((Kd.C_below HR0.out HB.out)));(case side2=>exact HC0.out);rintro e w' ⟨rfl,⟨nd,rfl⟩⟩;refine ⟨_,rfl,?_⟩))
       go_roundg k1
       case measure=>have:=HK1.out;omega
       case rel=>exact ⟨(x3_1),(wrap64 (x4_1 + 1)),rs_,H',⟨by have:=HK1.out;omega⟩,⟨R_mv HO_3.out⟩,⟨bmv HB.out⟩⟩
   · rw [if_neg c3] at H
     have c3b0 : decide (x4_1 < t469) = false:=decide_eq_false c3;clear c3;obtain rfl:=Option.some.inj H
     go_wp2_with (first | ((with_reducible refine gate_callee (f:=21) rfl ?_);refine goesL_ (some 7) rfl rfl Tryd.func21 (by kernel_rfl) rfl #[.slice A0 l0.length c0] rfl tl_ ?_;(with_reducible refine (r4Leaves.calls _ _ l0 t469 _ ?side1 ?side2 A2.out).mono ?_);(case side1=>exact C_mv ((Kd.C_below HR0.out HB.out)));(case side2=>exact HC0.out);rintro e w' ⟨rfl,⟨nd,rfl⟩⟩;refine ⟨_,rfl,?_⟩))
     go_ret
     exact ⟨_,by first | rfl | (simp [errW_none,errW_some] <;> rfl) | (simp [*,errW_none,errW_some] <;> rfl),R_mv HO_3.out,bmv HB.out⟩
def r4Leaf.f (a0_0 : Bool) (a0_1 : Int) (a0_2 : Int) (a0_3 : Int) (a0_4 : Int) (l0_5 : List Int) : Option (Bool × Int × Int × Int × Int × List Int):=some (true,a0_1,a0_2,a0_3,a0_4,([] : List Int))
set_option maxHeartbeats 8000000 in
set_option maxRecDepth 100000 in
theorem r4Leaf.calls (a0_0 : Bool) (a0_1 : Int) (a0_2 : Int) (a0_3 : Int) (a0_4 : Int) (A0_5 : Option Addr) (c0_5 : Nat) (l0_5 : List Int) (r1 : Bool) (r2 : Int) (r3 : Int) (r4 : Int) (r5 : Int) (r6 : List Int) (w : World) (hr0_5 : Kd.C (Kd.int .i64) w A0_5 l0_5.length l0_5) (hc0_5 : l0_5.length≤c0_5) (h : r4Leaf.f a0_0 a0_1 a0_2 a0_3 a0_4 l0_5 = some (r1,r2,r3,r4,r5,r6)) :
 Calls Tryd.prog 35 #[.agg #[.bool a0_0,.int .i64 a0_1,.int .i64 a0_2,.int .i64 a0_3,.int .i64 a0_4,.slice A0_5 l0_5.length c0_5]] w fun e w'=>∃ v5_ : Value,e = .returned (.agg #[.bool r1,.int .i64 r2,.int .i64 r3,.int .i64 r4,.int .i64 r5,v5_])∧Kd.R (Kd.int .i64) 3 w' w.heap.size (fun _=>True) v5_ r6∧Below w.heap.size w w':=by
 have hu29:=Tryd.underlying29;have HR0_5:=Az.mk hr0_5;have HC0_5:=Az.mk hc0_5;clear hr0_5 hc0_5;have HB:=Az.mk (Below.refl w.heap.size w);have H : (some (true,a0_1,a0_2,a0_3,a0_4,([] : List Int))) = some (r1,r2,r3,r4,r5,r6):=h;clear h;simp only [Option.some.injEq,Prod.mk.injEq] at H;obtain ⟨rfl,rfl,rfl,rfl,rfl,rfl⟩:=H
 go_enter Tryd.func35,Tryd.ntmps35
 go_wp2_with (first | ((with_reducible refine gate_dst (N:=1) rfl ?_);refine box_event ?hg (N:=1) ?hd (cs:=#[.bool a0_0,.int .i64 a0_1,.int .i64 a0_2,.int .i64 a0_3,.int .i64 a0_4,.slice A0_5 l0_5.length c0_5]) (t:=29) ?hr ?_;(case hd=>rfl);(case hg=>rfl);(case hr=>exact gr_);intro gb333 hg w2 hbox hb;have BK333:=Az.mk (hbox);have GW333:=Az.mk ((by rw [hg];exact (bwZ (bmv HB.out)) : w.heap.size≤gb333));have GE333:=Az.mk ((by rw [hg];exact (bwZ (bmv HB.out)) : w.heap.size≤gb333));replace HB:=Az.mk (bwT (bmv HB.out) hb);clear hb hbox hg) | ((with_reducible refine gate_dst (N:=2) rfl ?_);refine box_event ?hg (N:=2) ?hd (cs:=#[.bool false,.int .i64 0,.int .i64 0,.int .i64 0,.int .i64 0,.slice none 0 0]) (t:=29) ?hr ?_;(case hd=>rfl);(case hg=>rfl);(case hr=>exact gr_);intro gb334 hg w3 hbox hb;have BK334:=Az.mk (hbox);have GW334:=Az.mk ((by rw [hg];exact (bwZ (by repeat (with_reducible first | exact bmv HB.out | refine bwS ?_ GE333.out))) : w.heap.size≤gb334));have GE334:=Az.mk ((by rw [hg];exact (bwZ (by repeat (with_reducible first | exact bmv HB.out | refine bwS ?_ GE333.out))) : w.heap.size≤gb334));have NB333_334:=Az.mk ((by rw [hg];exact Nat.ne_of_lt (blk_lt (g:=gb333) (o:=.cells #[.bool a0_0,.int .i64 a0_1,.int .i64 a0_2,.int .i64 a0_3,.int .i64 a0_4,.slice A0_5 l0_5.length c0_5] 29 (0,0)) (blk_mv BK333.out)) : gb333≠gb334));have NB334_333:=Az.mk ((by rw [hg];exact Nat.ne_of_gt (blk_lt (g:=gb333) (o:=.cells #[.bool a0_0,.int .i64 a0_1,.int .i64 a0_2,.int .i64 a0_3,.int .i64 a0_4,.slice A0_5 l0_5.length c0_5] 29 (0,0)) (blk_mv BK333.out)) : gb334≠gb333));replace BK333:=Az.mk (kB (blk_mv BK333.out) hb);replace HB:=Az.mk (bwT (by repeat (with_reducible first | exact bmv HB.out | refine bwS ?_ GE333.out)) hb);clear hb hbox hg;have hnb4:=NB333_334.out;have hnc4:=NB334_333.out;obtain ⟨⟨hcz5_0,hcz5_1,hcz5_2,hcz5_3,hcz5_4,hcz5_5⟩,hfz5_0,hfz5_1,hfz5_2,hfz5_3,hfz5_4,hfz5_5⟩:=cells6 BK333.out;obtain ⟨⟨hcz6_0,hcz6_1,hcz6_2,hcz6_3,hcz6_4,hcz6_5⟩,hfz6_0,hfz6_1,hfz6_2,hfz6_3,hfz6_4,hfz6_5⟩:=cells6 BK334.out))
 refine bodyPost_ret (results_cell_row rfl _ _ gb334 29 #[.bool true,.int .i64 a0_1,.int .i64 a0_2,.int .i64 a0_3,.int .i64 a0_4,.slice none 0 0] (0,0) _ rfl (by (with_reducible repeat (first | refine kN ?_ _ | refine kD ?_ | refine kA ?_ _));refine blk_put (cs:=#[.bool true,.int .i64 a0_1,.int .i64 a0_2,.int .i64 a0_3,.int .i64 a0_4,.slice none 0 0]) ?_ 5 _ rfl;(with_reducible repeat (first | refine kN ?_ _ | refine kD ?_ | refine kA ?_ _));refine blk_put (cs:=#[.bool true,.int .i64 a0_1,.int .i64 a0_2,.int .i64 a0_3,.int .i64 0,.slice none 0 0]) ?_ 4 _ rfl;(with_reducible repeat (first | refine kN ?_ _ | refine kD ?_ | refine kA ?_ _));refine blk_put (cs:=#[.bool true,.int .i64 a0_1,.int .i64 a0_2,.int .i64 0,.int .i64 0,.slice none 0 0]) ?_ 3 _ rfl;(with_reducible repeat (first | refine kN ?_ _ | refine kD ?_ | refine kA ?_ _));refine blk_put (cs:=#[.bool true,.int .i64 a0_1,.int .i64 0,.int .i64 0,.int .i64 0,.slice none 0 0]) ?_ 2 _ rfl;(with_reducible repeat (first | refine kN ?_ _ | refine kD ?_ | refine kA ?_ _));refine blk_put (cs:=#[.bool true,.int .i64 0,.int .i64 0,.int .i64 0,.int .i64 0,.slice none 0 0]) ?_ 1 _ rfl;(with_reducible repeat (first | refine kN ?_ _ | refine kD ?_ | refine kA ?_ _));refine blk_put (cs:=#[.bool false,.int .i64 0,.int .i64 0,.int .i64 0,.int .i64 0,.slice none 0 0]) ?_ 0 _ rfl;(with_reducible repeat (first | refine kN ?_ _ | refine kD ?_ | refine kA ?_ _));exact BK334.out) Tryd.underlying29 rfl (by kernel_rfl)) rfl ?_;exact ⟨_,by first | rfl | (simp [errW_none,errW_some] <;> rfl) | (simp [*,errW_none,errW_some] <;> rfl),by first | exact Kd.R_nil _ _ _ _ _ | exact Kd.N_nil _ _ _ _ _ | exact Kd.V_nil _ _ _ _ _ | exact Kd.Q_nil _ _ _ _ _ | exact Kd.S_nil _ _ _ _ _,by repeat (with_reducible first | exact bmv HB.out | refine bwS ?_ GE333.out | refine bwS ?_ GE334.out)⟩
set_option maxHeartbeats 8000000 in
set_option maxRecDepth 100000 in
theorem r4Leaf.nil (a0_0 : Bool) (a0_1 : Int) (a0_2 : Int) (a0_3 : Int) (a0_4 : Int) (A0_5 : Option Addr) (c0_5 : Nat) (l0_5 : List Int) (w : World) (hr0_5 : Kd.C (Kd.int .i64) w A0_5 l0_5.length l0_5) (hc0_5 : l0_5.length≤c0_5) :
 Calls Tryd.prog 35 #[.agg #[.bool a0_0,.int .i64 a0_1,.int .i64 a0_2,.int .i64 a0_3,.int .i64 a0_4,.slice A0_5 l0_5.length c0_5]] w fun e w'=>e = .returned (.agg #[.bool true,.int .i64 a0_1,.int .i64 a0_2,.int .i64 a0_3,.int .i64 a0_4,.slice none 0 0])∧Below w.heap.size w w':=by
 have hu29:=Tryd.underlying29;have HR0_5:=Az.mk hr0_5;have HC0_5:=Az.mk hc0_5;clear hr0_5 hc0_5;have HB:=Az.mk (Below.refl w.heap.size w)
 go_enter Tryd.func35,Tryd.ntmps35
 go_wp2_with (first | ((with_reducible refine gate_dst (N:=1) rfl ?_);refine box_event ?hg (N:=1) ?hd (cs:=#[.bool a0_0,.int .i64 a0_1,.int .i64 a0_2,.int .i64 a0_3,.int .i64 a0_4,.slice A0_5 l0_5.length c0_5]) (t:=29) ?hr ?_;(case hd=>rfl);(case hg=>rfl);(case hr=>exact gr_);intro gb333 hg w2 hbox hb;have BK333:=Az.mk (hbox);have GW333:=Az.mk ((by rw [hg];exact (bwZ (bmv HB.out)) : w.heap.size≤gb333));have GE333:=Az.mk ((by rw [hg];exact (bwZ (bmv HB.out)) : w.heap.size≤gb333));replace HB:=Az.mk (bwT (bmv HB.out) hb);clear hb hbox hg) | ((with_reducible refine gate_dst (N:=2) rfl ?_);refine box_event ?hg (N:=2) ?hd (cs:=#[.bool false,.int .i64 0,.int .i64 0,.int .i64 0,.int .i64 0,.slice none 0 0]) (t:=29) ?hr ?_;(case hd=>rfl);(case hg=>rfl);(case hr=>exact gr_);intro gb334 hg w3 hbox hb;have BK334:=Az.mk (hbox);have GW334:=Az.mk ((by rw [hg];exact (bwZ (by repeat (with_reducible first | exact bmv HB.out | refine bwS ?_ GE333.out))) : w.heap.size≤gb334));have GE334:=Az.mk ((by rw [hg];exact (bwZ (by repeat (with_reducible first | exact bmv HB.out | refine bwS ?_ GE333.out))) : w.heap.size≤gb334));have NB333_334:=Az.mk ((by rw [hg];exact Nat.ne_of_lt (blk_lt (g:=gb333) (o:=.cells #[.bool a0_0,.int .i64 a0_1,.int .i64 a0_2,.int .i64 a0_3,.int .i64 a0_4,.slice A0_5 l0_5.length c0_5] 29 (0,0)) (blk_mv BK333.out)) : gb333≠gb334));have NB334_333:=Az.mk ((by rw [hg];exact Nat.ne_of_gt (blk_lt (g:=gb333) (o:=.cells #[.bool a0_0,.int .i64 a0_1,.int .i64 a0_2,.int .i64 a0_3,.int .i64 a0_4,.slice A0_5 l0_5.length c0_5] 29 (0,0)) (blk_mv BK333.out)) : gb334≠gb333));replace BK333:=Az.mk (kB (blk_mv BK333.out) hb);replace HB:=Az.mk (bwT (by repeat (with_reducible first | exact bmv HB.out | refine bwS ?_ GE333.out)) hb);clear hb hbox hg;have hnb4:=NB333_334.out;have hnc4:=NB334_333.out;obtain ⟨⟨hcz5_0,hcz5_1,hcz5_2,hcz5_3,hcz5_4,hcz5_5⟩,hfz5_0,hfz5_1,hfz5_2,hfz5_3,hfz5_4,hfz5_5⟩:=cells6 BK333.out;obtain ⟨⟨hcz6_0,hcz6_1,hcz6_2,hcz6_3,hcz6_4,hcz6_5⟩,hfz6_0,hfz6_1,hfz6_2,hfz6_3,hfz6_4,hfz6_5⟩:=cells6 BK334.out))
 refine bodyPost_ret (results_cell_row rfl _ _ gb334 29 #[.bool true,.int .i64 a0_1,.int .i64 a0_2,.int .i64 a0_3,.int .i64 a0_4,.slice none 0 0] (0,0) _ rfl (by (with_reducible repeat (first | refine kN ?_ _ | refine kD ?_ | refine kA ?_ _));refine blk_put (cs:=#[.bool true,.int .i64 a0_1,.int .i64 a0_2,.int .i64 a0_3,.int .i64 a0_4,.slice none 0 0]) ?_ 5 _ rfl;(with_reducible repeat (first | refine kN ?_ _ | refine kD ?_ | refine kA ?_ _));refine blk_put (cs:=#[.bool true,.int .i64 a0_1,.int .i64 a0_2,.int .i64 a0_3,.int .i64 0,.slice none 0 0]) ?_ 4 _ rfl;(with_reducible repeat (first | refine kN ?_ _ | refine kD ?_ | refine kA ?_ _));refine blk_put (cs:=#[.bool true,.int .i64 a0_1,.int .i64 a0_2,.int .i64 0,.int .i64 0,.slice none 0 0]) ?_ 3 _ rfl;(with_reducible repeat (first | refine kN ?_ _ | refine kD ?_ | refine kA ?_ _));refine blk_put (cs:=#[.bool true,.int .i64 a0_1,.int .i64 0,.int .i64 0,.int .i64 0,.slice none 0 0]) ?_ 2 _ rfl;(with_reducible repeat (first | refine kN ?_ _ | refine kD ?_ | refine kA ?_ _));refine blk_put (cs:=#[.bool true,.int .i64 0,.int .i64 0,.int .i64 0,.int .i64 0,.slice none 0 0]) ?_ 1 _ rfl;(with_reducible repeat (first | refine kN ?_ _ | refine kD ?_ | refine kA ?_ _));refine blk_put (cs:=#[.bool false,.int .i64 0,.int .i64 0,.int .i64 0,.int .i64 0,.slice none 0 0]) ?_ 0 _ rfl;(with_reducible repeat (first | refine kN ?_ _ | refine kD ?_ | refine kA ?_ _));exact BK334.out) Tryd.underlying29 rfl (by kernel_rfl)) rfl ?_;exact ⟨rfl,by repeat (with_reducible first | exact bmv HB.out | refine bwS ?_ GE333.out | refine bwS ?_ GE334.out)⟩
def r4with.l0 : Nat→List Int→Int→List Int→Bool→Int→Option (List Int)
 | 0,_,_,_,_,_=>none
 | k + 1,x0,x1,x5,x6,x7=>if x7 < (x0.length : Int) then (if x6 = true then (if 0≤x7 then (if x5.length < 17592186044416 then (r4with.l0 k x0 x1 (x5 ++ [rd x0 x7]) x6 (wrap64 (x7 + 1))) else (none)) else (none)) else (if 0≤x7 then (if (rd x0 x7) > x1 then (if x5.length < 17592186044416 then ((some (x5 ++ [x1] : List Int)).bind fun y340=>(if y340.length < 17592186044416 then (r4with.l0 k x0 x1 (y340 ++ [rd x0 x7]) true (wrap64 (x7 + 1))) else (none))) else (none)) else (if x5.length < 17592186044416 then (r4with.l0 k x0 x1 (x5 ++ [rd x0 x7]) x6 (wrap64 (x7 + 1))) else (none))) else (none))) else (if x6 = true then (some x5) else (if x5.length < 17592186044416 then (some (x5 ++ [x1])) else (none)))
def r4with.f (k : Nat) (l0 : List Int) (a1 : Int) : Option (List Int):=r4with.l0 k l0 a1 ([] : List Int) false 0
theorem r4with.mono_l : ∀ k,(∀ y0 y1 y2 y3 y4,LeO (r4with.l0 k y0 y1 y2 y3 y4) (r4with.l0 (k + 1) y0 y1 y2 y3 y4))
 | 0=>fun _ _ _ _ _ r h=>by simp [r4with.l0] at h
 | k + 1=>by
  have ih0:=r4with.mono_l k
  · intro y0 y1 y2 y3 y4
    unfold r4with.l0
    repeat' first
    | (with_reducible exact ih0 _ _ _ _ _)
    | (with_reducible exact LeO.refl _)
    | (with_reducible exact LeO.none _)
    | (with_reducible refine LeO.ite ?_ ?_)
    | (with_reducible refine LeO.bind ?_ (fun _=>?_))
    | exact ih0 _ _ _ _ _
    | exact LeO.none _
    | refine LeO.ite ?_ ?_
    | refine LeO.bind ?_ (fun _=>?_)
theorem r4with.mono : ∀ a0 a1 k,LeO (r4with.f k a0 a1) (r4with.f (k + 1) a0 a1):=by
 intro a0 a1 k;have ih0:=r4with.mono_l k;unfold r4with.f
 repeat' first
  | (with_reducible exact ih0 _ _ _ _ _)
  | (with_reducible exact LeO.refl _)
  | (with_reducible exact LeO.none _)
  | (with_reducible refine LeO.ite ?_ ?_)
  | (with_reducible refine LeO.bind ?_ (fun _=>?_))
  | exact ih0 _ _ _ _ _
  | exact LeO.none _
  | refine LeO.ite ?_ ?_
  | refine LeO.bind ?_ (fun _=>?_)
set_option maxHeartbeats 8000000 in
set_option maxRecDepth 100000 in
theorem r4with.calls (k : Nat) (A0 : Option Addr) (c0 : Nat) (l0 : List Int) (a1 : Int) (r : List Int) (w : World) (hr0 : Kd.C (Kd.int .i64) w A0 l0.length l0) (hc0 : l0.length≤c0) (h : r4with.f k l0 a1 = some r) :
 Calls Tryd.prog 55 #[.slice A0 l0.length c0,.int .i64 a1] w fun e w'=>∃ v0_ : Value,e = .returned (v0_)∧Kd.R (Kd.int .i64) 3 w' w.heap.size (fun _=>True) v0_ r∧Below w.heap.size w w':=by
 have HR0:=Az.mk hr0;have HC0:=Az.mk hc0;clear hr0 hc0;have HB:=Az.mk (Below.refl w.heap.size w);have H : (r4with.l0 k l0 a1 ([] : List Int) false 0) = some r:=h;clear h;have H':=Az.mk H;clear H
 go_enter Tryd.func55,Tryd.ntmps55
 go_wp2
 go_loopg [5,6,7] k (fun kq v5 v6 v7 w'=>∃ (x5_1 : List Int) (x6_1 : Bool) (x7_1 : Int),v6 = .bool x6_1∧v7 = .int .i64 x7_1∧Az (r4with.l0 kq l0 a1 x5_1 x6_1 x7_1 = some r)∧Az (kq≤k)∧Az (Kd.R (Kd.int .i64) 3 w' w.heap.size (fun _=>True) v5 x5_1)∧Az (Below w.heap.size w w'))
 case atStart=>exact ⟨(([] : List Int)),(false),(0),rs_,rs_,H',⟨Nat.le_refl _⟩,⟨by first | exact Kd.R_nil _ _ _ _ _ | exact Kd.N_nil _ _ _ _ _ | exact Kd.V_nil _ _ _ _ _ | exact Kd.Q_nil _ _ _ _ _ | exact Kd.S_nil _ _ _ _ _⟩,⟨bmv HB.out⟩⟩
 case round=>
  clear H';obtain ⟨x5_1,x6_1,x7_1,rfl,rfl,HA,HK1,HO_5,HB⟩:=hrel
  cases gk with
  | zero=>exact absurd HA.out (by simp [r4with.l0])
  | succ k1=>
   have H:=HA.out;clear HA;simp only [r4with.l0] at H
   by_cases c3 : x7_1 < (l0.length : Int)
   · rw [if_pos c3] at H
     have c3b0 : decide (x7_1 < (l0.length : Int)) = true:=decide_eq_true c3;clear c3
     by_cases c4 : x6_1 = true
     · subst c4
       rw [if_pos rfl] at H
       by_cases c5 : 0≤x7_1
       · rw [if_pos c5] at H
         have c5b0 : decide (0≤x7_1) = true:=decide_eq_true c5;clear c5
         by_cases c6 : x5_1.length < 17592186044416
         · rw [if_pos c6] at H
           have LMc6:=Az.mk c6;clear c6
           obtain ⟨y336,hy336⟩ : ∃ y_ : List Int,y_ = (x5_1 ++ [rd l0 x7_1]):=⟨_,rfl⟩
           replace H : (r4with.l0 k1 l0 a1 y336 true (wrap64 (x7_1 + 1))) = some r:=by first | (rw [hy336];with_reducible exact H) | (have H2_:=(Option.bind_some _ _).symm.trans H;rw [hy336];with_reducible exact H2_) | (have H2_:=(Option.bind_some _ _).symm.trans H;with_reducible exact H2_) | with_reducible exact H | (rw [hy336];exact H) | exact H
           have Ny336:=Az.mk hy336;clear hy336;have H':=Az.mk H;clear H;have p335 : 0≤(x7_1 : Int):=dt_;have q335 : x7_1 < (l0.length : Int):=dt_;obtain ⟨ad335,e335,hx335_0⟩:=Kd.at_int HR0.out x7_1 p335 q335;cases e335;replace hx335_0:=hbc HB.out hx335_0;replace p335:=eq_true p335;replace q335:=eq_true q335
           go_wp2_with (first | ((with_reducible refine gate_builtin (b:=.append) (xs:=#[.tmp 28,.tmp 33]) rfl ?_);at_builtin;refine Kd.R_append (Kd.int .i64) (w0:=w) w.heap.size rfl (.tmp 28) (.tmp 33) 27 3 (.int .i64 0) 8 rfl Tryd.underlying27 info3 rfl (by decide) (by omega) u5 x5_1 (rd l0 x7_1) [.int .i64 (rd l0 x7_1)] (fun _=>True) (fun _=>False) rfl rfl ?aP (fun _ hk=>hk.elim) ?aF ?aO ?aB ?aS ?aL ?_;(case aP=>exact rfl);(case aB=>exact (bmv HB.out));(case aF=>exact (fun _ _=>trivial));(case aO=>exact (R_mv HO_5.out));(case aS=>exact (bwZ (bmv HB.out)));(case aL=>have:=LMc6.out;omega);intro v337 w7 ho hb hg hat;rw [← Ny336.out] at ho;have HO338:=Az.mk (ho);replace HB:=Az.mk (hb);clear HO_5;clear ho hb hg hat))
           go_roundg k1
           case measure=>have:=HK1.out;omega
           case rel=>exact ⟨(y336),(true),(wrap64 (x7_1 + 1)),rs_,rs_,H',⟨by have:=HK1.out;omega⟩,⟨R_mv HO338.out⟩,⟨bmv HB.out⟩⟩
         · rw [if_neg c6] at H
           exact absurd H (by simp)
       · rw [if_neg c5] at H
         exact absurd H (by simp)
     · replace c4:=Bool.eq_false_iff.mpr c4
       subst c4;rw [if_neg (show ¬ (false = true) by decide)] at H
       by_cases c8 : 0≤x7_1
       · rw [if_pos c8] at H
         have c8b0 : decide (0≤x7_1) = true:=decide_eq_true c8;clear c8
         by_cases c9 : (rd l0 x7_1) > a1
         · rw [if_pos c9] at H
           have c9b0 : decide (a1 < (rd l0 x7_1)) = true:=decide_eq_true c9;clear c9
           by_cases c10 : x5_1.length < 17592186044416
           · rw [if_pos c10] at H
             have LMc10:=Az.mk c10;clear c10
             obtain ⟨y340,hy340⟩ : ∃ y_ : List Int,y_ = (x5_1 ++ [a1]):=⟨_,rfl⟩
             replace H : (if y340.length < 17592186044416 then (r4with.l0 k1 l0 a1 (y340 ++ [rd l0 x7_1]) true (wrap64 (x7_1 + 1))) else (none)) = some r:=by first | (rw [hy340];with_reducible exact H) | (have H2_:=(Option.bind_some _ _).symm.trans H;rw [hy340];with_reducible exact H2_) | (have H2_:=(Option.bind_some _ _).symm.trans H;with_reducible exact H2_) | with_reducible exact H | (rw [hy340];exact H) | exact H
             have Ny340:=Az.mk hy340;clear hy340
             by_cases c11 : y340.length < 17592186044416
             · rw [if_pos c11] at H
               have LMc11:=Az.mk c11;clear c11
               obtain ⟨y344,hy344⟩ : ∃ y_ : List Int,y_ = (y340 ++ [rd l0 x7_1]):=⟨_,rfl⟩
               replace H : (r4with.l0 k1 l0 a1 y344 true (wrap64 (x7_1 + 1))) = some r:=by first | (rw [hy344];with_reducible exact H) | (have H2_:=(Option.bind_some _ _).symm.trans H;rw [hy344];with_reducible exact H2_) | (have H2_:=(Option.bind_some _ _).symm.trans H;with_reducible exact H2_) | with_reducible exact H | (rw [hy344];exact H) | exact H
               have Ny344:=Az.mk hy344;clear hy344;have H':=Az.mk H;clear H;have p339 : 0≤(x7_1 : Int):=dt_;have q339 : x7_1 < (l0.length : Int):=dt_;obtain ⟨ad339,e339,hx339_0⟩:=Kd.at_int HR0.out x7_1 p339 q339;cases e339;replace hx339_0:=hbc HB.out hx339_0;replace p339:=eq_true p339;replace q339:=eq_true q339
               go_wp2_with (first | ((with_reducible refine gate_builtin (b:=.append) (xs:=#[.tmp 24,.tmp 26]) rfl ?_);at_builtin;refine Kd.R_append (Kd.int .i64) (w0:=w) w.heap.size rfl (.tmp 24) (.tmp 26) 27 3 (.int .i64 0) 8 rfl Tryd.underlying27 info3 rfl (by decide) (by omega) u5 x5_1 a1 [.int .i64 a1] (fun _=>True) (fun _=>False) rfl rfl ?aP (fun _ hk=>hk.elim) ?aF ?aO ?aB ?aS ?aL ?_;(case aP=>exact rfl);(case aB=>exact (bmv HB.out));(case aF=>exact (fun _ _=>trivial));(case aO=>exact (R_mv HO_5.out));(case aS=>exact (bwZ (bmv HB.out)));(case aL=>have:=LMc10.out;omega);intro v341 w12 ho hb hg hat;rw [← Ny340.out] at ho;have HO342:=Az.mk (ho);replace HB:=Az.mk (hb);clear HO_5;clear ho hb hg hat;have p343 : 0≤(x7_1 : Int):=dt_;have q343 : x7_1 < (l0.length : Int):=dt_;obtain ⟨ad343,e343,hx343_0⟩:=Kd.at_int HR0.out x7_1 p343 q343;obtain rfl : ad339 = ad343:=(by injection e343);replace hx343_0:=hbc HB.out hx343_0;replace p343:=eq_true p343;replace q343:=eq_true q343) | ((with_reducible refine gate_builtin (b:=.append) (xs:=#[.tmp 28,.tmp 33]) rfl ?_);at_builtin;refine Kd.R_append (Kd.int .i64) (w0:=w) w.heap.size rfl (.tmp 28) (.tmp 33) 27 3 (.int .i64 0) 8 rfl Tryd.underlying27 info3 rfl (by decide) (by omega) v341 y340 (rd l0 x7_1) [.int .i64 (rd l0 x7_1)] (fun _=>True) (fun _=>False) rfl rfl ?aP (fun _ hk=>hk.elim) ?aF ?aO ?aB ?aS ?aL ?_;(case aP=>exact rfl);(case aB=>exact (bmv HB.out));(case aF=>exact (fun _ _=>trivial));(case aO=>exact (R_mv HO342.out));(case aS=>exact (bwZ (bmv HB.out)));(case aL=>have:=LMc11.out;omega);intro v345 w13 ho hb hg hat;rw [← Ny344.out] at ho;have HO346:=Az.mk (ho);replace HB:=Az.mk (hb);clear HO342;clear ho hb hg hat))
               go_roundg k1
               case measure=>have:=HK1.out;omega
               case rel=>exact ⟨(y344),(true),(wrap64 (x7_1 + 1)),rs_,rs_,H',⟨by have:=HK1.out;omega⟩,⟨R_mv HO346.out⟩,⟨bmv HB.out⟩⟩
             · rw [if_neg c11] at H
               exact absurd H (by simp)
           · rw [if_neg c10] at H
             exact absurd H (by simp)
         · rw [if_neg c9] at H
           have c9b0 : decide (a1 < (rd l0 x7_1)) = false:=decide_eq_false c9;clear c9
           by_cases c14 : x5_1.length < 17592186044416
           · rw [if_pos c14] at H
             have LMc14:=Az.mk c14;clear c14
             obtain ⟨y348,hy348⟩ : ∃ y_ : List Int,y_ = (x5_1 ++ [rd l0 x7_1]):=⟨_,rfl⟩
             replace H : (r4with.l0 k1 l0 a1 y348 false (wrap64 (x7_1 + 1))) = some r:=by first | (rw [hy348];with_reducible exact H) | (have H2_:=(Option.bind_some _ _).symm.trans H;rw [hy348];with_reducible exact H2_) | (have H2_:=(Option.bind_some _ _).symm.trans H;with_reducible exact H2_) | with_reducible exact H | (rw [hy348];exact H) | exact H
             have Ny348:=Az.mk hy348;clear hy348;have H':=Az.mk H;clear H;have p339 : 0≤(x7_1 : Int):=dt_;have q339 : x7_1 < (l0.length : Int):=dt_;obtain ⟨ad339,e339,hx339_0⟩:=Kd.at_int HR0.out x7_1 p339 q339;cases e339;replace hx339_0:=hbc HB.out hx339_0;replace p339:=eq_true p339;replace q339:=eq_true q339;have p347 : 0≤(x7_1 : Int):=dt_;have q347 : x7_1 < (l0.length : Int):=dt_;obtain ⟨ad347,e347,hx347_0⟩:=Kd.at_int HR0.out x7_1 p347 q347;obtain rfl : ad339 = ad347:=(by injection e347);replace hx347_0:=hbc HB.out hx347_0;replace p347:=eq_true p347;replace q347:=eq_true q347
             go_wp2_with (first | ((with_reducible refine gate_builtin (b:=.append) (xs:=#[.tmp 28,.tmp 33]) rfl ?_);at_builtin;refine Kd.R_append (Kd.int .i64) (w0:=w) w.heap.size rfl (.tmp 28) (.tmp 33) 27 3 (.int .i64 0) 8 rfl Tryd.underlying27 info3 rfl (by decide) (by omega) u5 x5_1 (rd l0 x7_1) [.int .i64 (rd l0 x7_1)] (fun _=>True) (fun _=>False) rfl rfl ?aP (fun _ hk=>hk.elim) ?aF ?aO ?aB ?aS ?aL ?_;(case aP=>exact rfl);(case aB=>exact (bmv HB.out));(case aF=>exact (fun _ _=>trivial));(case aO=>exact (R_mv HO_5.out));(case aS=>exact (bwZ (bmv HB.out)));(case aL=>have:=LMc14.out;omega);intro v349 w15 ho hb hg hat;rw [← Ny348.out] at ho;have HO350:=Az.mk (ho);replace HB:=Az.mk (hb);clear HO_5;clear ho hb hg hat))
             go_roundg k1
             case measure=>have:=HK1.out;omega
             case rel=>exact ⟨(y348),(false),(wrap64 (x7_1 + 1)),rs_,rs_,H',⟨by have:=HK1.out;omega⟩,⟨R_mv HO350.out⟩,⟨bmv HB.out⟩⟩
           · rw [if_neg c14] at H
             exact absurd H (by simp)
       · rw [if_neg c8] at H
         exact absurd H (by simp)
   · rw [if_neg c3] at H
     have c3b0 : decide (x7_1 < (l0.length : Int)) = false:=decide_eq_false c3;clear c3
     by_cases c16 : x6_1 = true
     · subst c16
       rw [if_pos rfl] at H;obtain rfl:=Option.some.inj H
       go_wp2
       go_ret
       exact ⟨_,by first | rfl | (simp [errW_none,errW_some] <;> rfl) | (simp [*,errW_none,errW_some] <;> rfl),R_mv HO_5.out,bmv HB.out⟩
     · replace c16:=Bool.eq_false_iff.mpr c16
       subst c16;rw [if_neg (show ¬ (false = true) by decide)] at H
       by_cases c17 : x5_1.length < 17592186044416
       · rw [if_pos c17] at H
         have LMc17:=Az.mk c17;clear c17
         obtain ⟨y351,hy351⟩ : ∃ y_ : List Int,y_ = (x5_1 ++ [a1]):=⟨_,rfl⟩
         replace H : (some y351) = some r:=by first | (rw [hy351];with_reducible exact H) | (have H2_:=(Option.bind_some _ _).symm.trans H;rw [hy351];with_reducible exact H2_) | (have H2_:=(Option.bind_some _ _).symm.trans H;with_reducible exact H2_) | with_reducible exact H | (rw [hy351];exact H) | exact H
         have Ny351:=Az.mk hy351;clear hy351;obtain rfl:=Option.some.inj H
         go_wp2_with (first | ((with_reducible refine gate_builtin (b:=.append) (xs:=#[.tmp 37,.tmp 39]) rfl ?_);at_builtin;refine Kd.R_append (Kd.int .i64) (w0:=w) w.heap.size rfl (.tmp 37) (.tmp 39) 27 3 (.int .i64 0) 8 rfl Tryd.underlying27 info3 rfl (by decide) (by omega) u5 x5_1 a1 [.int .i64 a1] (fun _=>True) (fun _=>False) rfl rfl ?aP (fun _ hk=>hk.elim) ?aF ?aO ?aB ?aS ?aL ?_;(case aP=>exact rfl);(case aB=>exact (bmv HB.out));(case aF=>exact (fun _ _=>trivial));(case aO=>exact (R_mv HO_5.out));(case aS=>exact (bwZ (bmv HB.out)));(case aL=>have:=LMc17.out;omega);intro v352 w18 ho hb hg hat;rw [← Ny351.out] at ho;have HO353:=Az.mk (ho);replace HB:=Az.mk (hb);clear HO_5;clear ho hb hg hat))
         go_ret
         exact ⟨_,by first | rfl | (simp [errW_none,errW_some] <;> rfl) | (simp [*,errW_none,errW_some] <;> rfl),R_mv HO353.out,bmv HB.out⟩
       · rw [if_neg c17] at H
         exact absurd H (by simp)
end Go.Proofs.YtbblomnhobodkaaDoor.PTw
